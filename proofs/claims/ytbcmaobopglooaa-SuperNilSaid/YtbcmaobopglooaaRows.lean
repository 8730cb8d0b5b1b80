/-
  No cell of these rows narrows 'for every input' (looked for: loops, veiled, ifaces, maps, wideKeys, modest, calm, conditions, laid).
  DERIVED. THE GIVEN ROWS OF THIS SEAT. 4 by the template 'for every input the law returns true; each argument reads behind the call as it read before'; 0 by the template 'total and deterministic' (their statements: YtbcmaobopglooaaTotals.lean).
  GIVEN WITH THE SEED: the statements are not yours to turn. If you find one false, say at which input.
  Laid BY PROGRAM, IN A SANDBOX (cutbox-rows.mjs): the forced cells as the released guide's own fill.sh prints them over the translation 88d8acddc0616ea4… (all of the seat's roots in one cut). By AI agents, Wed Nov 11 2026. No macro, syntax, notation, axiom, sorry.
-/
import Derived.Test.YtbcmaobopglooaaChecked
import GoSem.Claim
import GoSem.ClaimJoined
import GoSem.ClaimMapViews
import Derived.JoinedTies
import Derived.KernelRfl
namespace Go.Proofs.Ytbcmaobopglooaa
/- THE CELL 'sum', in the pinned program and in every row, IS THE sha256 OF THE DUMP (.gsa) THAT YtbcmaobopglooaaProg.lean LOADS. Nothing in Lean hashes anything: it is a label: what it is worth is what the hold of that sum in a sandbox is worth. -/
noncomputable def Try.pinned : Pinned := { name := "ytbcmaobopglooaa", sum := "88d8acddc0616ea4d703cb4f60d66139fff0430cf587e2d104bd4961633e826e", checked := Try.checked }
namespace Rows
def none {H : Type} : Left H := { results := [], args := [] }

/-- 'reevelaw06.SuperNil': WHATEVER THE INPUT: true; the input reads as it did. -/
def superNilSpec : ChangeSpec := { name := "superNil", fn := fun _ => fun
  | [d] => { results := [.lit (.bool true)], args := [d] }
  | _ => none }
def superNilRow : OpenClaim := { program := "ytbcmaobopglooaa", sum := "88d8acddc0616ea4d703cb4f60d66139fff0430cf587e2d104bd4961633e826e", func := "reeve/reevelaw06.SuperNil", spec := "superNil", apart := false }
def SuperNilSaid : Prop := superNilRow.holds Try.pinned (OpenSpec.ofChange superNilSpec)

/-- ITS FALSE NEIGHBOUR: 'it returns false'. Refute it at one input. -/
def superNilWrong : ChangeSpec := { name := "superNil", fn := fun _ => fun
  | [d] => { results := [.lit (.bool false)], args := [d] }
  | _ => none }
def SuperNilWrongFalsely : Prop := superNilRow.holds Try.pinned (OpenSpec.ofChange superNilWrong)

/-- 'reevelaw06.SuperCuts': WHATEVER THE INPUT: true; the input reads as it did. -/
def superCutsSpec : ChangeSpec := { name := "superCuts", fn := fun _ => fun
  | [d] => { results := [.lit (.bool true)], args := [d] }
  | _ => none }
def superCutsRow : OpenClaim := { program := "ytbcmaobopglooaa", sum := "88d8acddc0616ea4d703cb4f60d66139fff0430cf587e2d104bd4961633e826e", func := "reeve/reevelaw06.SuperCuts", spec := "superCuts", apart := false }
def SuperCutsSaid : Prop := superCutsRow.holds Try.pinned (OpenSpec.ofChange superCutsSpec)

/-- ITS FALSE NEIGHBOUR: 'it returns false'. Refute it at one input. -/
def superCutsWrong : ChangeSpec := { name := "superCuts", fn := fun _ => fun
  | [d] => { results := [.lit (.bool false)], args := [d] }
  | _ => none }
def SuperCutsWrongFalsely : Prop := superCutsRow.holds Try.pinned (OpenSpec.ofChange superCutsWrong)

/-- 'reevelaw06.SuperLost': WHATEVER THE INPUT: true; the input reads as it did. -/
def superLostSpec : ChangeSpec := { name := "superLost", fn := fun _ => fun
  | [d1, d2] => { results := [.lit (.bool true)], args := [d1, d2] }
  | _ => none }
def superLostRow : OpenClaim := { program := "ytbcmaobopglooaa", sum := "88d8acddc0616ea4d703cb4f60d66139fff0430cf587e2d104bd4961633e826e", func := "reeve/reevelaw06.SuperLost", spec := "superLost", apart := false }
def SuperLostSaid : Prop := superLostRow.holds Try.pinned (OpenSpec.ofChange superLostSpec)

/-- ITS FALSE NEIGHBOUR: 'it returns false'. Refute it at one input. -/
def superLostWrong : ChangeSpec := { name := "superLost", fn := fun _ => fun
  | [d1, d2] => { results := [.lit (.bool false)], args := [d1, d2] }
  | _ => none }
def SuperLostWrongFalsely : Prop := superLostRow.holds Try.pinned (OpenSpec.ofChange superLostWrong)

/-- 'reevelaw06.SuperSaves': WHATEVER THE INPUT: true; the input reads as it did. -/
def superSavesSpec : ChangeSpec := { name := "superSaves", fn := fun _ => fun
  | [d1, d2] => { results := [.lit (.bool true)], args := [d1, d2] }
  | _ => none }
def superSavesRow : OpenClaim := { program := "ytbcmaobopglooaa", sum := "88d8acddc0616ea4d703cb4f60d66139fff0430cf587e2d104bd4961633e826e", func := "reeve/reevelaw06.SuperSaves", spec := "superSaves", apart := false }
def SuperSavesSaid : Prop := superSavesRow.holds Try.pinned (OpenSpec.ofChange superSavesSpec)

/-- ITS FALSE NEIGHBOUR: 'it returns false'. Refute it at one input. -/
def superSavesWrong : ChangeSpec := { name := "superSaves", fn := fun _ => fun
  | [d1, d2] => { results := [.lit (.bool false)], args := [d1, d2] }
  | _ => none }
def SuperSavesWrongFalsely : Prop := superSavesRow.holds Try.pinned (OpenSpec.ofChange superSavesWrong)

/- THE SECOND FORM. 'bulk': how many values and letters a reading holds, each counted each time it is reached (what is shared counts as often as it is met; a slice's spare places count too). A statement '..UptoSaid' is the law's where the arguments, and the package variables that the reading takes, are together of bulk at most 1048576: NARROWER than '..Said'. Prove '..Said' where nothing that the law and all that it calls make is longer than what came in: it says more and counts as full. Else prove '..UptoSaid'. A law counts once. -/
mutual
def uptoBulk {H : Type} : DataW H → Nat
  | .lit (.string bytes) => bytes.length + 1
  | .lit _ => 1
  | .nil => 1
  | .ptr d => uptoBulk d + 1
  | .slice elems spare => uptoBulkAll elems + uptoBulkAll spare + 1
  | .agg parts => uptoBulkAll parts + 1
  | .iface _ d => uptoBulk d + 1
  | .map entries => uptoBulkEntries entries + 1
  | .held _ => 1
def uptoBulkAll {H : Type} : List (DataW H) → Nat
  | [] => 0
  | d :: r => uptoBulk d + uptoBulkAll r
def uptoBulkEntries {H : Type} : List (Lit × DataW H) → Nat
  | [] => 0
  | x :: r => uptoBulkEntry x + uptoBulkEntries r
def uptoBulkEntry {H : Type} : Lit × DataW H → Nat
  | (.string bytes, d) => bytes.length + uptoBulk d + 1
  | (_, d) => uptoBulk d + 1
 end
def uptoSmall : (H : Type) → List (DataW H) → Bool := fun _ ds => decide (uptoBulkAll ds ≤ 1048576)
def OpenSpec.upto (s : _root_.Go.ChangeSpec) : _root_.Go.OpenSpec := { _root_.Go.OpenSpec.ofChange s with cond := some uptoSmall }

/-- 'reevelaw06.SuperNil', WHERE WHAT IT READS IS OF BULK AT MOST 1048576: true; the input reads as it did. -/
def superNilUptoRow : OpenClaim := { program := "ytbcmaobopglooaa", sum := "88d8acddc0616ea4d703cb4f60d66139fff0430cf587e2d104bd4961633e826e", func := "reeve/reevelaw06.SuperNil", spec := "superNil", apart := false, narrowed := true }
def SuperNilUptoSaid : Prop := superNilUptoRow.holds Try.pinned (OpenSpec.upto superNilSpec)

/-- 'reevelaw06.SuperCuts', WHERE WHAT IT READS IS OF BULK AT MOST 1048576: true; the input reads as it did. -/
def superCutsUptoRow : OpenClaim := { program := "ytbcmaobopglooaa", sum := "88d8acddc0616ea4d703cb4f60d66139fff0430cf587e2d104bd4961633e826e", func := "reeve/reevelaw06.SuperCuts", spec := "superCuts", apart := false, narrowed := true }
def SuperCutsUptoSaid : Prop := superCutsUptoRow.holds Try.pinned (OpenSpec.upto superCutsSpec)

/-- 'reevelaw06.SuperLost', WHERE WHAT IT READS IS OF BULK AT MOST 1048576: true; the input reads as it did. -/
def superLostUptoRow : OpenClaim := { program := "ytbcmaobopglooaa", sum := "88d8acddc0616ea4d703cb4f60d66139fff0430cf587e2d104bd4961633e826e", func := "reeve/reevelaw06.SuperLost", spec := "superLost", apart := false, narrowed := true }
def SuperLostUptoSaid : Prop := superLostUptoRow.holds Try.pinned (OpenSpec.upto superLostSpec)

/-- 'reevelaw06.SuperSaves', WHERE WHAT IT READS IS OF BULK AT MOST 1048576: true; the input reads as it did. -/
def superSavesUptoRow : OpenClaim := { program := "ytbcmaobopglooaa", sum := "88d8acddc0616ea4d703cb4f60d66139fff0430cf587e2d104bd4961633e826e", func := "reeve/reevelaw06.SuperSaves", spec := "superSaves", apart := false, narrowed := true }
def SuperSavesUptoSaid : Prop := superSavesUptoRow.holds Try.pinned (OpenSpec.upto superSavesSpec)

end Rows
end Go.Proofs.Ytbcmaobopglooaa
