/-
  No cell of these rows narrows 'for every input' (looked for: loops, veiled, ifaces, maps, wideKeys, modest, calm, conditions, laid).
  DERIVED. THE GIVEN ROWS OF THIS SEAT. 6 by the template 'for every input the law returns true; each argument reads behind the call as it read before'; 0 by the template 'total and deterministic' (their statements: YtogijfgfcdmbnaaTotals.lean).
  GIVEN WITH THE SEED: the statements are not yours to turn. If you find one false, say at which input.
  Laid BY PROGRAM, IN A SANDBOX (cutbox-rows.mjs): the forced cells as the released guide's own fill.sh prints them over the translation 15f82257188b467b… (all of the seat's roots in one cut). By AI agents, Wed Nov 11 2026. No macro, syntax, notation, axiom, sorry.
-/
import Derived.Test.YtogijfgfcdmbnaaChecked
import GoSem.Claim
import GoSem.ClaimJoined
import GoSem.ClaimMapViews
import Derived.JoinedTies
import Derived.KernelRfl
namespace Go.Proofs.Ytogijfgfcdmbnaa
/- THE CELL 'sum', in the pinned program and in every row, IS THE sha256 OF THE DUMP (.gsa) THAT YtogijfgfcdmbnaaProg.lean LOADS. Nothing in Lean hashes anything: it is a label: what it is worth is what the hold of that sum in a sandbox is worth. -/
noncomputable def Try.pinned : Pinned := { name := "ytogijfgfcdmbnaa", sum := "15f82257188b467be2ecf733cb17eed744ad5df370843d40d74af36e75d1c037", checked := Try.checked }
namespace Rows
def none {H : Type} : Left H := { results := [], args := [] }

/-- 'reevelaw13.WindowLast': WHATEVER THE INPUT: true; the input reads as it did. -/
def windowLastSpec : ChangeSpec := { name := "windowLast", fn := fun _ => fun
  | [d1, d2] => { results := [.lit (.bool true)], args := [d1, d2] }
  | _ => none }
def windowLastRow : OpenClaim := { program := "ytogijfgfcdmbnaa", sum := "15f82257188b467be2ecf733cb17eed744ad5df370843d40d74af36e75d1c037", func := "reeve/reevelaw13.WindowLast", spec := "windowLast", unfollowed := true, recurses := true, apart := false }
def WindowLastSaid : Prop := windowLastRow.holds Try.pinned (OpenSpec.ofChange windowLastSpec)

/-- ITS FALSE NEIGHBOUR: 'it returns false'. Refute it at one input. -/
def windowLastWrong : ChangeSpec := { name := "windowLast", fn := fun _ => fun
  | [d1, d2] => { results := [.lit (.bool false)], args := [d1, d2] }
  | _ => none }
def WindowLastWrongFalsely : Prop := windowLastRow.holds Try.pinned (OpenSpec.ofChange windowLastWrong)

/-- 'reevelaw13.WindowApart': WHATEVER THE INPUT: true; the input reads as it did. -/
def windowApartSpec : ChangeSpec := { name := "windowApart", fn := fun _ => fun
  | [d1, d2] => { results := [.lit (.bool true)], args := [d1, d2] }
  | _ => none }
def windowApartRow : OpenClaim := { program := "ytogijfgfcdmbnaa", sum := "15f82257188b467be2ecf733cb17eed744ad5df370843d40d74af36e75d1c037", func := "reeve/reevelaw13.WindowApart", spec := "windowApart", unfollowed := true, recurses := true, apart := false }
def WindowApartSaid : Prop := windowApartRow.holds Try.pinned (OpenSpec.ofChange windowApartSpec)

/-- ITS FALSE NEIGHBOUR: 'it returns false'. Refute it at one input. -/
def windowApartWrong : ChangeSpec := { name := "windowApart", fn := fun _ => fun
  | [d1, d2] => { results := [.lit (.bool false)], args := [d1, d2] }
  | _ => none }
def WindowApartWrongFalsely : Prop := windowApartRow.holds Try.pinned (OpenSpec.ofChange windowApartWrong)

/-- 'reevelaw13.WindowPlays': WHATEVER THE INPUT: true; the input reads as it did. -/
def windowPlaysSpec : ChangeSpec := { name := "windowPlays", fn := fun _ => fun
  | [d1, d2, d3] => { results := [.lit (.bool true)], args := [d1, d2, d3] }
  | _ => none }
def windowPlaysRow : OpenClaim := { program := "ytogijfgfcdmbnaa", sum := "15f82257188b467be2ecf733cb17eed744ad5df370843d40d74af36e75d1c037", func := "reeve/reevelaw13.WindowPlays", spec := "windowPlays", unfollowed := true, recurses := true, apart := false }
def WindowPlaysSaid : Prop := windowPlaysRow.holds Try.pinned (OpenSpec.ofChange windowPlaysSpec)

/-- ITS FALSE NEIGHBOUR: 'it returns false'. Refute it at one input. -/
def windowPlaysWrong : ChangeSpec := { name := "windowPlays", fn := fun _ => fun
  | [d1, d2, d3] => { results := [.lit (.bool false)], args := [d1, d2, d3] }
  | _ => none }
def WindowPlaysWrongFalsely : Prop := windowPlaysRow.holds Try.pinned (OpenSpec.ofChange windowPlaysWrong)

/-- 'reevelaw13.WindowMany': WHATEVER THE INPUT: true; the input reads as it did. -/
def windowManySpec : ChangeSpec := { name := "windowMany", fn := fun _ => fun
  | [d1, d2] => { results := [.lit (.bool true)], args := [d1, d2] }
  | _ => none }
def windowManyRow : OpenClaim := { program := "ytogijfgfcdmbnaa", sum := "15f82257188b467be2ecf733cb17eed744ad5df370843d40d74af36e75d1c037", func := "reeve/reevelaw13.WindowMany", spec := "windowMany", unfollowed := true, recurses := true, apart := false }
def WindowManySaid : Prop := windowManyRow.holds Try.pinned (OpenSpec.ofChange windowManySpec)

/-- ITS FALSE NEIGHBOUR: 'it returns false'. Refute it at one input. -/
def windowManyWrong : ChangeSpec := { name := "windowMany", fn := fun _ => fun
  | [d1, d2] => { results := [.lit (.bool false)], args := [d1, d2] }
  | _ => none }
def WindowManyWrongFalsely : Prop := windowManyRow.holds Try.pinned (OpenSpec.ofChange windowManyWrong)

/-- 'reevelaw13.WindowNil': WHATEVER THE INPUT: true; the input reads as it did. -/
def windowNilSpec : ChangeSpec := { name := "windowNil", fn := fun _ => fun
  | [d1, d2] => { results := [.lit (.bool true)], args := [d1, d2] }
  | _ => none }
def windowNilRow : OpenClaim := { program := "ytogijfgfcdmbnaa", sum := "15f82257188b467be2ecf733cb17eed744ad5df370843d40d74af36e75d1c037", func := "reeve/reevelaw13.WindowNil", spec := "windowNil", unfollowed := true, recurses := true, apart := false }
def WindowNilSaid : Prop := windowNilRow.holds Try.pinned (OpenSpec.ofChange windowNilSpec)

/-- ITS FALSE NEIGHBOUR: 'it returns false'. Refute it at one input. -/
def windowNilWrong : ChangeSpec := { name := "windowNil", fn := fun _ => fun
  | [d1, d2] => { results := [.lit (.bool false)], args := [d1, d2] }
  | _ => none }
def WindowNilWrongFalsely : Prop := windowNilRow.holds Try.pinned (OpenSpec.ofChange windowNilWrong)

/-- 'reevelaw13.WindowDecodes': WHATEVER THE INPUT: true; the input reads as it did. -/
def windowDecodesSpec : ChangeSpec := { name := "windowDecodes", fn := fun _ => fun
  | [d1, d2] => { results := [.lit (.bool true)], args := [d1, d2] }
  | _ => none }
def windowDecodesRow : OpenClaim := { program := "ytogijfgfcdmbnaa", sum := "15f82257188b467be2ecf733cb17eed744ad5df370843d40d74af36e75d1c037", func := "reeve/reevelaw13.WindowDecodes", spec := "windowDecodes", unfollowed := true, recurses := true, apart := false }
def WindowDecodesSaid : Prop := windowDecodesRow.holds Try.pinned (OpenSpec.ofChange windowDecodesSpec)

/-- ITS FALSE NEIGHBOUR: 'it returns false'. Refute it at one input. -/
def windowDecodesWrong : ChangeSpec := { name := "windowDecodes", fn := fun _ => fun
  | [d1, d2] => { results := [.lit (.bool false)], args := [d1, d2] }
  | _ => none }
def WindowDecodesWrongFalsely : Prop := windowDecodesRow.holds Try.pinned (OpenSpec.ofChange windowDecodesWrong)

/- THE SECOND FORM. 'bulk': how many values and letters a reading holds, each counted each time it is reached (what is shared counts as often as it is met; a slice's spare places count too). A statement '..UptoSaid' is the law's where the arguments, and the package variables that the reading takes, are together of bulk at most 1048576: NARROWER than '..Said'. Prove '..Said' where nothing that the law and all that it calls make is longer than what came in: it says more and counts as full. Else prove '..UptoSaid'. A law counts once. -/
mutual
def uptoBulk {H : Type} : DataW H → Nat
  | .lit (.string bytes) => bytes.length + 1
  | .lit _ => 1
  | .nil => 1
  | .ptr d => uptoBulk d + 1
  | .slice elems spare => uptoBulkAll elems + uptoBulkAll spare + 1
  | .agg parts => uptoBulkAll parts + 1
  | .iface _ d => uptoBulk d + 1
  | .map entries => uptoBulkEntries entries + 1
  | .held _ => 1
def uptoBulkAll {H : Type} : List (DataW H) → Nat
  | [] => 0
  | d :: r => uptoBulk d + uptoBulkAll r
def uptoBulkEntries {H : Type} : List (Lit × DataW H) → Nat
  | [] => 0
  | x :: r => uptoBulkEntry x + uptoBulkEntries r
def uptoBulkEntry {H : Type} : Lit × DataW H → Nat
  | (.string bytes, d) => bytes.length + uptoBulk d + 1
  | (_, d) => uptoBulk d + 1
 end
def uptoSmall : (H : Type) → List (DataW H) → Bool := fun _ ds => decide (uptoBulkAll ds ≤ 1048576)
def OpenSpec.upto (s : _root_.Go.ChangeSpec) : _root_.Go.OpenSpec := { _root_.Go.OpenSpec.ofChange s with cond := some uptoSmall }

/-- 'reevelaw13.WindowLast', WHERE WHAT IT READS IS OF BULK AT MOST 1048576: true; the input reads as it did. -/
def windowLastUptoRow : OpenClaim := { program := "ytogijfgfcdmbnaa", sum := "15f82257188b467be2ecf733cb17eed744ad5df370843d40d74af36e75d1c037", func := "reeve/reevelaw13.WindowLast", spec := "windowLast", unfollowed := true, recurses := true, apart := false, narrowed := true }
def WindowLastUptoSaid : Prop := windowLastUptoRow.holds Try.pinned (OpenSpec.upto windowLastSpec)

/-- 'reevelaw13.WindowApart', WHERE WHAT IT READS IS OF BULK AT MOST 1048576: true; the input reads as it did. -/
def windowApartUptoRow : OpenClaim := { program := "ytogijfgfcdmbnaa", sum := "15f82257188b467be2ecf733cb17eed744ad5df370843d40d74af36e75d1c037", func := "reeve/reevelaw13.WindowApart", spec := "windowApart", unfollowed := true, recurses := true, apart := false, narrowed := true }
def WindowApartUptoSaid : Prop := windowApartUptoRow.holds Try.pinned (OpenSpec.upto windowApartSpec)

/-- 'reevelaw13.WindowPlays', WHERE WHAT IT READS IS OF BULK AT MOST 1048576: true; the input reads as it did. -/
def windowPlaysUptoRow : OpenClaim := { program := "ytogijfgfcdmbnaa", sum := "15f82257188b467be2ecf733cb17eed744ad5df370843d40d74af36e75d1c037", func := "reeve/reevelaw13.WindowPlays", spec := "windowPlays", unfollowed := true, recurses := true, apart := false, narrowed := true }
def WindowPlaysUptoSaid : Prop := windowPlaysUptoRow.holds Try.pinned (OpenSpec.upto windowPlaysSpec)

/-- 'reevelaw13.WindowMany', WHERE WHAT IT READS IS OF BULK AT MOST 1048576: true; the input reads as it did. -/
def windowManyUptoRow : OpenClaim := { program := "ytogijfgfcdmbnaa", sum := "15f82257188b467be2ecf733cb17eed744ad5df370843d40d74af36e75d1c037", func := "reeve/reevelaw13.WindowMany", spec := "windowMany", unfollowed := true, recurses := true, apart := false, narrowed := true }
def WindowManyUptoSaid : Prop := windowManyUptoRow.holds Try.pinned (OpenSpec.upto windowManySpec)

/-- 'reevelaw13.WindowNil', WHERE WHAT IT READS IS OF BULK AT MOST 1048576: true; the input reads as it did. -/
def windowNilUptoRow : OpenClaim := { program := "ytogijfgfcdmbnaa", sum := "15f82257188b467be2ecf733cb17eed744ad5df370843d40d74af36e75d1c037", func := "reeve/reevelaw13.WindowNil", spec := "windowNil", unfollowed := true, recurses := true, apart := false, narrowed := true }
def WindowNilUptoSaid : Prop := windowNilUptoRow.holds Try.pinned (OpenSpec.upto windowNilSpec)

/-- 'reevelaw13.WindowDecodes', WHERE WHAT IT READS IS OF BULK AT MOST 1048576: true; the input reads as it did. -/
def windowDecodesUptoRow : OpenClaim := { program := "ytogijfgfcdmbnaa", sum := "15f82257188b467be2ecf733cb17eed744ad5df370843d40d74af36e75d1c037", func := "reeve/reevelaw13.WindowDecodes", spec := "windowDecodes", unfollowed := true, recurses := true, apart := false, narrowed := true }
def WindowDecodesUptoSaid : Prop := windowDecodesUptoRow.holds Try.pinned (OpenSpec.upto windowDecodesSpec)

end Rows
end Go.Proofs.Ytogijfgfcdmbnaa
