/-
  No cell of these rows narrows 'for every input' (looked for: loops, veiled, ifaces, maps, wideKeys, modest, calm, conditions, laid).
  DERIVED. THE GIVEN ROWS OF THIS SEAT. 4 by the template 'for every input the law returns true; each argument reads behind the call as it read before'; 0 by the template 'total and deterministic' (their statements: YtdhgeakdfbckeaaTotals.lean).
  GIVEN WITH THE SEED: the statements are not yours to turn. If you find one false, say at which input.
  Laid BY PROGRAM, IN A SANDBOX (cutbox-rows.mjs): the forced cells as the released guide's own fill.sh prints them over the translation 0d80033048c94bf9… (all of the seat's roots in one cut). By AI agents, Wed Nov 11 2026. No macro, syntax, notation, axiom, sorry.
-/
import Derived.Test.YtdhgeakdfbckeaaChecked
import GoSem.Claim
import GoSem.ClaimJoined
import GoSem.ClaimMapViews
import Derived.JoinedTies
import Derived.KernelRfl
namespace Go.Proofs.Ytdhgeakdfbckeaa
/- THE CELL 'sum', in the pinned program and in every row, IS THE sha256 OF THE DUMP (.gsa) THAT YtdhgeakdfbckeaaProg.lean LOADS. Nothing in Lean hashes anything: it is a label: what it is worth is what the hold of that sum in a sandbox is worth. -/
noncomputable def Try.pinned : Pinned := { name := "ytdhgeakdfbckeaa", sum := "0d80033048c94bf914b8656cc0c3e47d8fabdc492e2b62c29be47c4501cb3213", checked := Try.checked }
namespace Rows
def none {H : Type} : Left H := { results := [], args := [] }

/-- 'reevelaw21.ActivPlays': WHATEVER THE INPUT: true; the input reads as it did. -/
def activPlaysSpec : ChangeSpec := { name := "activPlays", fn := fun _ => fun
  | [d1, d2, d3] => { results := [.lit (.bool true)], args := [d1, d2, d3] }
  | _ => none }
def activPlaysRow : OpenClaim := { program := "ytdhgeakdfbckeaa", sum := "0d80033048c94bf914b8656cc0c3e47d8fabdc492e2b62c29be47c4501cb3213", func := "reeve/reevelaw21.ActivPlays", spec := "activPlays", unfollowed := true, recurses := true, apart := false }
def ActivPlaysSaid : Prop := activPlaysRow.holds Try.pinned (OpenSpec.ofChange activPlaysSpec)

/-- ITS FALSE NEIGHBOUR: 'it returns false'. Refute it at one input. -/
def activPlaysWrong : ChangeSpec := { name := "activPlays", fn := fun _ => fun
  | [d1, d2, d3] => { results := [.lit (.bool false)], args := [d1, d2, d3] }
  | _ => none }
def ActivPlaysWrongFalsely : Prop := activPlaysRow.holds Try.pinned (OpenSpec.ofChange activPlaysWrong)

/-- 'reevelaw21.ActivLast': WHATEVER THE INPUT: true; the input reads as it did. -/
def activLastSpec : ChangeSpec := { name := "activLast", fn := fun _ => fun
  | [d1, d2] => { results := [.lit (.bool true)], args := [d1, d2] }
  | _ => none }
def activLastRow : OpenClaim := { program := "ytdhgeakdfbckeaa", sum := "0d80033048c94bf914b8656cc0c3e47d8fabdc492e2b62c29be47c4501cb3213", func := "reeve/reevelaw21.ActivLast", spec := "activLast", unfollowed := true, recurses := true, apart := false }
def ActivLastSaid : Prop := activLastRow.holds Try.pinned (OpenSpec.ofChange activLastSpec)

/-- ITS FALSE NEIGHBOUR: 'it returns false'. Refute it at one input. -/
def activLastWrong : ChangeSpec := { name := "activLast", fn := fun _ => fun
  | [d1, d2] => { results := [.lit (.bool false)], args := [d1, d2] }
  | _ => none }
def ActivLastWrongFalsely : Prop := activLastRow.holds Try.pinned (OpenSpec.ofChange activLastWrong)

/-- 'reevelaw21.ActivNil': WHATEVER THE INPUT: true; the input reads as it did. -/
def activNilSpec : ChangeSpec := { name := "activNil", fn := fun _ => fun
  | [d] => { results := [.lit (.bool true)], args := [d] }
  | _ => none }
def activNilRow : OpenClaim := { program := "ytdhgeakdfbckeaa", sum := "0d80033048c94bf914b8656cc0c3e47d8fabdc492e2b62c29be47c4501cb3213", func := "reeve/reevelaw21.ActivNil", spec := "activNil", unfollowed := true, recurses := true, apart := false }
def ActivNilSaid : Prop := activNilRow.holds Try.pinned (OpenSpec.ofChange activNilSpec)

/-- ITS FALSE NEIGHBOUR: 'it returns false'. Refute it at one input. -/
def activNilWrong : ChangeSpec := { name := "activNil", fn := fun _ => fun
  | [d] => { results := [.lit (.bool false)], args := [d] }
  | _ => none }
def ActivNilWrongFalsely : Prop := activNilRow.holds Try.pinned (OpenSpec.ofChange activNilWrong)

/-- 'reevelaw21.ActivTwo': WHATEVER THE INPUT: true; the input reads as it did. -/
def activTwoSpec : ChangeSpec := { name := "activTwo", fn := fun _ => fun
  | [d1, d2, d3] => { results := [.lit (.bool true)], args := [d1, d2, d3] }
  | _ => none }
def activTwoRow : OpenClaim := { program := "ytdhgeakdfbckeaa", sum := "0d80033048c94bf914b8656cc0c3e47d8fabdc492e2b62c29be47c4501cb3213", func := "reeve/reevelaw21.ActivTwo", spec := "activTwo", unfollowed := true, recurses := true, apart := false }
def ActivTwoSaid : Prop := activTwoRow.holds Try.pinned (OpenSpec.ofChange activTwoSpec)

/-- ITS FALSE NEIGHBOUR: 'it returns false'. Refute it at one input. -/
def activTwoWrong : ChangeSpec := { name := "activTwo", fn := fun _ => fun
  | [d1, d2, d3] => { results := [.lit (.bool false)], args := [d1, d2, d3] }
  | _ => none }
def ActivTwoWrongFalsely : Prop := activTwoRow.holds Try.pinned (OpenSpec.ofChange activTwoWrong)

/- THE SECOND FORM. 'bulk': how many values and letters a reading holds, each counted each time it is reached (what is shared counts as often as it is met; a slice's spare places count too). A statement '..UptoSaid' is the law's where the arguments, and the package variables that the reading takes, are together of bulk at most 1048576: NARROWER than '..Said'. Prove '..Said' where nothing that the law and all that it calls make is longer than what came in: it says more and counts as full. Else prove '..UptoSaid'. A law counts once. -/
mutual
def uptoBulk {H : Type} : DataW H → Nat
  | .lit (.string bytes) => bytes.length + 1
  | .lit _ => 1
  | .nil => 1
  | .ptr d => uptoBulk d + 1
  | .slice elems spare => uptoBulkAll elems + uptoBulkAll spare + 1
  | .agg parts => uptoBulkAll parts + 1
  | .iface _ d => uptoBulk d + 1
  | .map entries => uptoBulkEntries entries + 1
  | .held _ => 1
def uptoBulkAll {H : Type} : List (DataW H) → Nat
  | [] => 0
  | d :: r => uptoBulk d + uptoBulkAll r
def uptoBulkEntries {H : Type} : List (Lit × DataW H) → Nat
  | [] => 0
  | x :: r => uptoBulkEntry x + uptoBulkEntries r
def uptoBulkEntry {H : Type} : Lit × DataW H → Nat
  | (.string bytes, d) => bytes.length + uptoBulk d + 1
  | (_, d) => uptoBulk d + 1
 end
def uptoSmall : (H : Type) → List (DataW H) → Bool := fun _ ds => decide (uptoBulkAll ds ≤ 1048576)
def OpenSpec.upto (s : _root_.Go.ChangeSpec) : _root_.Go.OpenSpec := { _root_.Go.OpenSpec.ofChange s with cond := some uptoSmall }

/-- 'reevelaw21.ActivPlays', WHERE WHAT IT READS IS OF BULK AT MOST 1048576: true; the input reads as it did. -/
def activPlaysUptoRow : OpenClaim := { program := "ytdhgeakdfbckeaa", sum := "0d80033048c94bf914b8656cc0c3e47d8fabdc492e2b62c29be47c4501cb3213", func := "reeve/reevelaw21.ActivPlays", spec := "activPlays", unfollowed := true, recurses := true, apart := false, narrowed := true }
def ActivPlaysUptoSaid : Prop := activPlaysUptoRow.holds Try.pinned (OpenSpec.upto activPlaysSpec)

/-- 'reevelaw21.ActivLast', WHERE WHAT IT READS IS OF BULK AT MOST 1048576: true; the input reads as it did. -/
def activLastUptoRow : OpenClaim := { program := "ytdhgeakdfbckeaa", sum := "0d80033048c94bf914b8656cc0c3e47d8fabdc492e2b62c29be47c4501cb3213", func := "reeve/reevelaw21.ActivLast", spec := "activLast", unfollowed := true, recurses := true, apart := false, narrowed := true }
def ActivLastUptoSaid : Prop := activLastUptoRow.holds Try.pinned (OpenSpec.upto activLastSpec)

/-- 'reevelaw21.ActivNil', WHERE WHAT IT READS IS OF BULK AT MOST 1048576: true; the input reads as it did. -/
def activNilUptoRow : OpenClaim := { program := "ytdhgeakdfbckeaa", sum := "0d80033048c94bf914b8656cc0c3e47d8fabdc492e2b62c29be47c4501cb3213", func := "reeve/reevelaw21.ActivNil", spec := "activNil", unfollowed := true, recurses := true, apart := false, narrowed := true }
def ActivNilUptoSaid : Prop := activNilUptoRow.holds Try.pinned (OpenSpec.upto activNilSpec)

/-- 'reevelaw21.ActivTwo', WHERE WHAT IT READS IS OF BULK AT MOST 1048576: true; the input reads as it did. -/
def activTwoUptoRow : OpenClaim := { program := "ytdhgeakdfbckeaa", sum := "0d80033048c94bf914b8656cc0c3e47d8fabdc492e2b62c29be47c4501cb3213", func := "reeve/reevelaw21.ActivTwo", spec := "activTwo", unfollowed := true, recurses := true, apart := false, narrowed := true }
def ActivTwoUptoSaid : Prop := activTwoUptoRow.holds Try.pinned (OpenSpec.upto activTwoSpec)

end Rows
end Go.Proofs.Ytdhgeakdfbckeaa
