/-
  No cell of these rows narrows 'for every input' (looked for: loops, veiled, ifaces, maps, wideKeys, modest, calm, conditions, laid).
  DERIVED. THE GIVEN ROWS OF THIS SEAT. 6 by the template 'for every input the law returns true; each argument reads behind the call as it read before'; 0 by the template 'total and deterministic' (their statements: YtbcicmpolgfgpaaTotals.lean).
  GIVEN WITH THE SEED: the statements are not yours to turn. If you find one false, say at which input.
  Laid BY PROGRAM, IN A SANDBOX (cutbox-rows.mjs): the forced cells as the released guide's own fill.sh prints them over the translation 51180870cd23c3e8… (all of the seat's roots in one cut). By AI agents, Wed Nov 11 2026. No macro, syntax, notation, axiom, sorry.
-/
import Derived.Test.YtbcicmpolgfgpaaChecked
import GoSem.Claim
import GoSem.ClaimJoined
import GoSem.ClaimMapViews
import Derived.JoinedTies
import Derived.KernelRfl
namespace Go.Proofs.Ytbcicmpolgfgpaa
/- THE CELL 'sum', in the pinned program and in every row, IS THE sha256 OF THE DUMP (.gsa) THAT YtbcicmpolgfgpaaProg.lean LOADS. Nothing in Lean hashes anything: it is a label: what it is worth is what the hold of that sum in a sandbox is worth. -/
noncomputable def Try.pinned : Pinned := { name := "ytbcicmpolgfgpaa", sum := "51180870cd23c3e8b151f5ee0e45d54c117a423f0ec1d25ba957d7dc365ff5a4", checked := Try.checked }
namespace Rows
def none {H : Type} : Left H := { results := [], args := [] }

/-- 'reevelaw11.LetterCopies': WHATEVER THE INPUT: true; the input reads as it did. -/
def letterCopiesSpec : ChangeSpec := { name := "letterCopies", fn := fun _ => fun
  | [d] => { results := [.lit (.bool true)], args := [d] }
  | _ => none }
def letterCopiesRow : OpenClaim := { program := "ytbcicmpolgfgpaa", sum := "51180870cd23c3e8b151f5ee0e45d54c117a423f0ec1d25ba957d7dc365ff5a4", func := "reeve/reevelaw11.LetterCopies", spec := "letterCopies", apart := false }
def LetterCopiesSaid : Prop := letterCopiesRow.holds Try.pinned (OpenSpec.ofChange letterCopiesSpec)

/-- ITS FALSE NEIGHBOUR: 'it returns false'. Refute it at one input. -/
def letterCopiesWrong : ChangeSpec := { name := "letterCopies", fn := fun _ => fun
  | [d] => { results := [.lit (.bool false)], args := [d] }
  | _ => none }
def LetterCopiesWrongFalsely : Prop := letterCopiesRow.holds Try.pinned (OpenSpec.ofChange letterCopiesWrong)

/-- 'reevelaw11.LetterEncodes': WHATEVER THE INPUT: true; the input reads as it did. -/
def letterEncodesSpec : ChangeSpec := { name := "letterEncodes", fn := fun _ => fun
  | [d1, d2] => { results := [.lit (.bool true)], args := [d1, d2] }
  | _ => none }
def letterEncodesRow : OpenClaim := { program := "ytbcicmpolgfgpaa", sum := "51180870cd23c3e8b151f5ee0e45d54c117a423f0ec1d25ba957d7dc365ff5a4", func := "reeve/reevelaw11.LetterEncodes", spec := "letterEncodes", apart := false }
def LetterEncodesSaid : Prop := letterEncodesRow.holds Try.pinned (OpenSpec.ofChange letterEncodesSpec)

/-- ITS FALSE NEIGHBOUR: 'it returns false'. Refute it at one input. -/
def letterEncodesWrong : ChangeSpec := { name := "letterEncodes", fn := fun _ => fun
  | [d1, d2] => { results := [.lit (.bool false)], args := [d1, d2] }
  | _ => none }
def LetterEncodesWrongFalsely : Prop := letterEncodesRow.holds Try.pinned (OpenSpec.ofChange letterEncodesWrong)

/-- 'reevelaw11.LetterDecodes': WHATEVER THE INPUT: true; the input reads as it did. -/
def letterDecodesSpec : ChangeSpec := { name := "letterDecodes", fn := fun _ => fun
  | [d] => { results := [.lit (.bool true)], args := [d] }
  | _ => none }
def letterDecodesRow : OpenClaim := { program := "ytbcicmpolgfgpaa", sum := "51180870cd23c3e8b151f5ee0e45d54c117a423f0ec1d25ba957d7dc365ff5a4", func := "reeve/reevelaw11.LetterDecodes", spec := "letterDecodes", apart := false }
def LetterDecodesSaid : Prop := letterDecodesRow.holds Try.pinned (OpenSpec.ofChange letterDecodesSpec)

/-- ITS FALSE NEIGHBOUR: 'it returns false'. Refute it at one input. -/
def letterDecodesWrong : ChangeSpec := { name := "letterDecodes", fn := fun _ => fun
  | [d] => { results := [.lit (.bool false)], args := [d] }
  | _ => none }
def LetterDecodesWrongFalsely : Prop := letterDecodesRow.holds Try.pinned (OpenSpec.ofChange letterDecodesWrong)

/-- 'reevelaw11.LetterTurned': WHATEVER THE INPUT: true; the input reads as it did. -/
def letterTurnedSpec : ChangeSpec := { name := "letterTurned", fn := fun _ => fun
  | [d1, d2, d3, d4] => { results := [.lit (.bool true)], args := [d1, d2, d3, d4] }
  | _ => none }
def letterTurnedRow : OpenClaim := { program := "ytbcicmpolgfgpaa", sum := "51180870cd23c3e8b151f5ee0e45d54c117a423f0ec1d25ba957d7dc365ff5a4", func := "reeve/reevelaw11.LetterTurned", spec := "letterTurned", apart := false }
def LetterTurnedSaid : Prop := letterTurnedRow.holds Try.pinned (OpenSpec.ofChange letterTurnedSpec)

/-- ITS FALSE NEIGHBOUR: 'it returns false'. Refute it at one input. -/
def letterTurnedWrong : ChangeSpec := { name := "letterTurned", fn := fun _ => fun
  | [d1, d2, d3, d4] => { results := [.lit (.bool false)], args := [d1, d2, d3, d4] }
  | _ => none }
def LetterTurnedWrongFalsely : Prop := letterTurnedRow.holds Try.pinned (OpenSpec.ofChange letterTurnedWrong)

/-- 'reevelaw11.LetterPacks': WHATEVER THE INPUT: true; the input reads as it did. -/
def letterPacksSpec : ChangeSpec := { name := "letterPacks", fn := fun _ => fun
  | [d1, d2] => { results := [.lit (.bool true)], args := [d1, d2] }
  | _ => none }
def letterPacksRow : OpenClaim := { program := "ytbcicmpolgfgpaa", sum := "51180870cd23c3e8b151f5ee0e45d54c117a423f0ec1d25ba957d7dc365ff5a4", func := "reeve/reevelaw11.LetterPacks", spec := "letterPacks", apart := false }
def LetterPacksSaid : Prop := letterPacksRow.holds Try.pinned (OpenSpec.ofChange letterPacksSpec)

/-- ITS FALSE NEIGHBOUR: 'it returns false'. Refute it at one input. -/
def letterPacksWrong : ChangeSpec := { name := "letterPacks", fn := fun _ => fun
  | [d1, d2] => { results := [.lit (.bool false)], args := [d1, d2] }
  | _ => none }
def LetterPacksWrongFalsely : Prop := letterPacksRow.holds Try.pinned (OpenSpec.ofChange letterPacksWrong)

/-- 'reevelaw11.LetterBack': WHATEVER THE INPUT: true; the input reads as it did. -/
def letterBackSpec : ChangeSpec := { name := "letterBack", fn := fun _ => fun
  | [d1, d2] => { results := [.lit (.bool true)], args := [d1, d2] }
  | _ => none }
def letterBackRow : OpenClaim := { program := "ytbcicmpolgfgpaa", sum := "51180870cd23c3e8b151f5ee0e45d54c117a423f0ec1d25ba957d7dc365ff5a4", func := "reeve/reevelaw11.LetterBack", spec := "letterBack", apart := false }
def LetterBackSaid : Prop := letterBackRow.holds Try.pinned (OpenSpec.ofChange letterBackSpec)

/-- ITS FALSE NEIGHBOUR: 'it returns false'. Refute it at one input. -/
def letterBackWrong : ChangeSpec := { name := "letterBack", fn := fun _ => fun
  | [d1, d2] => { results := [.lit (.bool false)], args := [d1, d2] }
  | _ => none }
def LetterBackWrongFalsely : Prop := letterBackRow.holds Try.pinned (OpenSpec.ofChange letterBackWrong)

/- THE SECOND FORM. 'bulk': how many values and letters a reading holds, each counted each time it is reached (what is shared counts as often as it is met; a slice's spare places count too). A statement '..UptoSaid' is the law's where the arguments, and the package variables that the reading takes, are together of bulk at most 1048576: NARROWER than '..Said'. Prove '..Said' where nothing that the law and all that it calls make is longer than what came in: it says more and counts as full. Else prove '..UptoSaid'. A law counts once. -/
mutual
def uptoBulk {H : Type} : DataW H → Nat
  | .lit (.string bytes) => bytes.length + 1
  | .lit _ => 1
  | .nil => 1
  | .ptr d => uptoBulk d + 1
  | .slice elems spare => uptoBulkAll elems + uptoBulkAll spare + 1
  | .agg parts => uptoBulkAll parts + 1
  | .iface _ d => uptoBulk d + 1
  | .map entries => uptoBulkEntries entries + 1
  | .held _ => 1
def uptoBulkAll {H : Type} : List (DataW H) → Nat
  | [] => 0
  | d :: r => uptoBulk d + uptoBulkAll r
def uptoBulkEntries {H : Type} : List (Lit × DataW H) → Nat
  | [] => 0
  | x :: r => uptoBulkEntry x + uptoBulkEntries r
def uptoBulkEntry {H : Type} : Lit × DataW H → Nat
  | (.string bytes, d) => bytes.length + uptoBulk d + 1
  | (_, d) => uptoBulk d + 1
 end
def uptoSmall : (H : Type) → List (DataW H) → Bool := fun _ ds => decide (uptoBulkAll ds ≤ 1048576)
def OpenSpec.upto (s : _root_.Go.ChangeSpec) : _root_.Go.OpenSpec := { _root_.Go.OpenSpec.ofChange s with cond := some uptoSmall }

/-- 'reevelaw11.LetterCopies', WHERE WHAT IT READS IS OF BULK AT MOST 1048576: true; the input reads as it did. -/
def letterCopiesUptoRow : OpenClaim := { program := "ytbcicmpolgfgpaa", sum := "51180870cd23c3e8b151f5ee0e45d54c117a423f0ec1d25ba957d7dc365ff5a4", func := "reeve/reevelaw11.LetterCopies", spec := "letterCopies", apart := false, narrowed := true }
def LetterCopiesUptoSaid : Prop := letterCopiesUptoRow.holds Try.pinned (OpenSpec.upto letterCopiesSpec)

/-- 'reevelaw11.LetterEncodes', WHERE WHAT IT READS IS OF BULK AT MOST 1048576: true; the input reads as it did. -/
def letterEncodesUptoRow : OpenClaim := { program := "ytbcicmpolgfgpaa", sum := "51180870cd23c3e8b151f5ee0e45d54c117a423f0ec1d25ba957d7dc365ff5a4", func := "reeve/reevelaw11.LetterEncodes", spec := "letterEncodes", apart := false, narrowed := true }
def LetterEncodesUptoSaid : Prop := letterEncodesUptoRow.holds Try.pinned (OpenSpec.upto letterEncodesSpec)

/-- 'reevelaw11.LetterDecodes', WHERE WHAT IT READS IS OF BULK AT MOST 1048576: true; the input reads as it did. -/
def letterDecodesUptoRow : OpenClaim := { program := "ytbcicmpolgfgpaa", sum := "51180870cd23c3e8b151f5ee0e45d54c117a423f0ec1d25ba957d7dc365ff5a4", func := "reeve/reevelaw11.LetterDecodes", spec := "letterDecodes", apart := false, narrowed := true }
def LetterDecodesUptoSaid : Prop := letterDecodesUptoRow.holds Try.pinned (OpenSpec.upto letterDecodesSpec)

/-- 'reevelaw11.LetterTurned', WHERE WHAT IT READS IS OF BULK AT MOST 1048576: true; the input reads as it did. -/
def letterTurnedUptoRow : OpenClaim := { program := "ytbcicmpolgfgpaa", sum := "51180870cd23c3e8b151f5ee0e45d54c117a423f0ec1d25ba957d7dc365ff5a4", func := "reeve/reevelaw11.LetterTurned", spec := "letterTurned", apart := false, narrowed := true }
def LetterTurnedUptoSaid : Prop := letterTurnedUptoRow.holds Try.pinned (OpenSpec.upto letterTurnedSpec)

/-- 'reevelaw11.LetterPacks', WHERE WHAT IT READS IS OF BULK AT MOST 1048576: true; the input reads as it did. -/
def letterPacksUptoRow : OpenClaim := { program := "ytbcicmpolgfgpaa", sum := "51180870cd23c3e8b151f5ee0e45d54c117a423f0ec1d25ba957d7dc365ff5a4", func := "reeve/reevelaw11.LetterPacks", spec := "letterPacks", apart := false, narrowed := true }
def LetterPacksUptoSaid : Prop := letterPacksUptoRow.holds Try.pinned (OpenSpec.upto letterPacksSpec)

/-- 'reevelaw11.LetterBack', WHERE WHAT IT READS IS OF BULK AT MOST 1048576: true; the input reads as it did. -/
def letterBackUptoRow : OpenClaim := { program := "ytbcicmpolgfgpaa", sum := "51180870cd23c3e8b151f5ee0e45d54c117a423f0ec1d25ba957d7dc365ff5a4", func := "reeve/reevelaw11.LetterBack", spec := "letterBack", apart := false, narrowed := true }
def LetterBackUptoSaid : Prop := letterBackUptoRow.holds Try.pinned (OpenSpec.upto letterBackSpec)

end Rows
end Go.Proofs.Ytbcicmpolgfgpaa
