/-
  No cell of these rows narrows 'for every input' (looked for: loops, veiled, ifaces, maps, wideKeys, modest, calm, conditions, laid).
  DERIVED. THE GIVEN ROWS OF THIS SEAT. 5 by the template 'for every input the law returns true; each argument reads behind the call as it read before'; 0 by the template 'total and deterministic' (their statements: YtgbdpplnfcfhmaaTotals.lean).
  GIVEN WITH THE SEED: the statements are not yours to turn. If you find one false, say at which input.
  Laid BY PROGRAM, IN A SANDBOX (cutbox-rows.mjs): the forced cells as the released guide's own fill.sh prints them over the translation a1edf106daafad9b… (all of the seat's roots in one cut). By AI agents, Wed Nov 11 2026. No macro, syntax, notation, axiom, sorry.
-/
import Derived.Test.YtgbdpplnfcfhmaaChecked
import GoSem.Claim
import GoSem.ClaimJoined
import GoSem.ClaimMapViews
import Derived.JoinedTies
import Derived.KernelRfl
namespace Go.Proofs.Ytgbdpplnfcfhmaa
/- THE CELL 'sum', in the pinned program and in every row, IS THE sha256 OF THE DUMP (.gsa) THAT YtgbdpplnfcfhmaaProg.lean LOADS. Nothing in Lean hashes anything: it is a label: what it is worth is what the hold of that sum in a sandbox is worth. -/
noncomputable def Try.pinned : Pinned := { name := "ytgbdpplnfcfhmaa", sum := "a1edf106daafad9b46fe78f70e5fb9c2cc1eb0fc74f63d1b011d97e817f82e0e", checked := Try.checked }
namespace Rows
def none {H : Type} : Left H := { results := [], args := [] }

/-- 'reevelaw12.InboxFull': WHATEVER THE INPUT: true; the input reads as it did. -/
def inboxFullSpec : ChangeSpec := { name := "inboxFull", fn := fun _ => fun
  | [d] => { results := [.lit (.bool true)], args := [d] }
  | _ => none }
def inboxFullRow : OpenClaim := { program := "ytgbdpplnfcfhmaa", sum := "a1edf106daafad9b46fe78f70e5fb9c2cc1eb0fc74f63d1b011d97e817f82e0e", func := "reeve/reevelaw12.InboxFull", spec := "inboxFull", apart := false }
def InboxFullSaid : Prop := inboxFullRow.holds Try.pinned (OpenSpec.ofChange inboxFullSpec)

/-- ITS FALSE NEIGHBOUR: 'it returns false'. Refute it at one input. -/
def inboxFullWrong : ChangeSpec := { name := "inboxFull", fn := fun _ => fun
  | [d] => { results := [.lit (.bool false)], args := [d] }
  | _ => none }
def InboxFullWrongFalsely : Prop := inboxFullRow.holds Try.pinned (OpenSpec.ofChange inboxFullWrong)

/-- 'reevelaw12.InboxPlays': WHATEVER THE INPUT: true; the input reads as it did. -/
def inboxPlaysSpec : ChangeSpec := { name := "inboxPlays", fn := fun _ => fun
  | [d1, d2] => { results := [.lit (.bool true)], args := [d1, d2] }
  | _ => none }
def inboxPlaysRow : OpenClaim := { program := "ytgbdpplnfcfhmaa", sum := "a1edf106daafad9b46fe78f70e5fb9c2cc1eb0fc74f63d1b011d97e817f82e0e", func := "reeve/reevelaw12.InboxPlays", spec := "inboxPlays", apart := false }
def InboxPlaysSaid : Prop := inboxPlaysRow.holds Try.pinned (OpenSpec.ofChange inboxPlaysSpec)

/-- ITS FALSE NEIGHBOUR: 'it returns false'. Refute it at one input. -/
def inboxPlaysWrong : ChangeSpec := { name := "inboxPlays", fn := fun _ => fun
  | [d1, d2] => { results := [.lit (.bool false)], args := [d1, d2] }
  | _ => none }
def InboxPlaysWrongFalsely : Prop := inboxPlaysRow.holds Try.pinned (OpenSpec.ofChange inboxPlaysWrong)

/-- 'reevelaw12.InboxMoves': WHATEVER THE INPUT: true; the input reads as it did. -/
def inboxMovesSpec : ChangeSpec := { name := "inboxMoves", fn := fun _ => fun
  | [d] => { results := [.lit (.bool true)], args := [d] }
  | _ => none }
def inboxMovesRow : OpenClaim := { program := "ytgbdpplnfcfhmaa", sum := "a1edf106daafad9b46fe78f70e5fb9c2cc1eb0fc74f63d1b011d97e817f82e0e", func := "reeve/reevelaw12.InboxMoves", spec := "inboxMoves", apart := false }
def InboxMovesSaid : Prop := inboxMovesRow.holds Try.pinned (OpenSpec.ofChange inboxMovesSpec)

/-- ITS FALSE NEIGHBOUR: 'it returns false'. Refute it at one input. -/
def inboxMovesWrong : ChangeSpec := { name := "inboxMoves", fn := fun _ => fun
  | [d] => { results := [.lit (.bool false)], args := [d] }
  | _ => none }
def InboxMovesWrongFalsely : Prop := inboxMovesRow.holds Try.pinned (OpenSpec.ofChange inboxMovesWrong)

/-- 'reevelaw12.InboxNil': WHATEVER THE INPUT: true; the input reads as it did. -/
def inboxNilSpec : ChangeSpec := { name := "inboxNil", fn := fun _ => fun
  | [d] => { results := [.lit (.bool true)], args := [d] }
  | _ => none }
def inboxNilRow : OpenClaim := { program := "ytgbdpplnfcfhmaa", sum := "a1edf106daafad9b46fe78f70e5fb9c2cc1eb0fc74f63d1b011d97e817f82e0e", func := "reeve/reevelaw12.InboxNil", spec := "inboxNil", apart := false }
def InboxNilSaid : Prop := inboxNilRow.holds Try.pinned (OpenSpec.ofChange inboxNilSpec)

/-- ITS FALSE NEIGHBOUR: 'it returns false'. Refute it at one input. -/
def inboxNilWrong : ChangeSpec := { name := "inboxNil", fn := fun _ => fun
  | [d] => { results := [.lit (.bool false)], args := [d] }
  | _ => none }
def InboxNilWrongFalsely : Prop := inboxNilRow.holds Try.pinned (OpenSpec.ofChange inboxNilWrong)

/-- 'reevelaw12.InboxDecodes': WHATEVER THE INPUT: true; the input reads as it did. -/
def inboxDecodesSpec : ChangeSpec := { name := "inboxDecodes", fn := fun _ => fun
  | [d1, d2] => { results := [.lit (.bool true)], args := [d1, d2] }
  | _ => none }
def inboxDecodesRow : OpenClaim := { program := "ytgbdpplnfcfhmaa", sum := "a1edf106daafad9b46fe78f70e5fb9c2cc1eb0fc74f63d1b011d97e817f82e0e", func := "reeve/reevelaw12.InboxDecodes", spec := "inboxDecodes", apart := false }
def InboxDecodesSaid : Prop := inboxDecodesRow.holds Try.pinned (OpenSpec.ofChange inboxDecodesSpec)

/-- ITS FALSE NEIGHBOUR: 'it returns false'. Refute it at one input. -/
def inboxDecodesWrong : ChangeSpec := { name := "inboxDecodes", fn := fun _ => fun
  | [d1, d2] => { results := [.lit (.bool false)], args := [d1, d2] }
  | _ => none }
def InboxDecodesWrongFalsely : Prop := inboxDecodesRow.holds Try.pinned (OpenSpec.ofChange inboxDecodesWrong)

/- THE SECOND FORM. 'bulk': how many values and letters a reading holds, each counted each time it is reached (what is shared counts as often as it is met; a slice's spare places count too). A statement '..UptoSaid' is the law's where the arguments, and the package variables that the reading takes, are together of bulk at most 1048576: NARROWER than '..Said'. Prove '..Said' where nothing that the law and all that it calls make is longer than what came in: it says more and counts as full. Else prove '..UptoSaid'. A law counts once. -/
mutual
def uptoBulk {H : Type} : DataW H → Nat
  | .lit (.string bytes) => bytes.length + 1
  | .lit _ => 1
  | .nil => 1
  | .ptr d => uptoBulk d + 1
  | .slice elems spare => uptoBulkAll elems + uptoBulkAll spare + 1
  | .agg parts => uptoBulkAll parts + 1
  | .iface _ d => uptoBulk d + 1
  | .map entries => uptoBulkEntries entries + 1
  | .held _ => 1
def uptoBulkAll {H : Type} : List (DataW H) → Nat
  | [] => 0
  | d :: r => uptoBulk d + uptoBulkAll r
def uptoBulkEntries {H : Type} : List (Lit × DataW H) → Nat
  | [] => 0
  | x :: r => uptoBulkEntry x + uptoBulkEntries r
def uptoBulkEntry {H : Type} : Lit × DataW H → Nat
  | (.string bytes, d) => bytes.length + uptoBulk d + 1
  | (_, d) => uptoBulk d + 1
 end
def uptoSmall : (H : Type) → List (DataW H) → Bool := fun _ ds => decide (uptoBulkAll ds ≤ 1048576)
def OpenSpec.upto (s : _root_.Go.ChangeSpec) : _root_.Go.OpenSpec := { _root_.Go.OpenSpec.ofChange s with cond := some uptoSmall }

/-- 'reevelaw12.InboxFull', WHERE WHAT IT READS IS OF BULK AT MOST 1048576: true; the input reads as it did. -/
def inboxFullUptoRow : OpenClaim := { program := "ytgbdpplnfcfhmaa", sum := "a1edf106daafad9b46fe78f70e5fb9c2cc1eb0fc74f63d1b011d97e817f82e0e", func := "reeve/reevelaw12.InboxFull", spec := "inboxFull", apart := false, narrowed := true }
def InboxFullUptoSaid : Prop := inboxFullUptoRow.holds Try.pinned (OpenSpec.upto inboxFullSpec)

/-- 'reevelaw12.InboxPlays', WHERE WHAT IT READS IS OF BULK AT MOST 1048576: true; the input reads as it did. -/
def inboxPlaysUptoRow : OpenClaim := { program := "ytgbdpplnfcfhmaa", sum := "a1edf106daafad9b46fe78f70e5fb9c2cc1eb0fc74f63d1b011d97e817f82e0e", func := "reeve/reevelaw12.InboxPlays", spec := "inboxPlays", apart := false, narrowed := true }
def InboxPlaysUptoSaid : Prop := inboxPlaysUptoRow.holds Try.pinned (OpenSpec.upto inboxPlaysSpec)

/-- 'reevelaw12.InboxMoves', WHERE WHAT IT READS IS OF BULK AT MOST 1048576: true; the input reads as it did. -/
def inboxMovesUptoRow : OpenClaim := { program := "ytgbdpplnfcfhmaa", sum := "a1edf106daafad9b46fe78f70e5fb9c2cc1eb0fc74f63d1b011d97e817f82e0e", func := "reeve/reevelaw12.InboxMoves", spec := "inboxMoves", apart := false, narrowed := true }
def InboxMovesUptoSaid : Prop := inboxMovesUptoRow.holds Try.pinned (OpenSpec.upto inboxMovesSpec)

/-- 'reevelaw12.InboxNil', WHERE WHAT IT READS IS OF BULK AT MOST 1048576: true; the input reads as it did. -/
def inboxNilUptoRow : OpenClaim := { program := "ytgbdpplnfcfhmaa", sum := "a1edf106daafad9b46fe78f70e5fb9c2cc1eb0fc74f63d1b011d97e817f82e0e", func := "reeve/reevelaw12.InboxNil", spec := "inboxNil", apart := false, narrowed := true }
def InboxNilUptoSaid : Prop := inboxNilUptoRow.holds Try.pinned (OpenSpec.upto inboxNilSpec)

/-- 'reevelaw12.InboxDecodes', WHERE WHAT IT READS IS OF BULK AT MOST 1048576: true; the input reads as it did. -/
def inboxDecodesUptoRow : OpenClaim := { program := "ytgbdpplnfcfhmaa", sum := "a1edf106daafad9b46fe78f70e5fb9c2cc1eb0fc74f63d1b011d97e817f82e0e", func := "reeve/reevelaw12.InboxDecodes", spec := "inboxDecodes", apart := false, narrowed := true }
def InboxDecodesUptoSaid : Prop := inboxDecodesUptoRow.holds Try.pinned (OpenSpec.upto inboxDecodesSpec)

end Rows
end Go.Proofs.Ytgbdpplnfcfhmaa
