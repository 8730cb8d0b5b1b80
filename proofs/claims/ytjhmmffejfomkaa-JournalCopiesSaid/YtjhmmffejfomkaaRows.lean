/-
  No cell of these rows narrows 'for every input' (looked for: loops, veiled, ifaces, maps, wideKeys, modest, calm, conditions, laid).
  DERIVED. THE GIVEN ROWS OF THIS SEAT. 5 by the template 'for every input the law returns true; each argument reads behind the call as it read before'; 0 by the template 'total and deterministic' (their statements: YtjhmmffejfomkaaTotals.lean).
  GIVEN WITH THE SEED: the statements are not yours to turn. If you find one false, say at which input.
  Laid BY PROGRAM, IN A SANDBOX (cutbox-rows.mjs): the forced cells as the released guide's own fill.sh prints them over the translation 81cd63c6eaa4cfa5… (all of the seat's roots in one cut). By AI agents, Wed Nov 11 2026. No macro, syntax, notation, axiom, sorry.
-/
import Derived.Test.YtjhmmffejfomkaaChecked
import GoSem.Claim
import GoSem.ClaimJoined
import GoSem.ClaimMapViews
import Derived.JoinedTies
import Derived.KernelRfl
namespace Go.Proofs.Ytjhmmffejfomkaa
/- THE CELL 'sum', in the pinned program and in every row, IS THE sha256 OF THE DUMP (.gsa) THAT YtjhmmffejfomkaaProg.lean LOADS. Nothing in Lean hashes anything: it is a label: what it is worth is what the hold of that sum in a sandbox is worth. -/
noncomputable def Try.pinned : Pinned := { name := "ytjhmmffejfomkaa", sum := "81cd63c6eaa4cfa58d56fa3a29dfb7159669cf383ae5e7cbb38292263ac46ed9", checked := Try.checked }
namespace Rows
def none {H : Type} : Left H := { results := [], args := [] }

/-- 'reevelaw16.JournalState': WHATEVER THE INPUT: true; the input reads as it did. -/
def journalStateSpec : ChangeSpec := { name := "journalState", fn := fun _ => fun
  | [d1, d2, d3] => { results := [.lit (.bool true)], args := [d1, d2, d3] }
  | _ => none }
def journalStateRow : OpenClaim := { program := "ytjhmmffejfomkaa", sum := "81cd63c6eaa4cfa58d56fa3a29dfb7159669cf383ae5e7cbb38292263ac46ed9", func := "reeve/reevelaw16.JournalState", spec := "journalState", unfollowed := true, recurses := true, apart := false }
def JournalStateSaid : Prop := journalStateRow.holds Try.pinned (OpenSpec.ofChange journalStateSpec)

/-- ITS FALSE NEIGHBOUR: 'it returns false'. Refute it at one input. -/
def journalStateWrong : ChangeSpec := { name := "journalState", fn := fun _ => fun
  | [d1, d2, d3] => { results := [.lit (.bool false)], args := [d1, d2, d3] }
  | _ => none }
def JournalStateWrongFalsely : Prop := journalStateRow.holds Try.pinned (OpenSpec.ofChange journalStateWrong)

/-- 'reevelaw16.JournalPlays': WHATEVER THE INPUT: true; the input reads as it did. -/
def journalPlaysSpec : ChangeSpec := { name := "journalPlays", fn := fun _ => fun
  | [d1, d2, d3] => { results := [.lit (.bool true)], args := [d1, d2, d3] }
  | _ => none }
def journalPlaysRow : OpenClaim := { program := "ytjhmmffejfomkaa", sum := "81cd63c6eaa4cfa58d56fa3a29dfb7159669cf383ae5e7cbb38292263ac46ed9", func := "reeve/reevelaw16.JournalPlays", spec := "journalPlays", unfollowed := true, recurses := true, apart := false }
def JournalPlaysSaid : Prop := journalPlaysRow.holds Try.pinned (OpenSpec.ofChange journalPlaysSpec)

/-- ITS FALSE NEIGHBOUR: 'it returns false'. Refute it at one input. -/
def journalPlaysWrong : ChangeSpec := { name := "journalPlays", fn := fun _ => fun
  | [d1, d2, d3] => { results := [.lit (.bool false)], args := [d1, d2, d3] }
  | _ => none }
def JournalPlaysWrongFalsely : Prop := journalPlaysRow.holds Try.pinned (OpenSpec.ofChange journalPlaysWrong)

/-- 'reevelaw16.JournalParts': WHATEVER THE INPUT: true; the input reads as it did. -/
def journalPartsSpec : ChangeSpec := { name := "journalParts", fn := fun _ => fun
  | [d] => { results := [.lit (.bool true)], args := [d] }
  | _ => none }
def journalPartsRow : OpenClaim := { program := "ytjhmmffejfomkaa", sum := "81cd63c6eaa4cfa58d56fa3a29dfb7159669cf383ae5e7cbb38292263ac46ed9", func := "reeve/reevelaw16.JournalParts", spec := "journalParts", unfollowed := true, recurses := true, apart := false }
def JournalPartsSaid : Prop := journalPartsRow.holds Try.pinned (OpenSpec.ofChange journalPartsSpec)

/-- ITS FALSE NEIGHBOUR: 'it returns false'. Refute it at one input. -/
def journalPartsWrong : ChangeSpec := { name := "journalParts", fn := fun _ => fun
  | [d] => { results := [.lit (.bool false)], args := [d] }
  | _ => none }
def JournalPartsWrongFalsely : Prop := journalPartsRow.holds Try.pinned (OpenSpec.ofChange journalPartsWrong)

/-- 'reevelaw16.JournalNil': WHATEVER THE INPUT: true; the input reads as it did. -/
def journalNilSpec : ChangeSpec := { name := "journalNil", fn := fun _ => fun
  | [d] => { results := [.lit (.bool true)], args := [d] }
  | _ => none }
def journalNilRow : OpenClaim := { program := "ytjhmmffejfomkaa", sum := "81cd63c6eaa4cfa58d56fa3a29dfb7159669cf383ae5e7cbb38292263ac46ed9", func := "reeve/reevelaw16.JournalNil", spec := "journalNil", unfollowed := true, recurses := true, apart := false }
def JournalNilSaid : Prop := journalNilRow.holds Try.pinned (OpenSpec.ofChange journalNilSpec)

/-- ITS FALSE NEIGHBOUR: 'it returns false'. Refute it at one input. -/
def journalNilWrong : ChangeSpec := { name := "journalNil", fn := fun _ => fun
  | [d] => { results := [.lit (.bool false)], args := [d] }
  | _ => none }
def JournalNilWrongFalsely : Prop := journalNilRow.holds Try.pinned (OpenSpec.ofChange journalNilWrong)

/-- 'reevelaw16.JournalCopies': WHATEVER THE INPUT: true; the input reads as it did. -/
def journalCopiesSpec : ChangeSpec := { name := "journalCopies", fn := fun _ => fun
  | [d1, d2] => { results := [.lit (.bool true)], args := [d1, d2] }
  | _ => none }
def journalCopiesRow : OpenClaim := { program := "ytjhmmffejfomkaa", sum := "81cd63c6eaa4cfa58d56fa3a29dfb7159669cf383ae5e7cbb38292263ac46ed9", func := "reeve/reevelaw16.JournalCopies", spec := "journalCopies", unfollowed := true, recurses := true, apart := false }
def JournalCopiesSaid : Prop := journalCopiesRow.holds Try.pinned (OpenSpec.ofChange journalCopiesSpec)

/-- ITS FALSE NEIGHBOUR: 'it returns false'. Refute it at one input. -/
def journalCopiesWrong : ChangeSpec := { name := "journalCopies", fn := fun _ => fun
  | [d1, d2] => { results := [.lit (.bool false)], args := [d1, d2] }
  | _ => none }
def JournalCopiesWrongFalsely : Prop := journalCopiesRow.holds Try.pinned (OpenSpec.ofChange journalCopiesWrong)

/- THE SECOND FORM. 'bulk': how many values and letters a reading holds, each counted each time it is reached (what is shared counts as often as it is met; a slice's spare places count too). A statement '..UptoSaid' is the law's where the arguments, and the package variables that the reading takes, are together of bulk at most 1048576: NARROWER than '..Said'. Prove '..Said' where nothing that the law and all that it calls make is longer than what came in: it says more and counts as full. Else prove '..UptoSaid'. A law counts once. -/
mutual
def uptoBulk {H : Type} : DataW H → Nat
  | .lit (.string bytes) => bytes.length + 1
  | .lit _ => 1
  | .nil => 1
  | .ptr d => uptoBulk d + 1
  | .slice elems spare => uptoBulkAll elems + uptoBulkAll spare + 1
  | .agg parts => uptoBulkAll parts + 1
  | .iface _ d => uptoBulk d + 1
  | .map entries => uptoBulkEntries entries + 1
  | .held _ => 1
def uptoBulkAll {H : Type} : List (DataW H) → Nat
  | [] => 0
  | d :: r => uptoBulk d + uptoBulkAll r
def uptoBulkEntries {H : Type} : List (Lit × DataW H) → Nat
  | [] => 0
  | x :: r => uptoBulkEntry x + uptoBulkEntries r
def uptoBulkEntry {H : Type} : Lit × DataW H → Nat
  | (.string bytes, d) => bytes.length + uptoBulk d + 1
  | (_, d) => uptoBulk d + 1
 end
def uptoSmall : (H : Type) → List (DataW H) → Bool := fun _ ds => decide (uptoBulkAll ds ≤ 1048576)
def OpenSpec.upto (s : _root_.Go.ChangeSpec) : _root_.Go.OpenSpec := { _root_.Go.OpenSpec.ofChange s with cond := some uptoSmall }

/-- 'reevelaw16.JournalState', WHERE WHAT IT READS IS OF BULK AT MOST 1048576: true; the input reads as it did. -/
def journalStateUptoRow : OpenClaim := { program := "ytjhmmffejfomkaa", sum := "81cd63c6eaa4cfa58d56fa3a29dfb7159669cf383ae5e7cbb38292263ac46ed9", func := "reeve/reevelaw16.JournalState", spec := "journalState", unfollowed := true, recurses := true, apart := false, narrowed := true }
def JournalStateUptoSaid : Prop := journalStateUptoRow.holds Try.pinned (OpenSpec.upto journalStateSpec)

/-- 'reevelaw16.JournalPlays', WHERE WHAT IT READS IS OF BULK AT MOST 1048576: true; the input reads as it did. -/
def journalPlaysUptoRow : OpenClaim := { program := "ytjhmmffejfomkaa", sum := "81cd63c6eaa4cfa58d56fa3a29dfb7159669cf383ae5e7cbb38292263ac46ed9", func := "reeve/reevelaw16.JournalPlays", spec := "journalPlays", unfollowed := true, recurses := true, apart := false, narrowed := true }
def JournalPlaysUptoSaid : Prop := journalPlaysUptoRow.holds Try.pinned (OpenSpec.upto journalPlaysSpec)

/-- 'reevelaw16.JournalParts', WHERE WHAT IT READS IS OF BULK AT MOST 1048576: true; the input reads as it did. -/
def journalPartsUptoRow : OpenClaim := { program := "ytjhmmffejfomkaa", sum := "81cd63c6eaa4cfa58d56fa3a29dfb7159669cf383ae5e7cbb38292263ac46ed9", func := "reeve/reevelaw16.JournalParts", spec := "journalParts", unfollowed := true, recurses := true, apart := false, narrowed := true }
def JournalPartsUptoSaid : Prop := journalPartsUptoRow.holds Try.pinned (OpenSpec.upto journalPartsSpec)

/-- 'reevelaw16.JournalNil', WHERE WHAT IT READS IS OF BULK AT MOST 1048576: true; the input reads as it did. -/
def journalNilUptoRow : OpenClaim := { program := "ytjhmmffejfomkaa", sum := "81cd63c6eaa4cfa58d56fa3a29dfb7159669cf383ae5e7cbb38292263ac46ed9", func := "reeve/reevelaw16.JournalNil", spec := "journalNil", unfollowed := true, recurses := true, apart := false, narrowed := true }
def JournalNilUptoSaid : Prop := journalNilUptoRow.holds Try.pinned (OpenSpec.upto journalNilSpec)

/-- 'reevelaw16.JournalCopies', WHERE WHAT IT READS IS OF BULK AT MOST 1048576: true; the input reads as it did. -/
def journalCopiesUptoRow : OpenClaim := { program := "ytjhmmffejfomkaa", sum := "81cd63c6eaa4cfa58d56fa3a29dfb7159669cf383ae5e7cbb38292263ac46ed9", func := "reeve/reevelaw16.JournalCopies", spec := "journalCopies", unfollowed := true, recurses := true, apart := false, narrowed := true }
def JournalCopiesUptoSaid : Prop := journalCopiesUptoRow.holds Try.pinned (OpenSpec.upto journalCopiesSpec)

end Rows
end Go.Proofs.Ytjhmmffejfomkaa
