/-
  No cell of these rows narrows 'for every input' (looked for: loops, veiled, ifaces, maps, wideKeys, modest, calm, conditions, laid).
  DERIVED. THE GIVEN ROWS OF THIS SEAT. 7 by the template 'for every input the law returns true; each argument reads behind the call as it read before'; 0 by the template 'total and deterministic' (their statements: YtlicimkpgnemeaaTotals.lean).
  GIVEN WITH THE SEED: the statements are not yours to turn. If you find one false, say at which input.
  Laid BY PROGRAM, IN A SANDBOX (cutbox-rows.mjs): the forced cells as the released guide's own fill.sh prints them over the translation 70fdaed484075ac9… (all of the seat's roots in one cut). By AI agents, Wed Nov 11 2026. No macro, syntax, notation, axiom, sorry.
-/
import Derived.Test.YtlicimkpgnemeaaChecked
import GoSem.Claim
import GoSem.ClaimJoined
import GoSem.ClaimMapViews
import Derived.JoinedTies
import Derived.KernelRfl
namespace Go.Proofs.Ytlicimkpgnemeaa
/- THE CELL 'sum', in the pinned program and in every row, IS THE sha256 OF THE DUMP (.gsa) THAT YtlicimkpgnemeaaProg.lean LOADS. Nothing in Lean hashes anything: it is a label: what it is worth is what the hold of that sum in a sandbox is worth. -/
noncomputable def Try.pinned : Pinned := { name := "ytlicimkpgnemeaa", sum := "70fdaed484075ac94948f4acd9c6eae9335359d290c4244be4cae55d0038c7b4", checked := Try.checked }
namespace Rows
def none {H : Type} : Left H := { results := [], args := [] }

/-- 'reevelaw15.RemindOrder': WHATEVER THE INPUT: true; the input reads as it did. -/
def remindOrderSpec : ChangeSpec := { name := "remindOrder", fn := fun _ => fun
  | [d1, d2] => { results := [.lit (.bool true)], args := [d1, d2] }
  | _ => none }
def remindOrderRow : OpenClaim := { program := "ytlicimkpgnemeaa", sum := "70fdaed484075ac94948f4acd9c6eae9335359d290c4244be4cae55d0038c7b4", func := "reeve/reevelaw15.RemindOrder", spec := "remindOrder", inPlace := ["internal/bytealg.abigen_runtime_cmpstring", "slices.overlaps[reeve/remind.Reminder]"], unfollowed := true, recurses := true, apart := false }
def RemindOrderSaid : Prop := remindOrderRow.holds Try.pinned (OpenSpec.ofChange remindOrderSpec)

/-- ITS FALSE NEIGHBOUR: 'it returns false'. Refute it at one input. -/
def remindOrderWrong : ChangeSpec := { name := "remindOrder", fn := fun _ => fun
  | [d1, d2] => { results := [.lit (.bool false)], args := [d1, d2] }
  | _ => none }
def RemindOrderWrongFalsely : Prop := remindOrderRow.holds Try.pinned (OpenSpec.ofChange remindOrderWrong)

/-- 'reevelaw15.RemindCancels': WHATEVER THE INPUT: true; the input reads as it did. -/
def remindCancelsSpec : ChangeSpec := { name := "remindCancels", fn := fun _ => fun
  | [d1, d2, d3] => { results := [.lit (.bool true)], args := [d1, d2, d3] }
  | _ => none }
def remindCancelsRow : OpenClaim := { program := "ytlicimkpgnemeaa", sum := "70fdaed484075ac94948f4acd9c6eae9335359d290c4244be4cae55d0038c7b4", func := "reeve/reevelaw15.RemindCancels", spec := "remindCancels", inPlace := ["internal/bytealg.abigen_runtime_cmpstring", "slices.overlaps[reeve/remind.Reminder]"], unfollowed := true, recurses := true, apart := false }
def RemindCancelsSaid : Prop := remindCancelsRow.holds Try.pinned (OpenSpec.ofChange remindCancelsSpec)

/-- ITS FALSE NEIGHBOUR: 'it returns false'. Refute it at one input. -/
def remindCancelsWrong : ChangeSpec := { name := "remindCancels", fn := fun _ => fun
  | [d1, d2, d3] => { results := [.lit (.bool false)], args := [d1, d2, d3] }
  | _ => none }
def RemindCancelsWrongFalsely : Prop := remindCancelsRow.holds Try.pinned (OpenSpec.ofChange remindCancelsWrong)

/-- 'reevelaw15.RemindSeries': WHATEVER THE INPUT: true; the input reads as it did. -/
def remindSeriesSpec : ChangeSpec := { name := "remindSeries", fn := fun _ => fun
  | [d1, d2, d3, d4] => { results := [.lit (.bool true)], args := [d1, d2, d3, d4] }
  | _ => none }
def remindSeriesRow : OpenClaim := { program := "ytlicimkpgnemeaa", sum := "70fdaed484075ac94948f4acd9c6eae9335359d290c4244be4cae55d0038c7b4", func := "reeve/reevelaw15.RemindSeries", spec := "remindSeries", inPlace := ["internal/bytealg.abigen_runtime_cmpstring", "slices.overlaps[reeve/remind.Reminder]"], unfollowed := true, recurses := true, apart := false }
def RemindSeriesSaid : Prop := remindSeriesRow.holds Try.pinned (OpenSpec.ofChange remindSeriesSpec)

/-- ITS FALSE NEIGHBOUR: 'it returns false'. Refute it at one input. -/
def remindSeriesWrong : ChangeSpec := { name := "remindSeries", fn := fun _ => fun
  | [d1, d2, d3, d4] => { results := [.lit (.bool false)], args := [d1, d2, d3, d4] }
  | _ => none }
def RemindSeriesWrongFalsely : Prop := remindSeriesRow.holds Try.pinned (OpenSpec.ofChange remindSeriesWrong)

/-- 'reevelaw15.RemindPlays': WHATEVER THE INPUT: true; the input reads as it did. -/
def remindPlaysSpec : ChangeSpec := { name := "remindPlays", fn := fun _ => fun
  | [d1, d2] => { results := [.lit (.bool true)], args := [d1, d2] }
  | _ => none }
def remindPlaysRow : OpenClaim := { program := "ytlicimkpgnemeaa", sum := "70fdaed484075ac94948f4acd9c6eae9335359d290c4244be4cae55d0038c7b4", func := "reeve/reevelaw15.RemindPlays", spec := "remindPlays", inPlace := ["internal/bytealg.abigen_runtime_cmpstring", "slices.overlaps[reeve/remind.Reminder]"], unfollowed := true, recurses := true, apart := false }
def RemindPlaysSaid : Prop := remindPlaysRow.holds Try.pinned (OpenSpec.ofChange remindPlaysSpec)

/-- ITS FALSE NEIGHBOUR: 'it returns false'. Refute it at one input. -/
def remindPlaysWrong : ChangeSpec := { name := "remindPlays", fn := fun _ => fun
  | [d1, d2] => { results := [.lit (.bool false)], args := [d1, d2] }
  | _ => none }
def RemindPlaysWrongFalsely : Prop := remindPlaysRow.holds Try.pinned (OpenSpec.ofChange remindPlaysWrong)

/-- 'reevelaw15.RemindFull': WHATEVER THE INPUT: true; the input reads as it did. -/
def remindFullSpec : ChangeSpec := { name := "remindFull", fn := fun _ => fun
  | [d1, d2] => { results := [.lit (.bool true)], args := [d1, d2] }
  | _ => none }
def remindFullRow : OpenClaim := { program := "ytlicimkpgnemeaa", sum := "70fdaed484075ac94948f4acd9c6eae9335359d290c4244be4cae55d0038c7b4", func := "reeve/reevelaw15.RemindFull", spec := "remindFull", inPlace := ["internal/bytealg.abigen_runtime_cmpstring", "slices.overlaps[reeve/remind.Reminder]"], unfollowed := true, recurses := true, apart := false }
def RemindFullSaid : Prop := remindFullRow.holds Try.pinned (OpenSpec.ofChange remindFullSpec)

/-- ITS FALSE NEIGHBOUR: 'it returns false'. Refute it at one input. -/
def remindFullWrong : ChangeSpec := { name := "remindFull", fn := fun _ => fun
  | [d1, d2] => { results := [.lit (.bool false)], args := [d1, d2] }
  | _ => none }
def RemindFullWrongFalsely : Prop := remindFullRow.holds Try.pinned (OpenSpec.ofChange remindFullWrong)

/-- 'reevelaw15.RemindNil': WHATEVER THE INPUT: true; the input reads as it did. -/
def remindNilSpec : ChangeSpec := { name := "remindNil", fn := fun _ => fun
  | [d1, d2] => { results := [.lit (.bool true)], args := [d1, d2] }
  | _ => none }
def remindNilRow : OpenClaim := { program := "ytlicimkpgnemeaa", sum := "70fdaed484075ac94948f4acd9c6eae9335359d290c4244be4cae55d0038c7b4", func := "reeve/reevelaw15.RemindNil", spec := "remindNil", inPlace := ["internal/bytealg.abigen_runtime_cmpstring", "slices.overlaps[reeve/remind.Reminder]"], unfollowed := true, recurses := true, apart := false }
def RemindNilSaid : Prop := remindNilRow.holds Try.pinned (OpenSpec.ofChange remindNilSpec)

/-- ITS FALSE NEIGHBOUR: 'it returns false'. Refute it at one input. -/
def remindNilWrong : ChangeSpec := { name := "remindNil", fn := fun _ => fun
  | [d1, d2] => { results := [.lit (.bool false)], args := [d1, d2] }
  | _ => none }
def RemindNilWrongFalsely : Prop := remindNilRow.holds Try.pinned (OpenSpec.ofChange remindNilWrong)

/-- 'reevelaw15.RemindDecodes': WHATEVER THE INPUT: true; the input reads as it did. -/
def remindDecodesSpec : ChangeSpec := { name := "remindDecodes", fn := fun _ => fun
  | [d1, d2, d3] => { results := [.lit (.bool true)], args := [d1, d2, d3] }
  | _ => none }
def remindDecodesRow : OpenClaim := { program := "ytlicimkpgnemeaa", sum := "70fdaed484075ac94948f4acd9c6eae9335359d290c4244be4cae55d0038c7b4", func := "reeve/reevelaw15.RemindDecodes", spec := "remindDecodes", inPlace := ["internal/bytealg.abigen_runtime_cmpstring", "slices.overlaps[reeve/remind.Reminder]"], unfollowed := true, recurses := true, apart := false }
def RemindDecodesSaid : Prop := remindDecodesRow.holds Try.pinned (OpenSpec.ofChange remindDecodesSpec)

/-- ITS FALSE NEIGHBOUR: 'it returns false'. Refute it at one input. -/
def remindDecodesWrong : ChangeSpec := { name := "remindDecodes", fn := fun _ => fun
  | [d1, d2, d3] => { results := [.lit (.bool false)], args := [d1, d2, d3] }
  | _ => none }
def RemindDecodesWrongFalsely : Prop := remindDecodesRow.holds Try.pinned (OpenSpec.ofChange remindDecodesWrong)

/- THE SECOND FORM. 'bulk': how many values and letters a reading holds, each counted each time it is reached (what is shared counts as often as it is met; a slice's spare places count too). A statement '..UptoSaid' is the law's where the arguments, and the package variables that the reading takes, are together of bulk at most 1048576: NARROWER than '..Said'. Prove '..Said' where nothing that the law and all that it calls make is longer than what came in: it says more and counts as full. Else prove '..UptoSaid'. A law counts once. -/
mutual
def uptoBulk {H : Type} : DataW H → Nat
  | .lit (.string bytes) => bytes.length + 1
  | .lit _ => 1
  | .nil => 1
  | .ptr d => uptoBulk d + 1
  | .slice elems spare => uptoBulkAll elems + uptoBulkAll spare + 1
  | .agg parts => uptoBulkAll parts + 1
  | .iface _ d => uptoBulk d + 1
  | .map entries => uptoBulkEntries entries + 1
  | .held _ => 1
def uptoBulkAll {H : Type} : List (DataW H) → Nat
  | [] => 0
  | d :: r => uptoBulk d + uptoBulkAll r
def uptoBulkEntries {H : Type} : List (Lit × DataW H) → Nat
  | [] => 0
  | x :: r => uptoBulkEntry x + uptoBulkEntries r
def uptoBulkEntry {H : Type} : Lit × DataW H → Nat
  | (.string bytes, d) => bytes.length + uptoBulk d + 1
  | (_, d) => uptoBulk d + 1
 end
def uptoSmall : (H : Type) → List (DataW H) → Bool := fun _ ds => decide (uptoBulkAll ds ≤ 1048576)
def OpenSpec.upto (s : _root_.Go.ChangeSpec) : _root_.Go.OpenSpec := { _root_.Go.OpenSpec.ofChange s with cond := some uptoSmall }

/-- 'reevelaw15.RemindOrder', WHERE WHAT IT READS IS OF BULK AT MOST 1048576: true; the input reads as it did. -/
def remindOrderUptoRow : OpenClaim := { program := "ytlicimkpgnemeaa", sum := "70fdaed484075ac94948f4acd9c6eae9335359d290c4244be4cae55d0038c7b4", func := "reeve/reevelaw15.RemindOrder", spec := "remindOrder", inPlace := ["internal/bytealg.abigen_runtime_cmpstring", "slices.overlaps[reeve/remind.Reminder]"], unfollowed := true, recurses := true, apart := false, narrowed := true }
def RemindOrderUptoSaid : Prop := remindOrderUptoRow.holds Try.pinned (OpenSpec.upto remindOrderSpec)

/-- 'reevelaw15.RemindCancels', WHERE WHAT IT READS IS OF BULK AT MOST 1048576: true; the input reads as it did. -/
def remindCancelsUptoRow : OpenClaim := { program := "ytlicimkpgnemeaa", sum := "70fdaed484075ac94948f4acd9c6eae9335359d290c4244be4cae55d0038c7b4", func := "reeve/reevelaw15.RemindCancels", spec := "remindCancels", inPlace := ["internal/bytealg.abigen_runtime_cmpstring", "slices.overlaps[reeve/remind.Reminder]"], unfollowed := true, recurses := true, apart := false, narrowed := true }
def RemindCancelsUptoSaid : Prop := remindCancelsUptoRow.holds Try.pinned (OpenSpec.upto remindCancelsSpec)

/-- 'reevelaw15.RemindSeries', WHERE WHAT IT READS IS OF BULK AT MOST 1048576: true; the input reads as it did. -/
def remindSeriesUptoRow : OpenClaim := { program := "ytlicimkpgnemeaa", sum := "70fdaed484075ac94948f4acd9c6eae9335359d290c4244be4cae55d0038c7b4", func := "reeve/reevelaw15.RemindSeries", spec := "remindSeries", inPlace := ["internal/bytealg.abigen_runtime_cmpstring", "slices.overlaps[reeve/remind.Reminder]"], unfollowed := true, recurses := true, apart := false, narrowed := true }
def RemindSeriesUptoSaid : Prop := remindSeriesUptoRow.holds Try.pinned (OpenSpec.upto remindSeriesSpec)

/-- 'reevelaw15.RemindPlays', WHERE WHAT IT READS IS OF BULK AT MOST 1048576: true; the input reads as it did. -/
def remindPlaysUptoRow : OpenClaim := { program := "ytlicimkpgnemeaa", sum := "70fdaed484075ac94948f4acd9c6eae9335359d290c4244be4cae55d0038c7b4", func := "reeve/reevelaw15.RemindPlays", spec := "remindPlays", inPlace := ["internal/bytealg.abigen_runtime_cmpstring", "slices.overlaps[reeve/remind.Reminder]"], unfollowed := true, recurses := true, apart := false, narrowed := true }
def RemindPlaysUptoSaid : Prop := remindPlaysUptoRow.holds Try.pinned (OpenSpec.upto remindPlaysSpec)

/-- 'reevelaw15.RemindFull', WHERE WHAT IT READS IS OF BULK AT MOST 1048576: true; the input reads as it did. -/
def remindFullUptoRow : OpenClaim := { program := "ytlicimkpgnemeaa", sum := "70fdaed484075ac94948f4acd9c6eae9335359d290c4244be4cae55d0038c7b4", func := "reeve/reevelaw15.RemindFull", spec := "remindFull", inPlace := ["internal/bytealg.abigen_runtime_cmpstring", "slices.overlaps[reeve/remind.Reminder]"], unfollowed := true, recurses := true, apart := false, narrowed := true }
def RemindFullUptoSaid : Prop := remindFullUptoRow.holds Try.pinned (OpenSpec.upto remindFullSpec)

/-- 'reevelaw15.RemindNil', WHERE WHAT IT READS IS OF BULK AT MOST 1048576: true; the input reads as it did. -/
def remindNilUptoRow : OpenClaim := { program := "ytlicimkpgnemeaa", sum := "70fdaed484075ac94948f4acd9c6eae9335359d290c4244be4cae55d0038c7b4", func := "reeve/reevelaw15.RemindNil", spec := "remindNil", inPlace := ["internal/bytealg.abigen_runtime_cmpstring", "slices.overlaps[reeve/remind.Reminder]"], unfollowed := true, recurses := true, apart := false, narrowed := true }
def RemindNilUptoSaid : Prop := remindNilUptoRow.holds Try.pinned (OpenSpec.upto remindNilSpec)

/-- 'reevelaw15.RemindDecodes', WHERE WHAT IT READS IS OF BULK AT MOST 1048576: true; the input reads as it did. -/
def remindDecodesUptoRow : OpenClaim := { program := "ytlicimkpgnemeaa", sum := "70fdaed484075ac94948f4acd9c6eae9335359d290c4244be4cae55d0038c7b4", func := "reeve/reevelaw15.RemindDecodes", spec := "remindDecodes", inPlace := ["internal/bytealg.abigen_runtime_cmpstring", "slices.overlaps[reeve/remind.Reminder]"], unfollowed := true, recurses := true, apart := false, narrowed := true }
def RemindDecodesUptoSaid : Prop := remindDecodesUptoRow.holds Try.pinned (OpenSpec.upto remindDecodesSpec)

end Rows
end Go.Proofs.Ytlicimkpgnemeaa
