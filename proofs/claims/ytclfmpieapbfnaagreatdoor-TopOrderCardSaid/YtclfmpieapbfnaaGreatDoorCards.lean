/-
  DERIVED. GIVEN WITH THE SEED: THE CARDS: each row of YtclfmpieapbfnaaGreatDoorRows.lean that lists a variable, with what it lists TIED to the program's text (the seventh form; the later family's looks); each row that meets fmt, with fmt's text TOLD by the authors' own Lean function (tested against real Go, not proved from fmt's source: count such statements apart). THE CARD IS WHAT COUNTS. Prove the row's statement (the work); the ties are given (YtclfmpieapbfnaaGreatDoorTie.lean); close each card by the builder's one call (the guide's Derived/Test/ToyasCard.lean, 'card_holds'). Laid BY PROGRAM, IN A SANDBOX (cutbox-door.mjs). By AI agents, Wed Nov 11 2026. No macro, syntax, notation, axiom, sorry.
-/
import Derived.Test.YtclfmpieapbfnaaGreatDoorRows
import GoSem.ClaimSeven
namespace Go.Proofs.YtclfmpieapbfnaaGreatDoor
namespace Rows

/-- THE TIED CARD OF 'reevetop.TopOrder'. -/
def topOrderCard : Claim7 := { stood := { row := topOrderRow, standIns := [], harness := (true, "465e8cf24ddac9b7602db069d9ef38b020000be1acb44b3403008180c8d01417"), looks := true }, kinds := [], alts := [], laidByText := true, laidKinds := [.data, .data, .data, .data, .sentinel, .sentinel, .pinned], laidTests := true, laidLooks := .later }
def TopOrderCardSaid : Prop := Claim7.holds Tryz.pinned (.plain (OpenSpec.ofChange topOrderSpec)) topOrderCard

/-- THE TIED CARD OF 'reevetop.TopReminders'. -/
def topRemindersCard : Claim7 := { stood := { row := topRemindersRow, standIns := [], harness := (true, "465e8cf24ddac9b7602db069d9ef38b020000be1acb44b3403008180c8d01417"), looks := true }, kinds := [], alts := [], laidByText := true, laidKinds := [.data, .data, .data, .data, .sentinel, .sentinel, .pinned], laidTests := true, laidLooks := .later }
def TopRemindersCardSaid : Prop := Claim7.holds Tryz.pinned (.plain (OpenSpec.ofChange topRemindersSpec)) topRemindersCard

/-- THE SECOND FORM's CARD OF 'reevetop.TopOrder'. -/
def topOrderUptoCard : Claim7 := { stood := { row := topOrderUptoRow, standIns := [], harness := (true, "465e8cf24ddac9b7602db069d9ef38b020000be1acb44b3403008180c8d01417"), looks := true }, kinds := [], alts := [], laidByText := true, laidKinds := [.data, .data, .data, .data, .sentinel, .sentinel, .pinned], laidTests := true, laidLooks := .later }
def TopOrderUptoCardSaid : Prop := Claim7.holds Tryz.pinned (.plain (OpenSpec.upto topOrderSpec)) topOrderUptoCard

/-- THE SECOND FORM's CARD OF 'reevetop.TopReminders'. -/
def topRemindersUptoCard : Claim7 := { stood := { row := topRemindersUptoRow, standIns := [], harness := (true, "465e8cf24ddac9b7602db069d9ef38b020000be1acb44b3403008180c8d01417"), looks := true }, kinds := [], alts := [], laidByText := true, laidKinds := [.data, .data, .data, .data, .sentinel, .sentinel, .pinned], laidTests := true, laidLooks := .later }
def TopRemindersUptoCardSaid : Prop := Claim7.holds Tryz.pinned (.plain (OpenSpec.upto topRemindersSpec)) topRemindersUptoCard
end Rows
end Go.Proofs.YtclfmpieapbfnaaGreatDoor
