/-
  DERIVED. GIVEN WITH THE SEED: THE CARDS: each row of YtjoblbpgpmknmaaGreatDoorRows.lean that lists a variable, with what it lists TIED to the program's text (the seventh form; the later family's looks); each row that meets fmt, with fmt's text TOLD by the authors' own Lean function (tested against real Go, not proved from fmt's source: count such statements apart). THE CARD IS WHAT COUNTS. Prove the row's statement (the work); the ties are given (YtjoblbpgpmknmaaGreatDoorTie.lean); close each card by the builder's one call (the guide's Derived/Test/ToyasCard.lean, 'card_holds'). Laid BY PROGRAM, IN A SANDBOX (cutbox-door.mjs). By AI agents, Wed Nov 11 2026. No macro, syntax, notation, axiom, sorry.
-/
import Derived.Test.YtjoblbpgpmknmaaGreatDoorRows
import GoSem.ClaimSeven
namespace Go.Proofs.YtjoblbpgpmknmaaGreatDoor
namespace Rows

/-- THE TIED CARD OF 'ballastlaw12.FitAny'. -/
def fitAnyCard : Claim7 := { stood := { row := fitAnyRow, standIns := [], harness := (true, "acbb4eb461690e9b679c8676f94b090cee2f6675f65ab868a44891f3d047ea70"), looks := true }, kinds := [], alts := [], laidByText := true, laidKinds := [.data, .pinned], laidTests := true, laidLooks := .later }
def FitAnyCardSaid : Prop := Claim7.holds Tryz.pinned (.plain (OpenSpec.ofChange fitAnySpec)) fitAnyCard

/-- THE TIED CARD OF 'ballastlaw12.FitLess'. -/
def fitLessCard : Claim7 := { stood := { row := fitLessRow, standIns := [], harness := (true, "acbb4eb461690e9b679c8676f94b090cee2f6675f65ab868a44891f3d047ea70"), looks := true }, kinds := [], alts := [], laidByText := true, laidKinds := [.data, .pinned], laidTests := true, laidLooks := .later }
def FitLessCardSaid : Prop := Claim7.holds Tryz.pinned (.plain (OpenSpec.ofChange fitLessSpec)) fitLessCard

/-- THE TIED CARD OF 'ballastlaw12.FitCordon'. -/
def fitCordonCard : Claim7 := { stood := { row := fitCordonRow, standIns := [], harness := (true, "acbb4eb461690e9b679c8676f94b090cee2f6675f65ab868a44891f3d047ea70"), looks := true }, kinds := [], alts := [], laidByText := true, laidKinds := [.data, .pinned], laidTests := true, laidLooks := .later }
def FitCordonCardSaid : Prop := Claim7.holds Tryz.pinned (.plain (OpenSpec.ofChange fitCordonSpec)) fitCordonCard

/-- THE TIED CARD OF 'ballastlaw12.FitStays'. -/
def fitStaysCard : Claim7 := { stood := { row := fitStaysRow, standIns := [], harness := (true, "acbb4eb461690e9b679c8676f94b090cee2f6675f65ab868a44891f3d047ea70"), looks := true }, kinds := [], alts := [], laidByText := true, laidKinds := [.data, .pinned], laidTests := true, laidLooks := .later }
def FitStaysCardSaid : Prop := Claim7.holds Tryz.pinned (.plain (OpenSpec.ofChange fitStaysSpec)) fitStaysCard

/-- THE TIED CARD OF 'ballastlaw9.StateAny'. -/
def stateAnyCard : Claim7 := { stood := { row := stateAnyRow, standIns := [], harness := (true, "acbb4eb461690e9b679c8676f94b090cee2f6675f65ab868a44891f3d047ea70"), looks := true }, kinds := [], alts := [], laidByText := true, laidKinds := [.data, .pinned], laidTests := true, laidLooks := .later }
def StateAnyCardSaid : Prop := Claim7.holds Tryz.pinned (.plain (OpenSpec.ofChange stateAnySpec)) stateAnyCard

/-- THE TIED CARD OF 'ballastlaw9.StateChanges'. -/
def stateChangesCard : Claim7 := { stood := { row := stateChangesRow, standIns := [], harness := (true, "acbb4eb461690e9b679c8676f94b090cee2f6675f65ab868a44891f3d047ea70"), looks := true }, kinds := [], alts := [], laidByText := true, laidKinds := [.data, .pinned], laidTests := true, laidLooks := .later }
def StateChangesCardSaid : Prop := Claim7.holds Tryz.pinned (.plain (OpenSpec.ofChange stateChangesSpec)) stateChangesCard

/-- THE TIED CARD OF 'ballastlaw9.StateTwo'. -/
def stateTwoCard : Claim7 := { stood := { row := stateTwoRow, standIns := [], harness := (true, "acbb4eb461690e9b679c8676f94b090cee2f6675f65ab868a44891f3d047ea70"), looks := true }, kinds := [], alts := [], laidByText := true, laidKinds := [.data, .pinned], laidTests := true, laidLooks := .later }
def StateTwoCardSaid : Prop := Claim7.holds Tryz.pinned (.plain (OpenSpec.ofChange stateTwoSpec)) stateTwoCard

/-- THE TIED CARD OF 'ballastlaw9.StateRoom'. -/
def stateRoomCard : Claim7 := { stood := { row := stateRoomRow, standIns := [], harness := (true, "acbb4eb461690e9b679c8676f94b090cee2f6675f65ab868a44891f3d047ea70"), looks := true }, kinds := [], alts := [], laidByText := true, laidKinds := [.data, .pinned], laidTests := true, laidLooks := .later }
def StateRoomCardSaid : Prop := Claim7.holds Tryz.pinned (.plain (OpenSpec.ofChange stateRoomSpec)) stateRoomCard

/-- THE TIED CARD OF 'ballastlaw9.StateFull'. -/
def stateFullCard : Claim7 := { stood := { row := stateFullRow, standIns := [], harness := (true, "acbb4eb461690e9b679c8676f94b090cee2f6675f65ab868a44891f3d047ea70"), looks := true }, kinds := [], alts := [], laidByText := true, laidKinds := [.data, .pinned], laidTests := true, laidLooks := .later }
def StateFullCardSaid : Prop := Claim7.holds Tryz.pinned (.plain (OpenSpec.ofChange stateFullSpec)) stateFullCard

/-- THE TIED CARD OF 'ballastlaw9.StateTotals'. -/
def stateTotalsCard : Claim7 := { stood := { row := stateTotalsRow, standIns := [], harness := (true, "acbb4eb461690e9b679c8676f94b090cee2f6675f65ab868a44891f3d047ea70"), looks := true }, kinds := [], alts := [], laidByText := true, laidKinds := [.data, .pinned], laidTests := true, laidLooks := .later }
def StateTotalsCardSaid : Prop := Claim7.holds Tryz.pinned (.plain (OpenSpec.ofChange stateTotalsSpec)) stateTotalsCard

/-- THE TIED CARD OF 'ballastlaw9.StatePuts'. -/
def statePutsCard : Claim7 := { stood := { row := statePutsRow, standIns := [], harness := (true, "acbb4eb461690e9b679c8676f94b090cee2f6675f65ab868a44891f3d047ea70"), looks := true }, kinds := [], alts := [], laidByText := true, laidKinds := [.data, .pinned], laidTests := true, laidLooks := .later }
def StatePutsCardSaid : Prop := Claim7.holds Tryz.pinned (.plain (OpenSpec.ofChange statePutsSpec)) statePutsCard

/-- THE TIED CARD OF 'ballastlaw12.FitSound'. -/
def fitSoundCard : Claim7 := { stood := { row := fitSoundRow, standIns := [], harness := (true, "acbb4eb461690e9b679c8676f94b090cee2f6675f65ab868a44891f3d047ea70"), looks := true }, kinds := [], alts := [], laidByText := true, laidKinds := [.data, .pinned], laidTests := true, laidLooks := .later }
def FitSoundCardSaid : Prop := Claim7.holds Tryz.pinned (.plain (OpenSpec.ofChange fitSoundSpec)) fitSoundCard

/-- THE SECOND FORM's CARD OF 'ballastlaw12.FitAny'. -/
def fitAnyUptoCard : Claim7 := { stood := { row := fitAnyUptoRow, standIns := [], harness := (true, "acbb4eb461690e9b679c8676f94b090cee2f6675f65ab868a44891f3d047ea70"), looks := true }, kinds := [], alts := [], laidByText := true, laidKinds := [.data, .pinned], laidTests := true, laidLooks := .later }
def FitAnyUptoCardSaid : Prop := Claim7.holds Tryz.pinned (.plain (OpenSpec.upto fitAnySpec)) fitAnyUptoCard

/-- THE SECOND FORM's CARD OF 'ballastlaw12.FitLess'. -/
def fitLessUptoCard : Claim7 := { stood := { row := fitLessUptoRow, standIns := [], harness := (true, "acbb4eb461690e9b679c8676f94b090cee2f6675f65ab868a44891f3d047ea70"), looks := true }, kinds := [], alts := [], laidByText := true, laidKinds := [.data, .pinned], laidTests := true, laidLooks := .later }
def FitLessUptoCardSaid : Prop := Claim7.holds Tryz.pinned (.plain (OpenSpec.upto fitLessSpec)) fitLessUptoCard

/-- THE SECOND FORM's CARD OF 'ballastlaw12.FitCordon'. -/
def fitCordonUptoCard : Claim7 := { stood := { row := fitCordonUptoRow, standIns := [], harness := (true, "acbb4eb461690e9b679c8676f94b090cee2f6675f65ab868a44891f3d047ea70"), looks := true }, kinds := [], alts := [], laidByText := true, laidKinds := [.data, .pinned], laidTests := true, laidLooks := .later }
def FitCordonUptoCardSaid : Prop := Claim7.holds Tryz.pinned (.plain (OpenSpec.upto fitCordonSpec)) fitCordonUptoCard

/-- THE SECOND FORM's CARD OF 'ballastlaw12.FitStays'. -/
def fitStaysUptoCard : Claim7 := { stood := { row := fitStaysUptoRow, standIns := [], harness := (true, "acbb4eb461690e9b679c8676f94b090cee2f6675f65ab868a44891f3d047ea70"), looks := true }, kinds := [], alts := [], laidByText := true, laidKinds := [.data, .pinned], laidTests := true, laidLooks := .later }
def FitStaysUptoCardSaid : Prop := Claim7.holds Tryz.pinned (.plain (OpenSpec.upto fitStaysSpec)) fitStaysUptoCard

/-- THE SECOND FORM's CARD OF 'ballastlaw9.StateAny'. -/
def stateAnyUptoCard : Claim7 := { stood := { row := stateAnyUptoRow, standIns := [], harness := (true, "acbb4eb461690e9b679c8676f94b090cee2f6675f65ab868a44891f3d047ea70"), looks := true }, kinds := [], alts := [], laidByText := true, laidKinds := [.data, .pinned], laidTests := true, laidLooks := .later }
def StateAnyUptoCardSaid : Prop := Claim7.holds Tryz.pinned (.plain (OpenSpec.upto stateAnySpec)) stateAnyUptoCard

/-- THE SECOND FORM's CARD OF 'ballastlaw9.StateChanges'. -/
def stateChangesUptoCard : Claim7 := { stood := { row := stateChangesUptoRow, standIns := [], harness := (true, "acbb4eb461690e9b679c8676f94b090cee2f6675f65ab868a44891f3d047ea70"), looks := true }, kinds := [], alts := [], laidByText := true, laidKinds := [.data, .pinned], laidTests := true, laidLooks := .later }
def StateChangesUptoCardSaid : Prop := Claim7.holds Tryz.pinned (.plain (OpenSpec.upto stateChangesSpec)) stateChangesUptoCard

/-- THE SECOND FORM's CARD OF 'ballastlaw9.StateTwo'. -/
def stateTwoUptoCard : Claim7 := { stood := { row := stateTwoUptoRow, standIns := [], harness := (true, "acbb4eb461690e9b679c8676f94b090cee2f6675f65ab868a44891f3d047ea70"), looks := true }, kinds := [], alts := [], laidByText := true, laidKinds := [.data, .pinned], laidTests := true, laidLooks := .later }
def StateTwoUptoCardSaid : Prop := Claim7.holds Tryz.pinned (.plain (OpenSpec.upto stateTwoSpec)) stateTwoUptoCard

/-- THE SECOND FORM's CARD OF 'ballastlaw9.StateRoom'. -/
def stateRoomUptoCard : Claim7 := { stood := { row := stateRoomUptoRow, standIns := [], harness := (true, "acbb4eb461690e9b679c8676f94b090cee2f6675f65ab868a44891f3d047ea70"), looks := true }, kinds := [], alts := [], laidByText := true, laidKinds := [.data, .pinned], laidTests := true, laidLooks := .later }
def StateRoomUptoCardSaid : Prop := Claim7.holds Tryz.pinned (.plain (OpenSpec.upto stateRoomSpec)) stateRoomUptoCard

/-- THE SECOND FORM's CARD OF 'ballastlaw9.StateFull'. -/
def stateFullUptoCard : Claim7 := { stood := { row := stateFullUptoRow, standIns := [], harness := (true, "acbb4eb461690e9b679c8676f94b090cee2f6675f65ab868a44891f3d047ea70"), looks := true }, kinds := [], alts := [], laidByText := true, laidKinds := [.data, .pinned], laidTests := true, laidLooks := .later }
def StateFullUptoCardSaid : Prop := Claim7.holds Tryz.pinned (.plain (OpenSpec.upto stateFullSpec)) stateFullUptoCard

/-- THE SECOND FORM's CARD OF 'ballastlaw9.StateTotals'. -/
def stateTotalsUptoCard : Claim7 := { stood := { row := stateTotalsUptoRow, standIns := [], harness := (true, "acbb4eb461690e9b679c8676f94b090cee2f6675f65ab868a44891f3d047ea70"), looks := true }, kinds := [], alts := [], laidByText := true, laidKinds := [.data, .pinned], laidTests := true, laidLooks := .later }
def StateTotalsUptoCardSaid : Prop := Claim7.holds Tryz.pinned (.plain (OpenSpec.upto stateTotalsSpec)) stateTotalsUptoCard

/-- THE SECOND FORM's CARD OF 'ballastlaw9.StatePuts'. -/
def statePutsUptoCard : Claim7 := { stood := { row := statePutsUptoRow, standIns := [], harness := (true, "acbb4eb461690e9b679c8676f94b090cee2f6675f65ab868a44891f3d047ea70"), looks := true }, kinds := [], alts := [], laidByText := true, laidKinds := [.data, .pinned], laidTests := true, laidLooks := .later }
def StatePutsUptoCardSaid : Prop := Claim7.holds Tryz.pinned (.plain (OpenSpec.upto statePutsSpec)) statePutsUptoCard

/-- THE SECOND FORM's CARD OF 'ballastlaw12.FitSound'. -/
def fitSoundUptoCard : Claim7 := { stood := { row := fitSoundUptoRow, standIns := [], harness := (true, "acbb4eb461690e9b679c8676f94b090cee2f6675f65ab868a44891f3d047ea70"), looks := true }, kinds := [], alts := [], laidByText := true, laidKinds := [.data, .pinned], laidTests := true, laidLooks := .later }
def FitSoundUptoCardSaid : Prop := Claim7.holds Tryz.pinned (.plain (OpenSpec.upto fitSoundSpec)) fitSoundUptoCard
end Rows
end Go.Proofs.YtjoblbpgpmknmaaGreatDoor
