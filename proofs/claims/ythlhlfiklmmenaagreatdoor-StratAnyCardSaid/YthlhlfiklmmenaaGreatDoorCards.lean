/-
  DERIVED. GIVEN WITH THE SEED: THE CARDS: each row of YthlhlfiklmmenaaGreatDoorRows.lean that lists a variable, with what it lists TIED to the program's text (the seventh form; the later family's looks); each row that meets fmt, with fmt's text TOLD by the authors' own Lean function (tested against real Go, not proved from fmt's source: count such statements apart). THE CARD IS WHAT COUNTS. Prove the row's statement (the work); the ties are given (YthlhlfiklmmenaaGreatDoorTie.lean); close each card by the builder's one call (the guide's Derived/Test/ToyasCard.lean, 'card_holds'). Laid BY PROGRAM, IN A SANDBOX (cutbox-door.mjs). By AI agents, Wed Nov 11 2026. No macro, syntax, notation, axiom, sorry.
-/
import Derived.Test.YthlhlfiklmmenaaGreatDoorRows
import GoSem.ClaimSeven
namespace Go.Proofs.YthlhlfiklmmenaaGreatDoor
namespace Rows

/-- THE TIED CARD OF 'ballastlaw18.LevelAny'. -/
def levelAnyCard : Claim7 := { stood := { row := levelAnyRow, standIns := [], harness := (true, "e3b02f62097bd9e95e5ede606d65ef8a0064be658f4b0ff4daea5014b01ec541"), looks := true }, kinds := [], alts := [], laidByText := true, laidKinds := [.data, .pinned], laidTests := true, laidLooks := .later }
def LevelAnyCardSaid : Prop := Claim7.holds Tryz.pinned (.plain (OpenSpec.ofChange levelAnySpec)) levelAnyCard

/-- THE TIED CARD OF 'ballastlaw18.LevelRises'. -/
def levelRisesCard : Claim7 := { stood := { row := levelRisesRow, standIns := [], harness := (true, "e3b02f62097bd9e95e5ede606d65ef8a0064be658f4b0ff4daea5014b01ec541"), looks := true }, kinds := [], alts := [], laidByText := true, laidKinds := [.data, .pinned], laidTests := true, laidLooks := .later }
def LevelRisesCardSaid : Prop := Claim7.holds Tryz.pinned (.plain (OpenSpec.ofChange levelRisesSpec)) levelRisesCard

/-- THE TIED CARD OF 'ballastlaw19.StratAny'. -/
def stratAnyCard : Claim7 := { stood := { row := stratAnyRow, standIns := [], harness := (true, "e3b02f62097bd9e95e5ede606d65ef8a0064be658f4b0ff4daea5014b01ec541"), looks := true }, kinds := [], alts := [], laidByText := true, laidKinds := [.data, .pinned], laidTests := true, laidLooks := .later }
def StratAnyCardSaid : Prop := Claim7.holds Tryz.pinned (.plain (OpenSpec.ofChange stratAnySpec)) stratAnyCard

/-- THE TIED CARD OF 'ballastlaw19.StratOnce'. -/
def stratOnceCard : Claim7 := { stood := { row := stratOnceRow, standIns := [], harness := (true, "e3b02f62097bd9e95e5ede606d65ef8a0064be658f4b0ff4daea5014b01ec541"), looks := true }, kinds := [], alts := [], laidByText := true, laidKinds := [.data, .pinned], laidTests := true, laidLooks := .later }
def StratOnceCardSaid : Prop := Claim7.holds Tryz.pinned (.plain (OpenSpec.ofChange stratOnceSpec)) stratOnceCard

/-- THE TIED CARD OF 'ballastlaw19.StratLevels'. -/
def stratLevelsCard : Claim7 := { stood := { row := stratLevelsRow, standIns := [], harness := (true, "e3b02f62097bd9e95e5ede606d65ef8a0064be658f4b0ff4daea5014b01ec541"), looks := true }, kinds := [], alts := [], laidByText := true, laidKinds := [.data, .pinned], laidTests := true, laidLooks := .later }
def StratLevelsCardSaid : Prop := Claim7.holds Tryz.pinned (.plain (OpenSpec.ofChange stratLevelsSpec)) stratLevelsCard

/-- THE TIED CARD OF 'ballastlaw19.StratTwins'. -/
def stratTwinsCard : Claim7 := { stood := { row := stratTwinsRow, standIns := [], harness := (true, "e3b02f62097bd9e95e5ede606d65ef8a0064be658f4b0ff4daea5014b01ec541"), looks := true }, kinds := [], alts := [], laidByText := true, laidKinds := [.data, .pinned], laidTests := true, laidLooks := .later }
def StratTwinsCardSaid : Prop := Claim7.holds Tryz.pinned (.plain (OpenSpec.ofChange stratTwinsSpec)) stratTwinsCard

/-- THE TIED CARD OF 'ballastlaw19.StratTaint'. -/
def stratTaintCard : Claim7 := { stood := { row := stratTaintRow, standIns := [], harness := (true, "e3b02f62097bd9e95e5ede606d65ef8a0064be658f4b0ff4daea5014b01ec541"), looks := true }, kinds := [], alts := [], laidByText := true, laidKinds := [.data, .pinned], laidTests := true, laidLooks := .later }
def StratTaintCardSaid : Prop := Claim7.holds Tryz.pinned (.plain (OpenSpec.ofChange stratTaintSpec)) stratTaintCard

/-- THE TIED CARD OF 'ballastlaw21.MoveBack'. -/
def moveBackCard : Claim7 := { stood := { row := moveBackRow, standIns := [], harness := (true, "e3b02f62097bd9e95e5ede606d65ef8a0064be658f4b0ff4daea5014b01ec541"), looks := true }, kinds := [], alts := [], laidByText := true, laidKinds := [.data, .pinned], laidTests := true, laidLooks := .later }
def MoveBackCardSaid : Prop := Claim7.holds Tryz.pinned (.plain (OpenSpec.ofChange moveBackSpec)) moveBackCard

/-- THE TIED CARD OF 'ballastlaw21.MoveFloors'. -/
def moveFloorsCard : Claim7 := { stood := { row := moveFloorsRow, standIns := [], harness := (true, "e3b02f62097bd9e95e5ede606d65ef8a0064be658f4b0ff4daea5014b01ec541"), looks := true }, kinds := [], alts := [], laidByText := true, laidKinds := [.data, .pinned], laidTests := true, laidLooks := .later }
def MoveFloorsCardSaid : Prop := Claim7.holds Tryz.pinned (.plain (OpenSpec.ofChange moveFloorsSpec)) moveFloorsCard

/-- THE TIED CARD OF 'ballastlaw21.MoveTwo'. -/
def moveTwoCard : Claim7 := { stood := { row := moveTwoRow, standIns := [], harness := (true, "e3b02f62097bd9e95e5ede606d65ef8a0064be658f4b0ff4daea5014b01ec541"), looks := true }, kinds := [], alts := [], laidByText := true, laidKinds := [.data, .pinned], laidTests := true, laidLooks := .later }
def MoveTwoCardSaid : Prop := Claim7.holds Tryz.pinned (.plain (OpenSpec.ofChange moveTwoSpec)) moveTwoCard

/-- THE TIED CARD OF 'ballastlaw21.MoveAny'. -/
def moveAnyCard : Claim7 := { stood := { row := moveAnyRow, standIns := [], harness := (true, "e3b02f62097bd9e95e5ede606d65ef8a0064be658f4b0ff4daea5014b01ec541"), looks := true }, kinds := [], alts := [], laidByText := true, laidKinds := [.data, .pinned], laidTests := true, laidLooks := .later }
def MoveAnyCardSaid : Prop := Claim7.holds Tryz.pinned (.plain (OpenSpec.ofChange moveAnySpec)) moveAnyCard

/-- THE SECOND FORM's CARD OF 'ballastlaw18.LevelAny'. -/
def levelAnyUptoCard : Claim7 := { stood := { row := levelAnyUptoRow, standIns := [], harness := (true, "e3b02f62097bd9e95e5ede606d65ef8a0064be658f4b0ff4daea5014b01ec541"), looks := true }, kinds := [], alts := [], laidByText := true, laidKinds := [.data, .pinned], laidTests := true, laidLooks := .later }
def LevelAnyUptoCardSaid : Prop := Claim7.holds Tryz.pinned (.plain (OpenSpec.upto levelAnySpec)) levelAnyUptoCard

/-- THE SECOND FORM's CARD OF 'ballastlaw18.LevelRises'. -/
def levelRisesUptoCard : Claim7 := { stood := { row := levelRisesUptoRow, standIns := [], harness := (true, "e3b02f62097bd9e95e5ede606d65ef8a0064be658f4b0ff4daea5014b01ec541"), looks := true }, kinds := [], alts := [], laidByText := true, laidKinds := [.data, .pinned], laidTests := true, laidLooks := .later }
def LevelRisesUptoCardSaid : Prop := Claim7.holds Tryz.pinned (.plain (OpenSpec.upto levelRisesSpec)) levelRisesUptoCard

/-- THE SECOND FORM's CARD OF 'ballastlaw19.StratAny'. -/
def stratAnyUptoCard : Claim7 := { stood := { row := stratAnyUptoRow, standIns := [], harness := (true, "e3b02f62097bd9e95e5ede606d65ef8a0064be658f4b0ff4daea5014b01ec541"), looks := true }, kinds := [], alts := [], laidByText := true, laidKinds := [.data, .pinned], laidTests := true, laidLooks := .later }
def StratAnyUptoCardSaid : Prop := Claim7.holds Tryz.pinned (.plain (OpenSpec.upto stratAnySpec)) stratAnyUptoCard

/-- THE SECOND FORM's CARD OF 'ballastlaw19.StratOnce'. -/
def stratOnceUptoCard : Claim7 := { stood := { row := stratOnceUptoRow, standIns := [], harness := (true, "e3b02f62097bd9e95e5ede606d65ef8a0064be658f4b0ff4daea5014b01ec541"), looks := true }, kinds := [], alts := [], laidByText := true, laidKinds := [.data, .pinned], laidTests := true, laidLooks := .later }
def StratOnceUptoCardSaid : Prop := Claim7.holds Tryz.pinned (.plain (OpenSpec.upto stratOnceSpec)) stratOnceUptoCard

/-- THE SECOND FORM's CARD OF 'ballastlaw19.StratLevels'. -/
def stratLevelsUptoCard : Claim7 := { stood := { row := stratLevelsUptoRow, standIns := [], harness := (true, "e3b02f62097bd9e95e5ede606d65ef8a0064be658f4b0ff4daea5014b01ec541"), looks := true }, kinds := [], alts := [], laidByText := true, laidKinds := [.data, .pinned], laidTests := true, laidLooks := .later }
def StratLevelsUptoCardSaid : Prop := Claim7.holds Tryz.pinned (.plain (OpenSpec.upto stratLevelsSpec)) stratLevelsUptoCard

/-- THE SECOND FORM's CARD OF 'ballastlaw19.StratTwins'. -/
def stratTwinsUptoCard : Claim7 := { stood := { row := stratTwinsUptoRow, standIns := [], harness := (true, "e3b02f62097bd9e95e5ede606d65ef8a0064be658f4b0ff4daea5014b01ec541"), looks := true }, kinds := [], alts := [], laidByText := true, laidKinds := [.data, .pinned], laidTests := true, laidLooks := .later }
def StratTwinsUptoCardSaid : Prop := Claim7.holds Tryz.pinned (.plain (OpenSpec.upto stratTwinsSpec)) stratTwinsUptoCard

/-- THE SECOND FORM's CARD OF 'ballastlaw19.StratTaint'. -/
def stratTaintUptoCard : Claim7 := { stood := { row := stratTaintUptoRow, standIns := [], harness := (true, "e3b02f62097bd9e95e5ede606d65ef8a0064be658f4b0ff4daea5014b01ec541"), looks := true }, kinds := [], alts := [], laidByText := true, laidKinds := [.data, .pinned], laidTests := true, laidLooks := .later }
def StratTaintUptoCardSaid : Prop := Claim7.holds Tryz.pinned (.plain (OpenSpec.upto stratTaintSpec)) stratTaintUptoCard

/-- THE SECOND FORM's CARD OF 'ballastlaw21.MoveBack'. -/
def moveBackUptoCard : Claim7 := { stood := { row := moveBackUptoRow, standIns := [], harness := (true, "e3b02f62097bd9e95e5ede606d65ef8a0064be658f4b0ff4daea5014b01ec541"), looks := true }, kinds := [], alts := [], laidByText := true, laidKinds := [.data, .pinned], laidTests := true, laidLooks := .later }
def MoveBackUptoCardSaid : Prop := Claim7.holds Tryz.pinned (.plain (OpenSpec.upto moveBackSpec)) moveBackUptoCard

/-- THE SECOND FORM's CARD OF 'ballastlaw21.MoveFloors'. -/
def moveFloorsUptoCard : Claim7 := { stood := { row := moveFloorsUptoRow, standIns := [], harness := (true, "e3b02f62097bd9e95e5ede606d65ef8a0064be658f4b0ff4daea5014b01ec541"), looks := true }, kinds := [], alts := [], laidByText := true, laidKinds := [.data, .pinned], laidTests := true, laidLooks := .later }
def MoveFloorsUptoCardSaid : Prop := Claim7.holds Tryz.pinned (.plain (OpenSpec.upto moveFloorsSpec)) moveFloorsUptoCard

/-- THE SECOND FORM's CARD OF 'ballastlaw21.MoveTwo'. -/
def moveTwoUptoCard : Claim7 := { stood := { row := moveTwoUptoRow, standIns := [], harness := (true, "e3b02f62097bd9e95e5ede606d65ef8a0064be658f4b0ff4daea5014b01ec541"), looks := true }, kinds := [], alts := [], laidByText := true, laidKinds := [.data, .pinned], laidTests := true, laidLooks := .later }
def MoveTwoUptoCardSaid : Prop := Claim7.holds Tryz.pinned (.plain (OpenSpec.upto moveTwoSpec)) moveTwoUptoCard

/-- THE SECOND FORM's CARD OF 'ballastlaw21.MoveAny'. -/
def moveAnyUptoCard : Claim7 := { stood := { row := moveAnyUptoRow, standIns := [], harness := (true, "e3b02f62097bd9e95e5ede606d65ef8a0064be658f4b0ff4daea5014b01ec541"), looks := true }, kinds := [], alts := [], laidByText := true, laidKinds := [.data, .pinned], laidTests := true, laidLooks := .later }
def MoveAnyUptoCardSaid : Prop := Claim7.holds Tryz.pinned (.plain (OpenSpec.upto moveAnySpec)) moveAnyUptoCard
end Rows
end Go.Proofs.YthlhlfiklmmenaaGreatDoor
