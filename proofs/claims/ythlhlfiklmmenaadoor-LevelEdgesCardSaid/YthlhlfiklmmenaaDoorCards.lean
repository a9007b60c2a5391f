/-
  DERIVED. GIVEN WITH THE SEED: THE CARDS: each row of YthlhlfiklmmenaaDoorRows.lean that lists a variable, with what it lists TIED to the program's text (the seventh form; the later family's looks); each row that meets fmt, with fmt's text TOLD by the authors' own Lean function (tested against real Go, not proved from fmt's source: count such statements apart). THE CARD IS WHAT COUNTS. Prove the row's statement (the work); the ties are given (YthlhlfiklmmenaaDoorTie.lean); close each card by the builder's one call (the guide's Derived/Test/ToyasCard.lean, 'card_holds'). Laid BY PROGRAM, IN A SANDBOX (cutbox-door.mjs). By AI agents, Wed Nov 11 2026. No macro, syntax, notation, axiom, sorry.
-/
import Derived.Test.YthlhlfiklmmenaaDoorRows
import GoSem.ClaimSeven
namespace Go.Proofs.YthlhlfiklmmenaaDoor
namespace Rows

/-- THE TIED CARD OF 'ballastlaw18.LevelEdges'. -/
def levelEdgesCard : Claim7 := { stood := { row := levelEdgesRow, standIns := [], harness := (true, "94648d0ca5cc73168defa09b2b4bf26a77f3d18bd1a765416fc304ceca088c47"), looks := true }, kinds := [], alts := [], laidByText := true, laidKinds := [.data, .pinned], laidTests := true, laidLooks := .later }
def LevelEdgesCardSaid : Prop := Claim7.holds Tryd.pinned (.plain (OpenSpec.ofChange levelEdgesSpec)) levelEdgesCard

/-- THE SECOND FORM's CARD OF 'ballastlaw18.LevelEdges'. -/
def levelEdgesUptoCard : Claim7 := { stood := { row := levelEdgesUptoRow, standIns := [], harness := (true, "94648d0ca5cc73168defa09b2b4bf26a77f3d18bd1a765416fc304ceca088c47"), looks := true }, kinds := [], alts := [], laidByText := true, laidKinds := [.data, .pinned], laidTests := true, laidLooks := .later }
def LevelEdgesUptoCardSaid : Prop := Claim7.holds Tryd.pinned (.plain (OpenSpec.upto levelEdgesSpec)) levelEdgesUptoCard
end Rows
end Go.Proofs.YthlhlfiklmmenaaDoor
