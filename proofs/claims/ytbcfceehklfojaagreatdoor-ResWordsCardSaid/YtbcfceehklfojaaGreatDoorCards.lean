/-
  DERIVED. GIVEN WITH THE SEED: THE CARDS: each row of YtbcfceehklfojaaGreatDoorRows.lean that lists a variable, with what it lists TIED to the program's text (the seventh form; the later family's looks); each row that meets fmt, with fmt's text TOLD by the authors' own Lean function (tested against real Go, not proved from fmt's source: count such statements apart). THE CARD IS WHAT COUNTS. Prove the row's statement (the work); the ties are given (YtbcfceehklfojaaGreatDoorTie.lean); close each card by the builder's one call (the guide's Derived/Test/ToyasCard.lean, 'card_holds'). Laid BY PROGRAM, IN A SANDBOX (cutbox-door.mjs). By AI agents, Wed Nov 11 2026. No macro, syntax, notation, axiom, sorry.
-/
import Derived.Test.YtbcfceehklfojaaGreatDoorRows
import GoSem.ClaimSeven
namespace Go.Proofs.YtbcfceehklfojaaGreatDoor
namespace Rows

/-- THE TIED CARD OF 'ballastlaw2.ResTwo'. -/
def resTwoCard : Claim7 := { stood := { row := resTwoRow, standIns := [], harness := (true, "5f2ff32605f42328e079bdb2fa4328141d8d64ee0095a057e939ef56d95d5689"), looks := true }, kinds := [], alts := [], laidByText := true, laidKinds := [.data, .data, .data, .data, .sentinel, .sentinel, .pinned], laidTests := true, laidLooks := .later }
def ResTwoCardSaid : Prop := Claim7.holds Tryz.pinned (.plain (OpenSpec.ofChange resTwoSpec)) resTwoCard

/-- THE TIED CARD OF 'ballastlaw2.ResWords'. -/
def resWordsCard : Claim7 := { stood := { row := resWordsRow, standIns := [], harness := (true, "5f2ff32605f42328e079bdb2fa4328141d8d64ee0095a057e939ef56d95d5689"), looks := true }, kinds := [], alts := [], laidByText := true, laidKinds := [.data, .data, .data, .data, .sentinel, .sentinel, .pinned], laidTests := true, laidLooks := .later }
def ResWordsCardSaid : Prop := Claim7.holds Tryz.pinned (.plain (OpenSpec.ofChange resWordsSpec)) resWordsCard

/-- THE TIED CARD OF 'ballastlaw2.ResParts'. -/
def resPartsCard : Claim7 := { stood := { row := resPartsRow, standIns := [], harness := (true, "5f2ff32605f42328e079bdb2fa4328141d8d64ee0095a057e939ef56d95d5689"), looks := true }, kinds := [], alts := [], laidByText := true, laidKinds := [.data, .data, .data, .data, .sentinel, .sentinel, .pinned], laidTests := true, laidLooks := .later }
def ResPartsCardSaid : Prop := Claim7.holds Tryz.pinned (.plain (OpenSpec.ofChange resPartsSpec)) resPartsCard

/-- THE TIED CARD OF 'ballastlaw16.LadderAny'. -/
def ladderAnyCard : Claim7 := { stood := { row := ladderAnyRow, standIns := [], harness := (true, "5f2ff32605f42328e079bdb2fa4328141d8d64ee0095a057e939ef56d95d5689"), looks := true }, kinds := [], alts := [], laidByText := true, laidKinds := [.data, .data, .data, .data, .sentinel, .sentinel, .pinned], laidTests := true, laidLooks := .later }
def LadderAnyCardSaid : Prop := Claim7.holds Tryz.pinned (.plain (OpenSpec.ofChange ladderAnySpec)) ladderAnyCard

/-- THE TIED CARD OF 'ballastlaw16.LadderWords'. -/
def ladderWordsCard : Claim7 := { stood := { row := ladderWordsRow, standIns := [], harness := (true, "5f2ff32605f42328e079bdb2fa4328141d8d64ee0095a057e939ef56d95d5689"), looks := true }, kinds := [], alts := [], laidByText := true, laidKinds := [.data, .data, .data, .data, .sentinel, .sentinel, .pinned], laidTests := true, laidLooks := .later }
def LadderWordsCardSaid : Prop := Claim7.holds Tryz.pinned (.plain (OpenSpec.ofChange ladderWordsSpec)) ladderWordsCard

/-- THE TIED CARD OF 'ballastlaw16.LadderHolds'. -/
def ladderHoldsCard : Claim7 := { stood := { row := ladderHoldsRow, standIns := [], harness := (true, "5f2ff32605f42328e079bdb2fa4328141d8d64ee0095a057e939ef56d95d5689"), looks := true }, kinds := [], alts := [], laidByText := true, laidKinds := [.data, .data, .data, .data, .sentinel, .sentinel, .pinned], laidTests := true, laidLooks := .later }
def LadderHoldsCardSaid : Prop := Claim7.holds Tryz.pinned (.plain (OpenSpec.ofChange ladderHoldsSpec)) ladderHoldsCard

/-- THE TIED CARD OF 'ballastlaw16.LadderEdges'. -/
def ladderEdgesCard : Claim7 := { stood := { row := ladderEdgesRow, standIns := [], harness := (true, "5f2ff32605f42328e079bdb2fa4328141d8d64ee0095a057e939ef56d95d5689"), looks := true }, kinds := [], alts := [], laidByText := true, laidKinds := [.data, .data, .data, .data, .sentinel, .sentinel, .pinned], laidTests := true, laidLooks := .later }
def LadderEdgesCardSaid : Prop := Claim7.holds Tryz.pinned (.plain (OpenSpec.ofChange ladderEdgesSpec)) ladderEdgesCard

/-- THE TIED CARD OF 'ballastlaw16.LadderSteps'. -/
def ladderStepsCard : Claim7 := { stood := { row := ladderStepsRow, standIns := [], harness := (true, "5f2ff32605f42328e079bdb2fa4328141d8d64ee0095a057e939ef56d95d5689"), looks := true }, kinds := [], alts := [], laidByText := true, laidKinds := [.data, .data, .data, .data, .sentinel, .sentinel, .pinned], laidTests := true, laidLooks := .later }
def LadderStepsCardSaid : Prop := Claim7.holds Tryz.pinned (.plain (OpenSpec.ofChange ladderStepsSpec)) ladderStepsCard

/-- THE TIED CARD OF 'ballastlaw16.LadderUnits'. -/
def ladderUnitsCard : Claim7 := { stood := { row := ladderUnitsRow, standIns := [], harness := (true, "5f2ff32605f42328e079bdb2fa4328141d8d64ee0095a057e939ef56d95d5689"), looks := true }, kinds := [], alts := [], laidByText := true, laidKinds := [.data, .data, .data, .data, .sentinel, .sentinel, .pinned], laidTests := true, laidLooks := .later }
def LadderUnitsCardSaid : Prop := Claim7.holds Tryz.pinned (.plain (OpenSpec.ofChange ladderUnitsSpec)) ladderUnitsCard

/-- THE SECOND FORM's CARD OF 'ballastlaw2.ResTwo'. -/
def resTwoUptoCard : Claim7 := { stood := { row := resTwoUptoRow, standIns := [], harness := (true, "5f2ff32605f42328e079bdb2fa4328141d8d64ee0095a057e939ef56d95d5689"), looks := true }, kinds := [], alts := [], laidByText := true, laidKinds := [.data, .data, .data, .data, .sentinel, .sentinel, .pinned], laidTests := true, laidLooks := .later }
def ResTwoUptoCardSaid : Prop := Claim7.holds Tryz.pinned (.plain (OpenSpec.upto resTwoSpec)) resTwoUptoCard

/-- THE SECOND FORM's CARD OF 'ballastlaw2.ResWords'. -/
def resWordsUptoCard : Claim7 := { stood := { row := resWordsUptoRow, standIns := [], harness := (true, "5f2ff32605f42328e079bdb2fa4328141d8d64ee0095a057e939ef56d95d5689"), looks := true }, kinds := [], alts := [], laidByText := true, laidKinds := [.data, .data, .data, .data, .sentinel, .sentinel, .pinned], laidTests := true, laidLooks := .later }
def ResWordsUptoCardSaid : Prop := Claim7.holds Tryz.pinned (.plain (OpenSpec.upto resWordsSpec)) resWordsUptoCard

/-- THE SECOND FORM's CARD OF 'ballastlaw2.ResParts'. -/
def resPartsUptoCard : Claim7 := { stood := { row := resPartsUptoRow, standIns := [], harness := (true, "5f2ff32605f42328e079bdb2fa4328141d8d64ee0095a057e939ef56d95d5689"), looks := true }, kinds := [], alts := [], laidByText := true, laidKinds := [.data, .data, .data, .data, .sentinel, .sentinel, .pinned], laidTests := true, laidLooks := .later }
def ResPartsUptoCardSaid : Prop := Claim7.holds Tryz.pinned (.plain (OpenSpec.upto resPartsSpec)) resPartsUptoCard

/-- THE SECOND FORM's CARD OF 'ballastlaw16.LadderAny'. -/
def ladderAnyUptoCard : Claim7 := { stood := { row := ladderAnyUptoRow, standIns := [], harness := (true, "5f2ff32605f42328e079bdb2fa4328141d8d64ee0095a057e939ef56d95d5689"), looks := true }, kinds := [], alts := [], laidByText := true, laidKinds := [.data, .data, .data, .data, .sentinel, .sentinel, .pinned], laidTests := true, laidLooks := .later }
def LadderAnyUptoCardSaid : Prop := Claim7.holds Tryz.pinned (.plain (OpenSpec.upto ladderAnySpec)) ladderAnyUptoCard

/-- THE SECOND FORM's CARD OF 'ballastlaw16.LadderWords'. -/
def ladderWordsUptoCard : Claim7 := { stood := { row := ladderWordsUptoRow, standIns := [], harness := (true, "5f2ff32605f42328e079bdb2fa4328141d8d64ee0095a057e939ef56d95d5689"), looks := true }, kinds := [], alts := [], laidByText := true, laidKinds := [.data, .data, .data, .data, .sentinel, .sentinel, .pinned], laidTests := true, laidLooks := .later }
def LadderWordsUptoCardSaid : Prop := Claim7.holds Tryz.pinned (.plain (OpenSpec.upto ladderWordsSpec)) ladderWordsUptoCard

/-- THE SECOND FORM's CARD OF 'ballastlaw16.LadderHolds'. -/
def ladderHoldsUptoCard : Claim7 := { stood := { row := ladderHoldsUptoRow, standIns := [], harness := (true, "5f2ff32605f42328e079bdb2fa4328141d8d64ee0095a057e939ef56d95d5689"), looks := true }, kinds := [], alts := [], laidByText := true, laidKinds := [.data, .data, .data, .data, .sentinel, .sentinel, .pinned], laidTests := true, laidLooks := .later }
def LadderHoldsUptoCardSaid : Prop := Claim7.holds Tryz.pinned (.plain (OpenSpec.upto ladderHoldsSpec)) ladderHoldsUptoCard

/-- THE SECOND FORM's CARD OF 'ballastlaw16.LadderEdges'. -/
def ladderEdgesUptoCard : Claim7 := { stood := { row := ladderEdgesUptoRow, standIns := [], harness := (true, "5f2ff32605f42328e079bdb2fa4328141d8d64ee0095a057e939ef56d95d5689"), looks := true }, kinds := [], alts := [], laidByText := true, laidKinds := [.data, .data, .data, .data, .sentinel, .sentinel, .pinned], laidTests := true, laidLooks := .later }
def LadderEdgesUptoCardSaid : Prop := Claim7.holds Tryz.pinned (.plain (OpenSpec.upto ladderEdgesSpec)) ladderEdgesUptoCard

/-- THE SECOND FORM's CARD OF 'ballastlaw16.LadderSteps'. -/
def ladderStepsUptoCard : Claim7 := { stood := { row := ladderStepsUptoRow, standIns := [], harness := (true, "5f2ff32605f42328e079bdb2fa4328141d8d64ee0095a057e939ef56d95d5689"), looks := true }, kinds := [], alts := [], laidByText := true, laidKinds := [.data, .data, .data, .data, .sentinel, .sentinel, .pinned], laidTests := true, laidLooks := .later }
def LadderStepsUptoCardSaid : Prop := Claim7.holds Tryz.pinned (.plain (OpenSpec.upto ladderStepsSpec)) ladderStepsUptoCard

/-- THE SECOND FORM's CARD OF 'ballastlaw16.LadderUnits'. -/
def ladderUnitsUptoCard : Claim7 := { stood := { row := ladderUnitsUptoRow, standIns := [], harness := (true, "5f2ff32605f42328e079bdb2fa4328141d8d64ee0095a057e939ef56d95d5689"), looks := true }, kinds := [], alts := [], laidByText := true, laidKinds := [.data, .data, .data, .data, .sentinel, .sentinel, .pinned], laidTests := true, laidLooks := .later }
def LadderUnitsUptoCardSaid : Prop := Claim7.holds Tryz.pinned (.plain (OpenSpec.upto ladderUnitsSpec)) ladderUnitsUptoCard
end Rows
end Go.Proofs.YtbcfceehklfojaaGreatDoor
