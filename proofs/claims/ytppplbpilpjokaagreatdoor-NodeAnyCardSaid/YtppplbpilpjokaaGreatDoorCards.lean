/-
  DERIVED. GIVEN WITH THE SEED: THE CARDS: each row of YtppplbpilpjokaaGreatDoorRows.lean that lists a variable, with what it lists TIED to the program's text (the seventh form; the later family's looks); each row that meets fmt, with fmt's text TOLD by the authors' own Lean function (tested against real Go, not proved from fmt's source: count such statements apart). THE CARD IS WHAT COUNTS. Prove the row's statement (the work); the ties are given (YtppplbpilpjokaaGreatDoorTie.lean); close each card by the builder's one call (the guide's Derived/Test/ToyasCard.lean, 'card_holds'). Laid BY PROGRAM, IN A SANDBOX (cutbox-door.mjs). By AI agents, Wed Nov 11 2026. No macro, syntax, notation, axiom, sorry.
-/
import Derived.Test.YtppplbpilpjokaaGreatDoorRows
import GoSem.ClaimSeven
namespace Go.Proofs.YtppplbpilpjokaaGreatDoor
namespace Rows

/-- THE TIED CARD OF 'ballastlaw8.BudgetAny'. -/
def budgetAnyCard : Claim7 := { stood := { row := budgetAnyRow, standIns := [], harness := (true, "324b4f6732f85a8c91c7d994523f7f8a7690e2a86051bc72341fdfde72af9fe0"), looks := true }, kinds := [], alts := [], laidByText := true, laidKinds := [.data, .data, .data, .data, .sentinel, .sentinel, .pinned], laidTests := true, laidLooks := .later }
def BudgetAnyCardSaid : Prop := Claim7.holds Tryz.pinned (.plain (OpenSpec.ofChange budgetAnySpec)) budgetAnyCard

/-- THE TIED CARD OF 'ballastlaw8.BudgetGoes'. -/
def budgetGoesCard : Claim7 := { stood := { row := budgetGoesRow, standIns := [], harness := (true, "324b4f6732f85a8c91c7d994523f7f8a7690e2a86051bc72341fdfde72af9fe0"), looks := true }, kinds := [], alts := [], laidByText := true, laidKinds := [.data, .data, .data, .data, .sentinel, .sentinel, .pinned], laidTests := true, laidLooks := .later }
def BudgetGoesCardSaid : Prop := Claim7.holds Tryz.pinned (.plain (OpenSpec.ofChange budgetGoesSpec)) budgetGoesCard

/-- THE TIED CARD OF 'ballastlaw8.BudgetCounts'. -/
def budgetCountsCard : Claim7 := { stood := { row := budgetCountsRow, standIns := [], harness := (true, "324b4f6732f85a8c91c7d994523f7f8a7690e2a86051bc72341fdfde72af9fe0"), looks := true }, kinds := [], alts := [], laidByText := true, laidKinds := [.data, .data, .data, .data, .sentinel, .sentinel, .pinned], laidTests := true, laidLooks := .later }
def BudgetCountsCardSaid : Prop := Claim7.holds Tryz.pinned (.plain (OpenSpec.ofChange budgetCountsSpec)) budgetCountsCard

/-- THE TIED CARD OF 'ballastlaw6.NodeAny'. -/
def nodeAnyCard : Claim7 := { stood := { row := nodeAnyRow, standIns := [], harness := (true, "324b4f6732f85a8c91c7d994523f7f8a7690e2a86051bc72341fdfde72af9fe0"), looks := true }, kinds := [], alts := [], laidByText := true, laidKinds := [.data, .data, .data, .data, .sentinel, .sentinel, .pinned], laidTests := true, laidLooks := .later }
def NodeAnyCardSaid : Prop := Claim7.holds Tryz.pinned (.plain (OpenSpec.ofChange nodeAnySpec)) nodeAnyCard

/-- THE TIED CARD OF 'ballastlaw6.NodeWords'. -/
def nodeWordsCard : Claim7 := { stood := { row := nodeWordsRow, standIns := [], harness := (true, "324b4f6732f85a8c91c7d994523f7f8a7690e2a86051bc72341fdfde72af9fe0"), looks := true }, kinds := [], alts := [], laidByText := true, laidKinds := [.data, .data, .data, .data, .sentinel, .sentinel, .pinned], laidTests := true, laidLooks := .later }
def NodeWordsCardSaid : Prop := Claim7.holds Tryz.pinned (.plain (OpenSpec.ofChange nodeWordsSpec)) nodeWordsCard

/-- THE TIED CARD OF 'ballastlaw6.NodeRows'. -/
def nodeRowsCard : Claim7 := { stood := { row := nodeRowsRow, standIns := [], harness := (true, "324b4f6732f85a8c91c7d994523f7f8a7690e2a86051bc72341fdfde72af9fe0"), looks := true }, kinds := [], alts := [], laidByText := true, laidKinds := [.data, .data, .data, .data, .sentinel, .sentinel, .pinned], laidTests := true, laidLooks := .later }
def NodeRowsCardSaid : Prop := Claim7.holds Tryz.pinned (.plain (OpenSpec.ofChange nodeRowsSpec)) nodeRowsCard

/-- THE TIED CARD OF 'ballastlaw6.NodeLimits'. -/
def nodeLimitsCard : Claim7 := { stood := { row := nodeLimitsRow, standIns := [], harness := (true, "324b4f6732f85a8c91c7d994523f7f8a7690e2a86051bc72341fdfde72af9fe0"), looks := true }, kinds := [], alts := [], laidByText := true, laidKinds := [.data, .data, .data, .data, .sentinel, .sentinel, .pinned], laidTests := true, laidLooks := .later }
def NodeLimitsCardSaid : Prop := Claim7.holds Tryz.pinned (.plain (OpenSpec.ofChange nodeLimitsSpec)) nodeLimitsCard

/-- THE TIED CARD OF 'ballastlaw7.PodRows'. -/
def podRowsCard : Claim7 := { stood := { row := podRowsRow, standIns := [], harness := (true, "324b4f6732f85a8c91c7d994523f7f8a7690e2a86051bc72341fdfde72af9fe0"), looks := true }, kinds := [], alts := [], laidByText := true, laidKinds := [.data, .data, .data, .data, .sentinel, .sentinel, .pinned], laidTests := true, laidLooks := .later }
def PodRowsCardSaid : Prop := Claim7.holds Tryz.pinned (.plain (OpenSpec.ofChange podRowsSpec)) podRowsCard

/-- THE TIED CARD OF 'ballastlaw7.PodEdges'. -/
def podEdgesCard : Claim7 := { stood := { row := podEdgesRow, standIns := [], harness := (true, "324b4f6732f85a8c91c7d994523f7f8a7690e2a86051bc72341fdfde72af9fe0"), looks := true }, kinds := [], alts := [], laidByText := true, laidKinds := [.data, .data, .data, .data, .sentinel, .sentinel, .pinned], laidTests := true, laidLooks := .later }
def PodEdgesCardSaid : Prop := Claim7.holds Tryz.pinned (.plain (OpenSpec.ofChange podEdgesSpec)) podEdgesCard

/-- THE TIED CARD OF 'ballastlaw7.PodTells'. -/
def podTellsCard : Claim7 := { stood := { row := podTellsRow, standIns := [], harness := (true, "324b4f6732f85a8c91c7d994523f7f8a7690e2a86051bc72341fdfde72af9fe0"), looks := true }, kinds := [], alts := [], laidByText := true, laidKinds := [.data, .data, .data, .data, .sentinel, .sentinel, .pinned], laidTests := true, laidLooks := .later }
def PodTellsCardSaid : Prop := Claim7.holds Tryz.pinned (.plain (OpenSpec.ofChange podTellsSpec)) podTellsCard

/-- THE SECOND FORM's CARD OF 'ballastlaw8.BudgetAny'. -/
def budgetAnyUptoCard : Claim7 := { stood := { row := budgetAnyUptoRow, standIns := [], harness := (true, "324b4f6732f85a8c91c7d994523f7f8a7690e2a86051bc72341fdfde72af9fe0"), looks := true }, kinds := [], alts := [], laidByText := true, laidKinds := [.data, .data, .data, .data, .sentinel, .sentinel, .pinned], laidTests := true, laidLooks := .later }
def BudgetAnyUptoCardSaid : Prop := Claim7.holds Tryz.pinned (.plain (OpenSpec.upto budgetAnySpec)) budgetAnyUptoCard

/-- THE SECOND FORM's CARD OF 'ballastlaw8.BudgetGoes'. -/
def budgetGoesUptoCard : Claim7 := { stood := { row := budgetGoesUptoRow, standIns := [], harness := (true, "324b4f6732f85a8c91c7d994523f7f8a7690e2a86051bc72341fdfde72af9fe0"), looks := true }, kinds := [], alts := [], laidByText := true, laidKinds := [.data, .data, .data, .data, .sentinel, .sentinel, .pinned], laidTests := true, laidLooks := .later }
def BudgetGoesUptoCardSaid : Prop := Claim7.holds Tryz.pinned (.plain (OpenSpec.upto budgetGoesSpec)) budgetGoesUptoCard

/-- THE SECOND FORM's CARD OF 'ballastlaw8.BudgetCounts'. -/
def budgetCountsUptoCard : Claim7 := { stood := { row := budgetCountsUptoRow, standIns := [], harness := (true, "324b4f6732f85a8c91c7d994523f7f8a7690e2a86051bc72341fdfde72af9fe0"), looks := true }, kinds := [], alts := [], laidByText := true, laidKinds := [.data, .data, .data, .data, .sentinel, .sentinel, .pinned], laidTests := true, laidLooks := .later }
def BudgetCountsUptoCardSaid : Prop := Claim7.holds Tryz.pinned (.plain (OpenSpec.upto budgetCountsSpec)) budgetCountsUptoCard

/-- THE SECOND FORM's CARD OF 'ballastlaw6.NodeAny'. -/
def nodeAnyUptoCard : Claim7 := { stood := { row := nodeAnyUptoRow, standIns := [], harness := (true, "324b4f6732f85a8c91c7d994523f7f8a7690e2a86051bc72341fdfde72af9fe0"), looks := true }, kinds := [], alts := [], laidByText := true, laidKinds := [.data, .data, .data, .data, .sentinel, .sentinel, .pinned], laidTests := true, laidLooks := .later }
def NodeAnyUptoCardSaid : Prop := Claim7.holds Tryz.pinned (.plain (OpenSpec.upto nodeAnySpec)) nodeAnyUptoCard

/-- THE SECOND FORM's CARD OF 'ballastlaw6.NodeWords'. -/
def nodeWordsUptoCard : Claim7 := { stood := { row := nodeWordsUptoRow, standIns := [], harness := (true, "324b4f6732f85a8c91c7d994523f7f8a7690e2a86051bc72341fdfde72af9fe0"), looks := true }, kinds := [], alts := [], laidByText := true, laidKinds := [.data, .data, .data, .data, .sentinel, .sentinel, .pinned], laidTests := true, laidLooks := .later }
def NodeWordsUptoCardSaid : Prop := Claim7.holds Tryz.pinned (.plain (OpenSpec.upto nodeWordsSpec)) nodeWordsUptoCard

/-- THE SECOND FORM's CARD OF 'ballastlaw6.NodeRows'. -/
def nodeRowsUptoCard : Claim7 := { stood := { row := nodeRowsUptoRow, standIns := [], harness := (true, "324b4f6732f85a8c91c7d994523f7f8a7690e2a86051bc72341fdfde72af9fe0"), looks := true }, kinds := [], alts := [], laidByText := true, laidKinds := [.data, .data, .data, .data, .sentinel, .sentinel, .pinned], laidTests := true, laidLooks := .later }
def NodeRowsUptoCardSaid : Prop := Claim7.holds Tryz.pinned (.plain (OpenSpec.upto nodeRowsSpec)) nodeRowsUptoCard

/-- THE SECOND FORM's CARD OF 'ballastlaw6.NodeLimits'. -/
def nodeLimitsUptoCard : Claim7 := { stood := { row := nodeLimitsUptoRow, standIns := [], harness := (true, "324b4f6732f85a8c91c7d994523f7f8a7690e2a86051bc72341fdfde72af9fe0"), looks := true }, kinds := [], alts := [], laidByText := true, laidKinds := [.data, .data, .data, .data, .sentinel, .sentinel, .pinned], laidTests := true, laidLooks := .later }
def NodeLimitsUptoCardSaid : Prop := Claim7.holds Tryz.pinned (.plain (OpenSpec.upto nodeLimitsSpec)) nodeLimitsUptoCard

/-- THE SECOND FORM's CARD OF 'ballastlaw7.PodRows'. -/
def podRowsUptoCard : Claim7 := { stood := { row := podRowsUptoRow, standIns := [], harness := (true, "324b4f6732f85a8c91c7d994523f7f8a7690e2a86051bc72341fdfde72af9fe0"), looks := true }, kinds := [], alts := [], laidByText := true, laidKinds := [.data, .data, .data, .data, .sentinel, .sentinel, .pinned], laidTests := true, laidLooks := .later }
def PodRowsUptoCardSaid : Prop := Claim7.holds Tryz.pinned (.plain (OpenSpec.upto podRowsSpec)) podRowsUptoCard

/-- THE SECOND FORM's CARD OF 'ballastlaw7.PodEdges'. -/
def podEdgesUptoCard : Claim7 := { stood := { row := podEdgesUptoRow, standIns := [], harness := (true, "324b4f6732f85a8c91c7d994523f7f8a7690e2a86051bc72341fdfde72af9fe0"), looks := true }, kinds := [], alts := [], laidByText := true, laidKinds := [.data, .data, .data, .data, .sentinel, .sentinel, .pinned], laidTests := true, laidLooks := .later }
def PodEdgesUptoCardSaid : Prop := Claim7.holds Tryz.pinned (.plain (OpenSpec.upto podEdgesSpec)) podEdgesUptoCard

/-- THE SECOND FORM's CARD OF 'ballastlaw7.PodTells'. -/
def podTellsUptoCard : Claim7 := { stood := { row := podTellsUptoRow, standIns := [], harness := (true, "324b4f6732f85a8c91c7d994523f7f8a7690e2a86051bc72341fdfde72af9fe0"), looks := true }, kinds := [], alts := [], laidByText := true, laidKinds := [.data, .data, .data, .data, .sentinel, .sentinel, .pinned], laidTests := true, laidLooks := .later }
def PodTellsUptoCardSaid : Prop := Claim7.holds Tryz.pinned (.plain (OpenSpec.upto podTellsSpec)) podTellsUptoCard
end Rows
end Go.Proofs.YtppplbpilpjokaaGreatDoor
