/-
  DERIVED. GIVEN WITH THE SEED: THE CARDS: each row of YtmlipdlbeddijaaDoorRows.lean that lists a variable, with what it lists TIED to the program's text (the seventh form; the later family's looks); each row that meets fmt, with fmt's text TOLD by the authors' own Lean function (tested against real Go, not proved from fmt's source: count such statements apart). THE CARD IS WHAT COUNTS. Prove the row's statement (the work); the ties are given (YtmlipdlbeddijaaDoorTie.lean); close each card by the builder's one call (the guide's Derived/Test/ToyasCard.lean, 'card_holds'). Laid BY PROGRAM, IN A SANDBOX (cutbox-door.mjs). By AI agents, Wed Nov 11 2026. No macro, syntax, notation, axiom, sorry.
-/
import Derived.Test.YtmlipdlbeddijaaDoorRows
import GoSem.ClaimSeven
namespace Go.Proofs.YtmlipdlbeddijaaDoor
namespace Rows

/-- THE TIED CARD OF 'ballastlaw5.TaintAny'. -/
def taintAnyCard : Claim7 := { stood := { row := taintAnyRow, standIns := [], harness := (true, "092e74e0cd01d3338e25beacac1a23cc1d599b35cf0b3f7f405df65093831094"), looks := true }, kinds := [], alts := [], laidByText := true, laidKinds := [.data, .pinned], laidTests := true, laidLooks := .later }
def TaintAnyCardSaid : Prop := Claim7.holds Tryd.pinned (.plain (OpenSpec.ofChange taintAnySpec)) taintAnyCard

/-- THE TIED CARD OF 'ballastlaw5.TaintWords'. -/
def taintWordsCard : Claim7 := { stood := { row := taintWordsRow, standIns := [], harness := (true, "092e74e0cd01d3338e25beacac1a23cc1d599b35cf0b3f7f405df65093831094"), looks := true }, kinds := [], alts := [], laidByText := true, laidKinds := [.data, .pinned], laidTests := true, laidLooks := .later }
def TaintWordsCardSaid : Prop := Claim7.holds Tryd.pinned (.plain (OpenSpec.ofChange taintWordsSpec)) taintWordsCard

/-- THE TIED CARD OF 'ballastlaw5.TaintMore'. -/
def taintMoreCard : Claim7 := { stood := { row := taintMoreRow, standIns := [], harness := (true, "092e74e0cd01d3338e25beacac1a23cc1d599b35cf0b3f7f405df65093831094"), looks := true }, kinds := [], alts := [], laidByText := true, laidKinds := [.data, .pinned], laidTests := true, laidLooks := .later }
def TaintMoreCardSaid : Prop := Claim7.holds Tryd.pinned (.plain (OpenSpec.ofChange taintMoreSpec)) taintMoreCard

/-- THE TIED CARD OF 'ballastlaw5.TaintOrder'. -/
def taintOrderCard : Claim7 := { stood := { row := taintOrderRow, standIns := [], harness := (true, "092e74e0cd01d3338e25beacac1a23cc1d599b35cf0b3f7f405df65093831094"), looks := true }, kinds := [], alts := [], laidByText := true, laidKinds := [.data, .pinned], laidTests := true, laidLooks := .later }
def TaintOrderCardSaid : Prop := Claim7.holds Tryd.pinned (.plain (OpenSpec.ofChange taintOrderSpec)) taintOrderCard

/-- THE TIED CARD OF 'ballastlaw5.TaintEach'. -/
def taintEachCard : Claim7 := { stood := { row := taintEachRow, standIns := [], harness := (true, "092e74e0cd01d3338e25beacac1a23cc1d599b35cf0b3f7f405df65093831094"), looks := true }, kinds := [], alts := [], laidByText := true, laidKinds := [.data, .pinned], laidTests := true, laidLooks := .later }
def TaintEachCardSaid : Prop := Claim7.holds Tryd.pinned (.plain (OpenSpec.ofChange taintEachSpec)) taintEachCard

/-- THE TIED CARD OF 'ballastlaw4.LabelAny'. -/
def labelAnyCard : Claim7 := { stood := { row := labelAnyRow, standIns := [], harness := (true, "092e74e0cd01d3338e25beacac1a23cc1d599b35cf0b3f7f405df65093831094"), looks := true }, kinds := [], alts := [], laidByText := true, laidKinds := [.data, .pinned], laidTests := true, laidLooks := .later }
def LabelAnyCardSaid : Prop := Claim7.holds Tryd.pinned (.plain (OpenSpec.ofChange labelAnySpec)) labelAnyCard

/-- THE TIED CARD OF 'ballastlaw4.LabelWords'. -/
def labelWordsCard : Claim7 := { stood := { row := labelWordsRow, standIns := [], harness := (true, "092e74e0cd01d3338e25beacac1a23cc1d599b35cf0b3f7f405df65093831094"), looks := true }, kinds := [], alts := [], laidByText := true, laidKinds := [.data, .pinned], laidTests := true, laidLooks := .later }
def LabelWordsCardSaid : Prop := Claim7.holds Tryd.pinned (.plain (OpenSpec.ofChange labelWordsSpec)) labelWordsCard

/-- THE TIED CARD OF 'ballastlaw4.LabelTerms'. -/
def labelTermsCard : Claim7 := { stood := { row := labelTermsRow, standIns := [], harness := (true, "092e74e0cd01d3338e25beacac1a23cc1d599b35cf0b3f7f405df65093831094"), looks := true }, kinds := [], alts := [], laidByText := true, laidKinds := [.data, .pinned], laidTests := true, laidLooks := .later }
def LabelTermsCardSaid : Prop := Claim7.holds Tryd.pinned (.plain (OpenSpec.ofChange labelTermsSpec)) labelTermsCard

/-- THE TIED CARD OF 'ballastlaw4.LabelMore'. -/
def labelMoreCard : Claim7 := { stood := { row := labelMoreRow, standIns := [], harness := (true, "092e74e0cd01d3338e25beacac1a23cc1d599b35cf0b3f7f405df65093831094"), looks := true }, kinds := [], alts := [], laidByText := true, laidKinds := [.data, .pinned], laidTests := true, laidLooks := .later }
def LabelMoreCardSaid : Prop := Claim7.holds Tryd.pinned (.plain (OpenSpec.ofChange labelMoreSpec)) labelMoreCard

/-- THE TIED CARD OF 'ballastlaw4.LabelNames'. -/
def labelNamesCard : Claim7 := { stood := { row := labelNamesRow, standIns := [], harness := (true, "092e74e0cd01d3338e25beacac1a23cc1d599b35cf0b3f7f405df65093831094"), looks := true }, kinds := [], alts := [], laidByText := true, laidKinds := [.data, .pinned], laidTests := true, laidLooks := .later }
def LabelNamesCardSaid : Prop := Claim7.holds Tryd.pinned (.plain (OpenSpec.ofChange labelNamesSpec)) labelNamesCard

/-- THE SECOND FORM's CARD OF 'ballastlaw5.TaintAny'. -/
def taintAnyUptoCard : Claim7 := { stood := { row := taintAnyUptoRow, standIns := [], harness := (true, "092e74e0cd01d3338e25beacac1a23cc1d599b35cf0b3f7f405df65093831094"), looks := true }, kinds := [], alts := [], laidByText := true, laidKinds := [.data, .pinned], laidTests := true, laidLooks := .later }
def TaintAnyUptoCardSaid : Prop := Claim7.holds Tryd.pinned (.plain (OpenSpec.upto taintAnySpec)) taintAnyUptoCard

/-- THE SECOND FORM's CARD OF 'ballastlaw5.TaintWords'. -/
def taintWordsUptoCard : Claim7 := { stood := { row := taintWordsUptoRow, standIns := [], harness := (true, "092e74e0cd01d3338e25beacac1a23cc1d599b35cf0b3f7f405df65093831094"), looks := true }, kinds := [], alts := [], laidByText := true, laidKinds := [.data, .pinned], laidTests := true, laidLooks := .later }
def TaintWordsUptoCardSaid : Prop := Claim7.holds Tryd.pinned (.plain (OpenSpec.upto taintWordsSpec)) taintWordsUptoCard

/-- THE SECOND FORM's CARD OF 'ballastlaw5.TaintMore'. -/
def taintMoreUptoCard : Claim7 := { stood := { row := taintMoreUptoRow, standIns := [], harness := (true, "092e74e0cd01d3338e25beacac1a23cc1d599b35cf0b3f7f405df65093831094"), looks := true }, kinds := [], alts := [], laidByText := true, laidKinds := [.data, .pinned], laidTests := true, laidLooks := .later }
def TaintMoreUptoCardSaid : Prop := Claim7.holds Tryd.pinned (.plain (OpenSpec.upto taintMoreSpec)) taintMoreUptoCard

/-- THE SECOND FORM's CARD OF 'ballastlaw5.TaintOrder'. -/
def taintOrderUptoCard : Claim7 := { stood := { row := taintOrderUptoRow, standIns := [], harness := (true, "092e74e0cd01d3338e25beacac1a23cc1d599b35cf0b3f7f405df65093831094"), looks := true }, kinds := [], alts := [], laidByText := true, laidKinds := [.data, .pinned], laidTests := true, laidLooks := .later }
def TaintOrderUptoCardSaid : Prop := Claim7.holds Tryd.pinned (.plain (OpenSpec.upto taintOrderSpec)) taintOrderUptoCard

/-- THE SECOND FORM's CARD OF 'ballastlaw5.TaintEach'. -/
def taintEachUptoCard : Claim7 := { stood := { row := taintEachUptoRow, standIns := [], harness := (true, "092e74e0cd01d3338e25beacac1a23cc1d599b35cf0b3f7f405df65093831094"), looks := true }, kinds := [], alts := [], laidByText := true, laidKinds := [.data, .pinned], laidTests := true, laidLooks := .later }
def TaintEachUptoCardSaid : Prop := Claim7.holds Tryd.pinned (.plain (OpenSpec.upto taintEachSpec)) taintEachUptoCard

/-- THE SECOND FORM's CARD OF 'ballastlaw4.LabelAny'. -/
def labelAnyUptoCard : Claim7 := { stood := { row := labelAnyUptoRow, standIns := [], harness := (true, "092e74e0cd01d3338e25beacac1a23cc1d599b35cf0b3f7f405df65093831094"), looks := true }, kinds := [], alts := [], laidByText := true, laidKinds := [.data, .pinned], laidTests := true, laidLooks := .later }
def LabelAnyUptoCardSaid : Prop := Claim7.holds Tryd.pinned (.plain (OpenSpec.upto labelAnySpec)) labelAnyUptoCard

/-- THE SECOND FORM's CARD OF 'ballastlaw4.LabelWords'. -/
def labelWordsUptoCard : Claim7 := { stood := { row := labelWordsUptoRow, standIns := [], harness := (true, "092e74e0cd01d3338e25beacac1a23cc1d599b35cf0b3f7f405df65093831094"), looks := true }, kinds := [], alts := [], laidByText := true, laidKinds := [.data, .pinned], laidTests := true, laidLooks := .later }
def LabelWordsUptoCardSaid : Prop := Claim7.holds Tryd.pinned (.plain (OpenSpec.upto labelWordsSpec)) labelWordsUptoCard

/-- THE SECOND FORM's CARD OF 'ballastlaw4.LabelTerms'. -/
def labelTermsUptoCard : Claim7 := { stood := { row := labelTermsUptoRow, standIns := [], harness := (true, "092e74e0cd01d3338e25beacac1a23cc1d599b35cf0b3f7f405df65093831094"), looks := true }, kinds := [], alts := [], laidByText := true, laidKinds := [.data, .pinned], laidTests := true, laidLooks := .later }
def LabelTermsUptoCardSaid : Prop := Claim7.holds Tryd.pinned (.plain (OpenSpec.upto labelTermsSpec)) labelTermsUptoCard

/-- THE SECOND FORM's CARD OF 'ballastlaw4.LabelMore'. -/
def labelMoreUptoCard : Claim7 := { stood := { row := labelMoreUptoRow, standIns := [], harness := (true, "092e74e0cd01d3338e25beacac1a23cc1d599b35cf0b3f7f405df65093831094"), looks := true }, kinds := [], alts := [], laidByText := true, laidKinds := [.data, .pinned], laidTests := true, laidLooks := .later }
def LabelMoreUptoCardSaid : Prop := Claim7.holds Tryd.pinned (.plain (OpenSpec.upto labelMoreSpec)) labelMoreUptoCard

/-- THE SECOND FORM's CARD OF 'ballastlaw4.LabelNames'. -/
def labelNamesUptoCard : Claim7 := { stood := { row := labelNamesUptoRow, standIns := [], harness := (true, "092e74e0cd01d3338e25beacac1a23cc1d599b35cf0b3f7f405df65093831094"), looks := true }, kinds := [], alts := [], laidByText := true, laidKinds := [.data, .pinned], laidTests := true, laidLooks := .later }
def LabelNamesUptoCardSaid : Prop := Claim7.holds Tryd.pinned (.plain (OpenSpec.upto labelNamesSpec)) labelNamesUptoCard
end Rows
end Go.Proofs.YtmlipdlbeddijaaDoor
