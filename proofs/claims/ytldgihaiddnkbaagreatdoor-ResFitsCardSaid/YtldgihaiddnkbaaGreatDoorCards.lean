/-
  DERIVED. GIVEN WITH THE SEED: THE CARDS: each row of YtldgihaiddnkbaaGreatDoorRows.lean that lists a variable, with what it lists TIED to the program's text (the seventh form; the later family's looks); each row that meets fmt, with fmt's text TOLD by the authors' own Lean function (tested against real Go, not proved from fmt's source: count such statements apart). THE CARD IS WHAT COUNTS. Prove the row's statement (the work); the ties are given (YtldgihaiddnkbaaGreatDoorTie.lean); close each card by the builder's one call (the guide's Derived/Test/ToyasCard.lean, 'card_holds'). Laid BY PROGRAM, IN A SANDBOX (cutbox-door.mjs). By AI agents, Wed Nov 11 2026. No macro, syntax, notation, axiom, sorry.
-/
import Derived.Test.YtldgihaiddnkbaaGreatDoorRows
import GoSem.ClaimSeven
namespace Go.Proofs.YtldgihaiddnkbaaGreatDoor
namespace Rows

/-- THE TIED CARD OF 'ballastlaw2.ResTwo'. -/
def resTwoCard : Claim7 := { stood := { row := resTwoRow, standIns := [], harness := (true, "ab078f16d0e65c7c78f081adec4da81f0e643a29785258538c1cf0a62e11d433"), looks := true }, kinds := [], alts := [], laidByText := true, laidKinds := [.data, .data, .data, .data, .sentinel, .sentinel, .pinned], laidTests := true, laidLooks := .later }
def ResTwoCardSaid : Prop := Claim7.holds Tryz.pinned (.plain (OpenSpec.ofChange resTwoSpec)) resTwoCard

/-- THE TIED CARD OF 'ballastlaw2.ResWords'. -/
def resWordsCard : Claim7 := { stood := { row := resWordsRow, standIns := [], harness := (true, "ab078f16d0e65c7c78f081adec4da81f0e643a29785258538c1cf0a62e11d433"), looks := true }, kinds := [], alts := [], laidByText := true, laidKinds := [.data, .data, .data, .data, .sentinel, .sentinel, .pinned], laidTests := true, laidLooks := .later }
def ResWordsCardSaid : Prop := Claim7.holds Tryz.pinned (.plain (OpenSpec.ofChange resWordsSpec)) resWordsCard

/-- THE TIED CARD OF 'ballastlaw2.ResSums'. -/
def resSumsCard : Claim7 := { stood := { row := resSumsRow, standIns := [], harness := (true, "ab078f16d0e65c7c78f081adec4da81f0e643a29785258538c1cf0a62e11d433"), looks := true }, kinds := [], alts := [], laidByText := true, laidKinds := [.data, .data, .data, .data, .sentinel, .sentinel, .pinned], laidTests := true, laidLooks := .later }
def ResSumsCardSaid : Prop := Claim7.holds Tryz.pinned (.plain (OpenSpec.ofChange resSumsSpec)) resSumsCard

/-- THE TIED CARD OF 'ballastlaw2.ResParts'. -/
def resPartsCard : Claim7 := { stood := { row := resPartsRow, standIns := [], harness := (true, "ab078f16d0e65c7c78f081adec4da81f0e643a29785258538c1cf0a62e11d433"), looks := true }, kinds := [], alts := [], laidByText := true, laidKinds := [.data, .data, .data, .data, .sentinel, .sentinel, .pinned], laidTests := true, laidLooks := .later }
def ResPartsCardSaid : Prop := Claim7.holds Tryz.pinned (.plain (OpenSpec.ofChange resPartsSpec)) resPartsCard

/-- THE TIED CARD OF 'ballastlaw2.ResFits'. -/
def resFitsCard : Claim7 := { stood := { row := resFitsRow, standIns := [], harness := (true, "ab078f16d0e65c7c78f081adec4da81f0e643a29785258538c1cf0a62e11d433"), looks := true }, kinds := [], alts := [], laidByText := true, laidKinds := [.data, .data, .data, .data, .sentinel, .sentinel, .pinned], laidTests := true, laidLooks := .later }
def ResFitsCardSaid : Prop := Claim7.holds Tryz.pinned (.plain (OpenSpec.ofChange resFitsSpec)) resFitsCard

/-- THE SECOND FORM's CARD OF 'ballastlaw2.ResTwo'. -/
def resTwoUptoCard : Claim7 := { stood := { row := resTwoUptoRow, standIns := [], harness := (true, "ab078f16d0e65c7c78f081adec4da81f0e643a29785258538c1cf0a62e11d433"), looks := true }, kinds := [], alts := [], laidByText := true, laidKinds := [.data, .data, .data, .data, .sentinel, .sentinel, .pinned], laidTests := true, laidLooks := .later }
def ResTwoUptoCardSaid : Prop := Claim7.holds Tryz.pinned (.plain (OpenSpec.upto resTwoSpec)) resTwoUptoCard

/-- THE SECOND FORM's CARD OF 'ballastlaw2.ResWords'. -/
def resWordsUptoCard : Claim7 := { stood := { row := resWordsUptoRow, standIns := [], harness := (true, "ab078f16d0e65c7c78f081adec4da81f0e643a29785258538c1cf0a62e11d433"), looks := true }, kinds := [], alts := [], laidByText := true, laidKinds := [.data, .data, .data, .data, .sentinel, .sentinel, .pinned], laidTests := true, laidLooks := .later }
def ResWordsUptoCardSaid : Prop := Claim7.holds Tryz.pinned (.plain (OpenSpec.upto resWordsSpec)) resWordsUptoCard

/-- THE SECOND FORM's CARD OF 'ballastlaw2.ResSums'. -/
def resSumsUptoCard : Claim7 := { stood := { row := resSumsUptoRow, standIns := [], harness := (true, "ab078f16d0e65c7c78f081adec4da81f0e643a29785258538c1cf0a62e11d433"), looks := true }, kinds := [], alts := [], laidByText := true, laidKinds := [.data, .data, .data, .data, .sentinel, .sentinel, .pinned], laidTests := true, laidLooks := .later }
def ResSumsUptoCardSaid : Prop := Claim7.holds Tryz.pinned (.plain (OpenSpec.upto resSumsSpec)) resSumsUptoCard

/-- THE SECOND FORM's CARD OF 'ballastlaw2.ResParts'. -/
def resPartsUptoCard : Claim7 := { stood := { row := resPartsUptoRow, standIns := [], harness := (true, "ab078f16d0e65c7c78f081adec4da81f0e643a29785258538c1cf0a62e11d433"), looks := true }, kinds := [], alts := [], laidByText := true, laidKinds := [.data, .data, .data, .data, .sentinel, .sentinel, .pinned], laidTests := true, laidLooks := .later }
def ResPartsUptoCardSaid : Prop := Claim7.holds Tryz.pinned (.plain (OpenSpec.upto resPartsSpec)) resPartsUptoCard

/-- THE SECOND FORM's CARD OF 'ballastlaw2.ResFits'. -/
def resFitsUptoCard : Claim7 := { stood := { row := resFitsUptoRow, standIns := [], harness := (true, "ab078f16d0e65c7c78f081adec4da81f0e643a29785258538c1cf0a62e11d433"), looks := true }, kinds := [], alts := [], laidByText := true, laidKinds := [.data, .data, .data, .data, .sentinel, .sentinel, .pinned], laidTests := true, laidLooks := .later }
def ResFitsUptoCardSaid : Prop := Claim7.holds Tryz.pinned (.plain (OpenSpec.upto resFitsSpec)) resFitsUptoCard
end Rows
end Go.Proofs.YtldgihaiddnkbaaGreatDoor
