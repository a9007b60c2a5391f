/-
  NARROWER THAN 'FOR EVERY INPUT', by the rows' own cells (each row's printed sentence says how): LevelAny: laid · LevelRises: laid · StratAny: laid · StratOnce: laid · StratLevels: laid · StratTwins: laid · StratTaint: laid · MoveBack: laid · MoveFloors: laid · MoveTwo: laid · MoveAny: laid.
  DERIVED. THE GIVEN ROWS OF THIS SEAT. 11 by the template 'for every input the law returns true; each argument reads behind the call as it read before'; 0 by the template 'total and deterministic' (their statements: YthlhlfiklmmenaaGreatDoorTotals.lean).
  GIVEN WITH THE SEED: the statements are not yours to turn. If you find one false, say at which input.
  Laid BY PROGRAM, IN A SANDBOX (cutbox-rows.mjs): the forced cells as the released guide's own fill.sh prints them over the translation e207fbbad15d8dda… (all of the seat's roots in one cut). By AI agents, Wed Nov 11 2026. No macro, syntax, notation, axiom, sorry.
-/
import Derived.Test.YthlhlfiklmmenaaGreatDoorChecked
import GoSem.PinnedTables
import GoSem.Claim
import GoSem.ClaimJoined
import GoSem.ClaimMapViews
import Derived.JoinedTies
import Derived.KernelRfl
namespace Go.Proofs.YthlhlfiklmmenaaGreatDoor
/- THE CELL 'sum', in the pinned program and in every row, IS THE sha256 OF THE DUMP (.gsa) THAT YthlhlfiklmmenaaGreatDoorProg.lean LOADS. Nothing in Lean hashes anything: it is a label: what it is worth is what the hold of that sum in a sandbox is worth. -/
noncomputable def Tryz.pinned : Pinned := { name := "ythlhlfiklmmenaagreatdoor", sum := "e207fbbad15d8dda5251b771d36ae4c23503c2b672032be7ef47745b0f97883e", checked := Tryz.checked }
namespace Rows
def none {H : Type} : Left H := { results := [], args := [] }

/- WHAT THE LISTED PACKAGE-LEVEL VARIABLES READ AS WHEN THE CALL BEGINS. Each datum BY PROGRAM (the guide's laid-datum.mjs) off the statement by which the dump's own 'gosem.cut.vars' lays the variable. In a bare row this is a premise. The card (YthlhlfiklmmenaaGreatDoorCards.lean) ties it to the program's text. -/
def laid_unicode_utf8_acceptRanges {H : Type} : DataW H := .agg [.agg [.lit (.int .u8 128), .lit (.int .u8 191)], .agg [.lit (.int .u8 160), .lit (.int .u8 191)], .agg [.lit (.int .u8 128), .lit (.int .u8 159)], .agg [.lit (.int .u8 144), .lit (.int .u8 191)], .agg [.lit (.int .u8 128), .lit (.int .u8 143)], .agg [.lit (.int .u8 0), .lit (.int .u8 0)], .agg [.lit (.int .u8 0), .lit (.int .u8 0)], .agg [.lit (.int .u8 0), .lit (.int .u8 0)], .agg [.lit (.int .u8 0), .lit (.int .u8 0)], .agg [.lit (.int .u8 0), .lit (.int .u8 0)], .agg [.lit (.int .u8 0), .lit (.int .u8 0)], .agg [.lit (.int .u8 0), .lit (.int .u8 0)], .agg [.lit (.int .u8 0), .lit (.int .u8 0)], .agg [.lit (.int .u8 0), .lit (.int .u8 0)], .agg [.lit (.int .u8 0), .lit (.int .u8 0)], .agg [.lit (.int .u8 0), .lit (.int .u8 0)]]
/-- One of Go's own tables, pinned by name: the form's constant. -/
def laid_unicode_utf8_first : DataW Unit := Go.Pinned.utf8First

/-- 'ballastlaw18.LevelAny': WHATEVER THE INPUT: true; the input reads as it did. -/
def levelAnySpec : ChangeSpec := { name := "levelAny", fn := fun _ => fun
  | [d1, d2, d3, d4] => { results := [.lit (.bool true)], args := [d1, d2, d3, d4] }
  | _ => none }
def levelAnyRow : OpenClaim := { program := "ythlhlfiklmmenaagreatdoor", sum := "e207fbbad15d8dda5251b771d36ae4c23503c2b672032be7ef47745b0f97883e", func := "ballast/ballastlaw18.LevelAny", spec := "levelAny", inPlace := ["math.Float64frombits", "internal/bytealg.IndexByteString", "internal/bytealg.IndexString", "math.Float64bits"], unfollowed := true, recurses := true, named := ["unicode/utf8.first", "unicode/utf8.acceptRanges", "internal/bytealg.MaxLen"], apart := false, laid := [("unicode/utf8.acceptRanges", laid_unicode_utf8_acceptRanges), ("unicode/utf8.first", laid_unicode_utf8_first)] }
def LevelAnySaid : Prop := levelAnyRow.holds Tryz.pinned (OpenSpec.ofChange levelAnySpec)

/-- ITS FALSE NEIGHBOUR: 'it returns false'. Refute it at one input. -/
def levelAnyWrong : ChangeSpec := { name := "levelAny", fn := fun _ => fun
  | [d1, d2, d3, d4] => { results := [.lit (.bool false)], args := [d1, d2, d3, d4] }
  | _ => none }
def LevelAnyWrongFalsely : Prop := levelAnyRow.holds Tryz.pinned (OpenSpec.ofChange levelAnyWrong)

/-- 'ballastlaw18.LevelRises': WHATEVER THE INPUT: true; the input reads as it did. -/
def levelRisesSpec : ChangeSpec := { name := "levelRises", fn := fun _ => fun
  | [d1, d2, d3, d4, d5] => { results := [.lit (.bool true)], args := [d1, d2, d3, d4, d5] }
  | _ => none }
def levelRisesRow : OpenClaim := { program := "ythlhlfiklmmenaagreatdoor", sum := "e207fbbad15d8dda5251b771d36ae4c23503c2b672032be7ef47745b0f97883e", func := "ballast/ballastlaw18.LevelRises", spec := "levelRises", inPlace := ["math.Float64frombits", "internal/bytealg.IndexByteString", "internal/bytealg.IndexString", "math.Float64bits"], unfollowed := true, recurses := true, named := ["unicode/utf8.first", "unicode/utf8.acceptRanges", "internal/bytealg.MaxLen"], apart := false, laid := [("unicode/utf8.acceptRanges", laid_unicode_utf8_acceptRanges), ("unicode/utf8.first", laid_unicode_utf8_first)] }
def LevelRisesSaid : Prop := levelRisesRow.holds Tryz.pinned (OpenSpec.ofChange levelRisesSpec)

/-- ITS FALSE NEIGHBOUR: 'it returns false'. Refute it at one input. -/
def levelRisesWrong : ChangeSpec := { name := "levelRises", fn := fun _ => fun
  | [d1, d2, d3, d4, d5] => { results := [.lit (.bool false)], args := [d1, d2, d3, d4, d5] }
  | _ => none }
def LevelRisesWrongFalsely : Prop := levelRisesRow.holds Tryz.pinned (OpenSpec.ofChange levelRisesWrong)

/-- 'ballastlaw19.StratAny': WHATEVER THE INPUT: true; the input reads as it did. -/
def stratAnySpec : ChangeSpec := { name := "stratAny", fn := fun _ => fun
  | [d1, d2, d3, d4, d5] => { results := [.lit (.bool true)], args := [d1, d2, d3, d4, d5] }
  | _ => none }
def stratAnyRow : OpenClaim := { program := "ythlhlfiklmmenaagreatdoor", sum := "e207fbbad15d8dda5251b771d36ae4c23503c2b672032be7ef47745b0f97883e", func := "ballast/ballastlaw19.StratAny", spec := "stratAny", inPlace := ["math.Float64frombits", "internal/bytealg.IndexByteString", "internal/bytealg.IndexString", "math.Float64bits"], unfollowed := true, recurses := true, named := ["unicode/utf8.first", "unicode/utf8.acceptRanges", "internal/bytealg.MaxLen"], apart := false, laid := [("unicode/utf8.acceptRanges", laid_unicode_utf8_acceptRanges), ("unicode/utf8.first", laid_unicode_utf8_first)] }
def StratAnySaid : Prop := stratAnyRow.holds Tryz.pinned (OpenSpec.ofChange stratAnySpec)

/-- ITS FALSE NEIGHBOUR: 'it returns false'. Refute it at one input. -/
def stratAnyWrong : ChangeSpec := { name := "stratAny", fn := fun _ => fun
  | [d1, d2, d3, d4, d5] => { results := [.lit (.bool false)], args := [d1, d2, d3, d4, d5] }
  | _ => none }
def StratAnyWrongFalsely : Prop := stratAnyRow.holds Tryz.pinned (OpenSpec.ofChange stratAnyWrong)

/-- 'ballastlaw19.StratOnce': WHATEVER THE INPUT: true; the input reads as it did. -/
def stratOnceSpec : ChangeSpec := { name := "stratOnce", fn := fun _ => fun
  | [d1, d2, d3, d4] => { results := [.lit (.bool true)], args := [d1, d2, d3, d4] }
  | _ => none }
def stratOnceRow : OpenClaim := { program := "ythlhlfiklmmenaagreatdoor", sum := "e207fbbad15d8dda5251b771d36ae4c23503c2b672032be7ef47745b0f97883e", func := "ballast/ballastlaw19.StratOnce", spec := "stratOnce", inPlace := ["math.Float64frombits", "internal/bytealg.IndexByteString", "internal/bytealg.IndexString", "math.Float64bits"], unfollowed := true, recurses := true, named := ["unicode/utf8.first", "unicode/utf8.acceptRanges", "internal/bytealg.MaxLen"], apart := false, laid := [("unicode/utf8.acceptRanges", laid_unicode_utf8_acceptRanges), ("unicode/utf8.first", laid_unicode_utf8_first)] }
def StratOnceSaid : Prop := stratOnceRow.holds Tryz.pinned (OpenSpec.ofChange stratOnceSpec)

/-- ITS FALSE NEIGHBOUR: 'it returns false'. Refute it at one input. -/
def stratOnceWrong : ChangeSpec := { name := "stratOnce", fn := fun _ => fun
  | [d1, d2, d3, d4] => { results := [.lit (.bool false)], args := [d1, d2, d3, d4] }
  | _ => none }
def StratOnceWrongFalsely : Prop := stratOnceRow.holds Tryz.pinned (OpenSpec.ofChange stratOnceWrong)

/-- 'ballastlaw19.StratLevels': WHATEVER THE INPUT: true; the input reads as it did. -/
def stratLevelsSpec : ChangeSpec := { name := "stratLevels", fn := fun _ => fun
  | [d] => { results := [.lit (.bool true)], args := [d] }
  | _ => none }
def stratLevelsRow : OpenClaim := { program := "ythlhlfiklmmenaagreatdoor", sum := "e207fbbad15d8dda5251b771d36ae4c23503c2b672032be7ef47745b0f97883e", func := "ballast/ballastlaw19.StratLevels", spec := "stratLevels", inPlace := ["math.Float64frombits", "internal/bytealg.IndexByteString", "internal/bytealg.IndexString", "math.Float64bits"], unfollowed := true, recurses := true, named := ["unicode/utf8.first", "unicode/utf8.acceptRanges", "internal/bytealg.MaxLen"], apart := false, laid := [("unicode/utf8.acceptRanges", laid_unicode_utf8_acceptRanges), ("unicode/utf8.first", laid_unicode_utf8_first)] }
def StratLevelsSaid : Prop := stratLevelsRow.holds Tryz.pinned (OpenSpec.ofChange stratLevelsSpec)

/-- ITS FALSE NEIGHBOUR: 'it returns false'. Refute it at one input. -/
def stratLevelsWrong : ChangeSpec := { name := "stratLevels", fn := fun _ => fun
  | [d] => { results := [.lit (.bool false)], args := [d] }
  | _ => none }
def StratLevelsWrongFalsely : Prop := stratLevelsRow.holds Tryz.pinned (OpenSpec.ofChange stratLevelsWrong)

/-- 'ballastlaw19.StratTwins': WHATEVER THE INPUT: true; the input reads as it did. -/
def stratTwinsSpec : ChangeSpec := { name := "stratTwins", fn := fun _ => fun
  | [d] => { results := [.lit (.bool true)], args := [d] }
  | _ => none }
def stratTwinsRow : OpenClaim := { program := "ythlhlfiklmmenaagreatdoor", sum := "e207fbbad15d8dda5251b771d36ae4c23503c2b672032be7ef47745b0f97883e", func := "ballast/ballastlaw19.StratTwins", spec := "stratTwins", inPlace := ["math.Float64frombits", "internal/bytealg.IndexByteString", "internal/bytealg.IndexString", "math.Float64bits"], unfollowed := true, recurses := true, named := ["unicode/utf8.first", "unicode/utf8.acceptRanges", "internal/bytealg.MaxLen"], apart := false, laid := [("unicode/utf8.acceptRanges", laid_unicode_utf8_acceptRanges), ("unicode/utf8.first", laid_unicode_utf8_first)] }
def StratTwinsSaid : Prop := stratTwinsRow.holds Tryz.pinned (OpenSpec.ofChange stratTwinsSpec)

/-- ITS FALSE NEIGHBOUR: 'it returns false'. Refute it at one input. -/
def stratTwinsWrong : ChangeSpec := { name := "stratTwins", fn := fun _ => fun
  | [d] => { results := [.lit (.bool false)], args := [d] }
  | _ => none }
def StratTwinsWrongFalsely : Prop := stratTwinsRow.holds Tryz.pinned (OpenSpec.ofChange stratTwinsWrong)

/-- 'ballastlaw19.StratTaint': WHATEVER THE INPUT: true; the input reads as it did. -/
def stratTaintSpec : ChangeSpec := { name := "stratTaint", fn := fun _ => fun
  | [d] => { results := [.lit (.bool true)], args := [d] }
  | _ => none }
def stratTaintRow : OpenClaim := { program := "ythlhlfiklmmenaagreatdoor", sum := "e207fbbad15d8dda5251b771d36ae4c23503c2b672032be7ef47745b0f97883e", func := "ballast/ballastlaw19.StratTaint", spec := "stratTaint", inPlace := ["math.Float64frombits", "internal/bytealg.IndexByteString", "internal/bytealg.IndexString", "math.Float64bits"], unfollowed := true, recurses := true, named := ["unicode/utf8.first", "unicode/utf8.acceptRanges", "internal/bytealg.MaxLen"], apart := false, laid := [("unicode/utf8.acceptRanges", laid_unicode_utf8_acceptRanges), ("unicode/utf8.first", laid_unicode_utf8_first)] }
def StratTaintSaid : Prop := stratTaintRow.holds Tryz.pinned (OpenSpec.ofChange stratTaintSpec)

/-- ITS FALSE NEIGHBOUR: 'it returns false'. Refute it at one input. -/
def stratTaintWrong : ChangeSpec := { name := "stratTaint", fn := fun _ => fun
  | [d] => { results := [.lit (.bool false)], args := [d] }
  | _ => none }
def StratTaintWrongFalsely : Prop := stratTaintRow.holds Tryz.pinned (OpenSpec.ofChange stratTaintWrong)

/-- 'ballastlaw21.MoveBack': WHATEVER THE INPUT: true; the input reads as it did. -/
def moveBackSpec : ChangeSpec := { name := "moveBack", fn := fun _ => fun
  | [d1, d2] => { results := [.lit (.bool true)], args := [d1, d2] }
  | _ => none }
def moveBackRow : OpenClaim := { program := "ythlhlfiklmmenaagreatdoor", sum := "e207fbbad15d8dda5251b771d36ae4c23503c2b672032be7ef47745b0f97883e", func := "ballast/ballastlaw21.MoveBack", spec := "moveBack", inPlace := ["internal/bytealg.IndexByteString", "internal/bytealg.IndexString", "internal/bytealg.CountString"], unfollowed := true, recurses := true, named := ["unicode/utf8.first", "unicode/utf8.acceptRanges", "internal/bytealg.MaxLen"], apart := false, laid := [("unicode/utf8.acceptRanges", laid_unicode_utf8_acceptRanges), ("unicode/utf8.first", laid_unicode_utf8_first)] }
def MoveBackSaid : Prop := moveBackRow.holds Tryz.pinned (OpenSpec.ofChange moveBackSpec)

/-- ITS FALSE NEIGHBOUR: 'it returns false'. Refute it at one input. -/
def moveBackWrong : ChangeSpec := { name := "moveBack", fn := fun _ => fun
  | [d1, d2] => { results := [.lit (.bool false)], args := [d1, d2] }
  | _ => none }
def MoveBackWrongFalsely : Prop := moveBackRow.holds Tryz.pinned (OpenSpec.ofChange moveBackWrong)

/-- 'ballastlaw21.MoveFloors': WHATEVER THE INPUT: true; the input reads as it did. -/
def moveFloorsSpec : ChangeSpec := { name := "moveFloors", fn := fun _ => fun
  | [d1, d2] => { results := [.lit (.bool true)], args := [d1, d2] }
  | _ => none }
def moveFloorsRow : OpenClaim := { program := "ythlhlfiklmmenaagreatdoor", sum := "e207fbbad15d8dda5251b771d36ae4c23503c2b672032be7ef47745b0f97883e", func := "ballast/ballastlaw21.MoveFloors", spec := "moveFloors", inPlace := ["internal/bytealg.IndexByteString", "internal/bytealg.IndexString", "internal/bytealg.CountString"], unfollowed := true, recurses := true, named := ["unicode/utf8.first", "unicode/utf8.acceptRanges", "internal/bytealg.MaxLen"], apart := false, laid := [("unicode/utf8.acceptRanges", laid_unicode_utf8_acceptRanges), ("unicode/utf8.first", laid_unicode_utf8_first)] }
def MoveFloorsSaid : Prop := moveFloorsRow.holds Tryz.pinned (OpenSpec.ofChange moveFloorsSpec)

/-- ITS FALSE NEIGHBOUR: 'it returns false'. Refute it at one input. -/
def moveFloorsWrong : ChangeSpec := { name := "moveFloors", fn := fun _ => fun
  | [d1, d2] => { results := [.lit (.bool false)], args := [d1, d2] }
  | _ => none }
def MoveFloorsWrongFalsely : Prop := moveFloorsRow.holds Tryz.pinned (OpenSpec.ofChange moveFloorsWrong)

/-- 'ballastlaw21.MoveTwo': WHATEVER THE INPUT: true; the input reads as it did. -/
def moveTwoSpec : ChangeSpec := { name := "moveTwo", fn := fun _ => fun
  | [d1, d2, d3] => { results := [.lit (.bool true)], args := [d1, d2, d3] }
  | _ => none }
def moveTwoRow : OpenClaim := { program := "ythlhlfiklmmenaagreatdoor", sum := "e207fbbad15d8dda5251b771d36ae4c23503c2b672032be7ef47745b0f97883e", func := "ballast/ballastlaw21.MoveTwo", spec := "moveTwo", inPlace := ["internal/bytealg.IndexByteString", "internal/bytealg.IndexString", "internal/bytealg.CountString"], unfollowed := true, recurses := true, named := ["unicode/utf8.first", "unicode/utf8.acceptRanges", "internal/bytealg.MaxLen"], apart := false, laid := [("unicode/utf8.acceptRanges", laid_unicode_utf8_acceptRanges), ("unicode/utf8.first", laid_unicode_utf8_first)] }
def MoveTwoSaid : Prop := moveTwoRow.holds Tryz.pinned (OpenSpec.ofChange moveTwoSpec)

/-- ITS FALSE NEIGHBOUR: 'it returns false'. Refute it at one input. -/
def moveTwoWrong : ChangeSpec := { name := "moveTwo", fn := fun _ => fun
  | [d1, d2, d3] => { results := [.lit (.bool false)], args := [d1, d2, d3] }
  | _ => none }
def MoveTwoWrongFalsely : Prop := moveTwoRow.holds Tryz.pinned (OpenSpec.ofChange moveTwoWrong)

/-- 'ballastlaw21.MoveAny': WHATEVER THE INPUT: true; the input reads as it did. -/
def moveAnySpec : ChangeSpec := { name := "moveAny", fn := fun _ => fun
  | [d1, d2] => { results := [.lit (.bool true)], args := [d1, d2] }
  | _ => none }
def moveAnyRow : OpenClaim := { program := "ythlhlfiklmmenaagreatdoor", sum := "e207fbbad15d8dda5251b771d36ae4c23503c2b672032be7ef47745b0f97883e", func := "ballast/ballastlaw21.MoveAny", spec := "moveAny", inPlace := ["internal/bytealg.IndexByteString", "internal/bytealg.IndexString", "internal/bytealg.CountString"], unfollowed := true, recurses := true, named := ["unicode/utf8.first", "unicode/utf8.acceptRanges", "internal/bytealg.MaxLen"], apart := false, laid := [("unicode/utf8.acceptRanges", laid_unicode_utf8_acceptRanges), ("unicode/utf8.first", laid_unicode_utf8_first)] }
def MoveAnySaid : Prop := moveAnyRow.holds Tryz.pinned (OpenSpec.ofChange moveAnySpec)

/-- ITS FALSE NEIGHBOUR: 'it returns false'. Refute it at one input. -/
def moveAnyWrong : ChangeSpec := { name := "moveAny", fn := fun _ => fun
  | [d1, d2] => { results := [.lit (.bool false)], args := [d1, d2] }
  | _ => none }
def MoveAnyWrongFalsely : Prop := moveAnyRow.holds Tryz.pinned (OpenSpec.ofChange moveAnyWrong)

/- THE SECOND FORM. 'bulk': how many values and letters a reading holds, each counted each time it is reached (what is shared counts as often as it is met; a slice's spare places count too). A statement '..UptoSaid' is the law's where the arguments, and the package variables that the reading takes, are together of bulk at most 1048576: NARROWER than '..Said'. Prove '..Said' where nothing that the law and all that it calls make is longer than what came in: it says more and counts as full. Else prove '..UptoSaid'. A law counts once. -/
mutual
def uptoBulk {H : Type} : DataW H → Nat
  | .lit (.string bytes) => bytes.length + 1
  | .lit _ => 1
  | .nil => 1
  | .ptr d => uptoBulk d + 1
  | .slice elems spare => uptoBulkAll elems + uptoBulkAll spare + 1
  | .agg parts => uptoBulkAll parts + 1
  | .iface _ d => uptoBulk d + 1
  | .map entries => uptoBulkEntries entries + 1
  | .held _ => 1
def uptoBulkAll {H : Type} : List (DataW H) → Nat
  | [] => 0
  | d :: r => uptoBulk d + uptoBulkAll r
def uptoBulkEntries {H : Type} : List (Lit × DataW H) → Nat
  | [] => 0
  | x :: r => uptoBulkEntry x + uptoBulkEntries r
def uptoBulkEntry {H : Type} : Lit × DataW H → Nat
  | (.string bytes, d) => bytes.length + uptoBulk d + 1
  | (_, d) => uptoBulk d + 1
 end
def uptoSmall : (H : Type) → List (DataW H) → Bool := fun _ ds => decide (uptoBulkAll ds ≤ 1048576)
def OpenSpec.upto (s : _root_.Go.ChangeSpec) : _root_.Go.OpenSpec := { _root_.Go.OpenSpec.ofChange s with cond := some uptoSmall }

/-- 'ballastlaw18.LevelAny', WHERE WHAT IT READS IS OF BULK AT MOST 1048576: true; the input reads as it did. -/
def levelAnyUptoRow : OpenClaim := { program := "ythlhlfiklmmenaagreatdoor", sum := "e207fbbad15d8dda5251b771d36ae4c23503c2b672032be7ef47745b0f97883e", func := "ballast/ballastlaw18.LevelAny", spec := "levelAny", inPlace := ["math.Float64frombits", "internal/bytealg.IndexByteString", "internal/bytealg.IndexString", "math.Float64bits"], unfollowed := true, recurses := true, named := ["unicode/utf8.first", "unicode/utf8.acceptRanges", "internal/bytealg.MaxLen"], apart := false, laid := [("unicode/utf8.acceptRanges", laid_unicode_utf8_acceptRanges), ("unicode/utf8.first", laid_unicode_utf8_first)], narrowed := true }
def LevelAnyUptoSaid : Prop := levelAnyUptoRow.holds Tryz.pinned (OpenSpec.upto levelAnySpec)

/-- 'ballastlaw18.LevelRises', WHERE WHAT IT READS IS OF BULK AT MOST 1048576: true; the input reads as it did. -/
def levelRisesUptoRow : OpenClaim := { program := "ythlhlfiklmmenaagreatdoor", sum := "e207fbbad15d8dda5251b771d36ae4c23503c2b672032be7ef47745b0f97883e", func := "ballast/ballastlaw18.LevelRises", spec := "levelRises", inPlace := ["math.Float64frombits", "internal/bytealg.IndexByteString", "internal/bytealg.IndexString", "math.Float64bits"], unfollowed := true, recurses := true, named := ["unicode/utf8.first", "unicode/utf8.acceptRanges", "internal/bytealg.MaxLen"], apart := false, laid := [("unicode/utf8.acceptRanges", laid_unicode_utf8_acceptRanges), ("unicode/utf8.first", laid_unicode_utf8_first)], narrowed := true }
def LevelRisesUptoSaid : Prop := levelRisesUptoRow.holds Tryz.pinned (OpenSpec.upto levelRisesSpec)

/-- 'ballastlaw19.StratAny', WHERE WHAT IT READS IS OF BULK AT MOST 1048576: true; the input reads as it did. -/
def stratAnyUptoRow : OpenClaim := { program := "ythlhlfiklmmenaagreatdoor", sum := "e207fbbad15d8dda5251b771d36ae4c23503c2b672032be7ef47745b0f97883e", func := "ballast/ballastlaw19.StratAny", spec := "stratAny", inPlace := ["math.Float64frombits", "internal/bytealg.IndexByteString", "internal/bytealg.IndexString", "math.Float64bits"], unfollowed := true, recurses := true, named := ["unicode/utf8.first", "unicode/utf8.acceptRanges", "internal/bytealg.MaxLen"], apart := false, laid := [("unicode/utf8.acceptRanges", laid_unicode_utf8_acceptRanges), ("unicode/utf8.first", laid_unicode_utf8_first)], narrowed := true }
def StratAnyUptoSaid : Prop := stratAnyUptoRow.holds Tryz.pinned (OpenSpec.upto stratAnySpec)

/-- 'ballastlaw19.StratOnce', WHERE WHAT IT READS IS OF BULK AT MOST 1048576: true; the input reads as it did. -/
def stratOnceUptoRow : OpenClaim := { program := "ythlhlfiklmmenaagreatdoor", sum := "e207fbbad15d8dda5251b771d36ae4c23503c2b672032be7ef47745b0f97883e", func := "ballast/ballastlaw19.StratOnce", spec := "stratOnce", inPlace := ["math.Float64frombits", "internal/bytealg.IndexByteString", "internal/bytealg.IndexString", "math.Float64bits"], unfollowed := true, recurses := true, named := ["unicode/utf8.first", "unicode/utf8.acceptRanges", "internal/bytealg.MaxLen"], apart := false, laid := [("unicode/utf8.acceptRanges", laid_unicode_utf8_acceptRanges), ("unicode/utf8.first", laid_unicode_utf8_first)], narrowed := true }
def StratOnceUptoSaid : Prop := stratOnceUptoRow.holds Tryz.pinned (OpenSpec.upto stratOnceSpec)

/-- 'ballastlaw19.StratLevels', WHERE WHAT IT READS IS OF BULK AT MOST 1048576: true; the input reads as it did. -/
def stratLevelsUptoRow : OpenClaim := { program := "ythlhlfiklmmenaagreatdoor", sum := "e207fbbad15d8dda5251b771d36ae4c23503c2b672032be7ef47745b0f97883e", func := "ballast/ballastlaw19.StratLevels", spec := "stratLevels", inPlace := ["math.Float64frombits", "internal/bytealg.IndexByteString", "internal/bytealg.IndexString", "math.Float64bits"], unfollowed := true, recurses := true, named := ["unicode/utf8.first", "unicode/utf8.acceptRanges", "internal/bytealg.MaxLen"], apart := false, laid := [("unicode/utf8.acceptRanges", laid_unicode_utf8_acceptRanges), ("unicode/utf8.first", laid_unicode_utf8_first)], narrowed := true }
def StratLevelsUptoSaid : Prop := stratLevelsUptoRow.holds Tryz.pinned (OpenSpec.upto stratLevelsSpec)

/-- 'ballastlaw19.StratTwins', WHERE WHAT IT READS IS OF BULK AT MOST 1048576: true; the input reads as it did. -/
def stratTwinsUptoRow : OpenClaim := { program := "ythlhlfiklmmenaagreatdoor", sum := "e207fbbad15d8dda5251b771d36ae4c23503c2b672032be7ef47745b0f97883e", func := "ballast/ballastlaw19.StratTwins", spec := "stratTwins", inPlace := ["math.Float64frombits", "internal/bytealg.IndexByteString", "internal/bytealg.IndexString", "math.Float64bits"], unfollowed := true, recurses := true, named := ["unicode/utf8.first", "unicode/utf8.acceptRanges", "internal/bytealg.MaxLen"], apart := false, laid := [("unicode/utf8.acceptRanges", laid_unicode_utf8_acceptRanges), ("unicode/utf8.first", laid_unicode_utf8_first)], narrowed := true }
def StratTwinsUptoSaid : Prop := stratTwinsUptoRow.holds Tryz.pinned (OpenSpec.upto stratTwinsSpec)

/-- 'ballastlaw19.StratTaint', WHERE WHAT IT READS IS OF BULK AT MOST 1048576: true; the input reads as it did. -/
def stratTaintUptoRow : OpenClaim := { program := "ythlhlfiklmmenaagreatdoor", sum := "e207fbbad15d8dda5251b771d36ae4c23503c2b672032be7ef47745b0f97883e", func := "ballast/ballastlaw19.StratTaint", spec := "stratTaint", inPlace := ["math.Float64frombits", "internal/bytealg.IndexByteString", "internal/bytealg.IndexString", "math.Float64bits"], unfollowed := true, recurses := true, named := ["unicode/utf8.first", "unicode/utf8.acceptRanges", "internal/bytealg.MaxLen"], apart := false, laid := [("unicode/utf8.acceptRanges", laid_unicode_utf8_acceptRanges), ("unicode/utf8.first", laid_unicode_utf8_first)], narrowed := true }
def StratTaintUptoSaid : Prop := stratTaintUptoRow.holds Tryz.pinned (OpenSpec.upto stratTaintSpec)

/-- 'ballastlaw21.MoveBack', WHERE WHAT IT READS IS OF BULK AT MOST 1048576: true; the input reads as it did. -/
def moveBackUptoRow : OpenClaim := { program := "ythlhlfiklmmenaagreatdoor", sum := "e207fbbad15d8dda5251b771d36ae4c23503c2b672032be7ef47745b0f97883e", func := "ballast/ballastlaw21.MoveBack", spec := "moveBack", inPlace := ["internal/bytealg.IndexByteString", "internal/bytealg.IndexString", "internal/bytealg.CountString"], unfollowed := true, recurses := true, named := ["unicode/utf8.first", "unicode/utf8.acceptRanges", "internal/bytealg.MaxLen"], apart := false, laid := [("unicode/utf8.acceptRanges", laid_unicode_utf8_acceptRanges), ("unicode/utf8.first", laid_unicode_utf8_first)], narrowed := true }
def MoveBackUptoSaid : Prop := moveBackUptoRow.holds Tryz.pinned (OpenSpec.upto moveBackSpec)

/-- 'ballastlaw21.MoveFloors', WHERE WHAT IT READS IS OF BULK AT MOST 1048576: true; the input reads as it did. -/
def moveFloorsUptoRow : OpenClaim := { program := "ythlhlfiklmmenaagreatdoor", sum := "e207fbbad15d8dda5251b771d36ae4c23503c2b672032be7ef47745b0f97883e", func := "ballast/ballastlaw21.MoveFloors", spec := "moveFloors", inPlace := ["internal/bytealg.IndexByteString", "internal/bytealg.IndexString", "internal/bytealg.CountString"], unfollowed := true, recurses := true, named := ["unicode/utf8.first", "unicode/utf8.acceptRanges", "internal/bytealg.MaxLen"], apart := false, laid := [("unicode/utf8.acceptRanges", laid_unicode_utf8_acceptRanges), ("unicode/utf8.first", laid_unicode_utf8_first)], narrowed := true }
def MoveFloorsUptoSaid : Prop := moveFloorsUptoRow.holds Tryz.pinned (OpenSpec.upto moveFloorsSpec)

/-- 'ballastlaw21.MoveTwo', WHERE WHAT IT READS IS OF BULK AT MOST 1048576: true; the input reads as it did. -/
def moveTwoUptoRow : OpenClaim := { program := "ythlhlfiklmmenaagreatdoor", sum := "e207fbbad15d8dda5251b771d36ae4c23503c2b672032be7ef47745b0f97883e", func := "ballast/ballastlaw21.MoveTwo", spec := "moveTwo", inPlace := ["internal/bytealg.IndexByteString", "internal/bytealg.IndexString", "internal/bytealg.CountString"], unfollowed := true, recurses := true, named := ["unicode/utf8.first", "unicode/utf8.acceptRanges", "internal/bytealg.MaxLen"], apart := false, laid := [("unicode/utf8.acceptRanges", laid_unicode_utf8_acceptRanges), ("unicode/utf8.first", laid_unicode_utf8_first)], narrowed := true }
def MoveTwoUptoSaid : Prop := moveTwoUptoRow.holds Tryz.pinned (OpenSpec.upto moveTwoSpec)

/-- 'ballastlaw21.MoveAny', WHERE WHAT IT READS IS OF BULK AT MOST 1048576: true; the input reads as it did. -/
def moveAnyUptoRow : OpenClaim := { program := "ythlhlfiklmmenaagreatdoor", sum := "e207fbbad15d8dda5251b771d36ae4c23503c2b672032be7ef47745b0f97883e", func := "ballast/ballastlaw21.MoveAny", spec := "moveAny", inPlace := ["internal/bytealg.IndexByteString", "internal/bytealg.IndexString", "internal/bytealg.CountString"], unfollowed := true, recurses := true, named := ["unicode/utf8.first", "unicode/utf8.acceptRanges", "internal/bytealg.MaxLen"], apart := false, laid := [("unicode/utf8.acceptRanges", laid_unicode_utf8_acceptRanges), ("unicode/utf8.first", laid_unicode_utf8_first)], narrowed := true }
def MoveAnyUptoSaid : Prop := moveAnyUptoRow.holds Tryz.pinned (OpenSpec.upto moveAnySpec)

end Rows
end Go.Proofs.YthlhlfiklmmenaaGreatDoor
