/-
  NARROWER THAN 'FOR EVERY INPUT', by the rows' own cells (each row's printed sentence says how): FitAny: laid · FitLess: laid · FitCordon: laid · FitStays: laid · StateAny: laid · StateChanges: laid · StateTwo: laid · StateRoom: laid · StateFull: laid · StateTotals: laid · StatePuts: laid · FitSound: laid.
  DERIVED. THE GIVEN ROWS OF THIS SEAT. 12 by the template 'for every input the law returns true; each argument reads behind the call as it read before'; 0 by the template 'total and deterministic' (their statements: YtjoblbpgpmknmaaGreatDoorTotals.lean).
  GIVEN WITH THE SEED: the statements are not yours to turn. If you find one false, say at which input.
  Laid BY PROGRAM, IN A SANDBOX (cutbox-rows.mjs): the forced cells as the released guide's own fill.sh prints them over the translation c5c132d5eb5b1246… (all of the seat's roots in one cut). By AI agents, Wed Nov 11 2026. No macro, syntax, notation, axiom, sorry.
-/
import Derived.Test.YtjoblbpgpmknmaaGreatDoorChecked
import GoSem.PinnedTables
import GoSem.Claim
import GoSem.ClaimJoined
import GoSem.ClaimMapViews
import Derived.JoinedTies
import Derived.KernelRfl
namespace Go.Proofs.YtjoblbpgpmknmaaGreatDoor
/- THE CELL 'sum', in the pinned program and in every row, IS THE sha256 OF THE DUMP (.gsa) THAT YtjoblbpgpmknmaaGreatDoorProg.lean LOADS. Nothing in Lean hashes anything: it is a label: what it is worth is what the hold of that sum in a sandbox is worth. -/
noncomputable def Tryz.pinned : Pinned := { name := "ytjoblbpgpmknmaagreatdoor", sum := "c5c132d5eb5b1246a5cde5caf93f24f0dae5c6981b6a8a3eaaa33d7ddd4f43c3", checked := Tryz.checked }
namespace Rows
def none {H : Type} : Left H := { results := [], args := [] }

/- WHAT THE LISTED PACKAGE-LEVEL VARIABLES READ AS WHEN THE CALL BEGINS. Each datum BY PROGRAM (the guide's laid-datum.mjs) off the statement by which the dump's own 'gosem.cut.vars' lays the variable. In a bare row this is a premise. The card (YtjoblbpgpmknmaaGreatDoorCards.lean) ties it to the program's text. -/
def laid_unicode_utf8_acceptRanges {H : Type} : DataW H := .agg [.agg [.lit (.int .u8 128), .lit (.int .u8 191)], .agg [.lit (.int .u8 160), .lit (.int .u8 191)], .agg [.lit (.int .u8 128), .lit (.int .u8 159)], .agg [.lit (.int .u8 144), .lit (.int .u8 191)], .agg [.lit (.int .u8 128), .lit (.int .u8 143)], .agg [.lit (.int .u8 0), .lit (.int .u8 0)], .agg [.lit (.int .u8 0), .lit (.int .u8 0)], .agg [.lit (.int .u8 0), .lit (.int .u8 0)], .agg [.lit (.int .u8 0), .lit (.int .u8 0)], .agg [.lit (.int .u8 0), .lit (.int .u8 0)], .agg [.lit (.int .u8 0), .lit (.int .u8 0)], .agg [.lit (.int .u8 0), .lit (.int .u8 0)], .agg [.lit (.int .u8 0), .lit (.int .u8 0)], .agg [.lit (.int .u8 0), .lit (.int .u8 0)], .agg [.lit (.int .u8 0), .lit (.int .u8 0)], .agg [.lit (.int .u8 0), .lit (.int .u8 0)]]
/-- One of Go's own tables, pinned by name: the form's constant. -/
def laid_unicode_utf8_first : DataW Unit := Go.Pinned.utf8First

/-- 'ballastlaw12.FitAny': WHATEVER THE INPUT: true; the input reads as it did. -/
def fitAnySpec : ChangeSpec := { name := "fitAny", fn := fun _ => fun
  | [d1, d2, d3] => { results := [.lit (.bool true)], args := [d1, d2, d3] }
  | _ => none }
def fitAnyRow : OpenClaim := { program := "ytjoblbpgpmknmaagreatdoor", sum := "c5c132d5eb5b1246a5cde5caf93f24f0dae5c6981b6a8a3eaaa33d7ddd4f43c3", func := "ballast/ballastlaw12.FitAny", spec := "fitAny", inPlace := ["internal/bytealg.IndexByteString", "internal/bytealg.IndexString"], unfollowed := true, recurses := true, named := ["unicode/utf8.first", "unicode/utf8.acceptRanges", "internal/bytealg.MaxLen"], apart := false, laid := [("unicode/utf8.acceptRanges", laid_unicode_utf8_acceptRanges), ("unicode/utf8.first", laid_unicode_utf8_first)] }
def FitAnySaid : Prop := fitAnyRow.holds Tryz.pinned (OpenSpec.ofChange fitAnySpec)

/-- ITS FALSE NEIGHBOUR: 'it returns false'. Refute it at one input. -/
def fitAnyWrong : ChangeSpec := { name := "fitAny", fn := fun _ => fun
  | [d1, d2, d3] => { results := [.lit (.bool false)], args := [d1, d2, d3] }
  | _ => none }
def FitAnyWrongFalsely : Prop := fitAnyRow.holds Tryz.pinned (OpenSpec.ofChange fitAnyWrong)

/-- 'ballastlaw12.FitLess': WHATEVER THE INPUT: true; the input reads as it did. -/
def fitLessSpec : ChangeSpec := { name := "fitLess", fn := fun _ => fun
  | [d1, d2, d3] => { results := [.lit (.bool true)], args := [d1, d2, d3] }
  | _ => none }
def fitLessRow : OpenClaim := { program := "ytjoblbpgpmknmaagreatdoor", sum := "c5c132d5eb5b1246a5cde5caf93f24f0dae5c6981b6a8a3eaaa33d7ddd4f43c3", func := "ballast/ballastlaw12.FitLess", spec := "fitLess", inPlace := ["internal/bytealg.IndexByteString", "internal/bytealg.IndexString"], unfollowed := true, recurses := true, named := ["unicode/utf8.first", "unicode/utf8.acceptRanges", "internal/bytealg.MaxLen"], apart := false, laid := [("unicode/utf8.acceptRanges", laid_unicode_utf8_acceptRanges), ("unicode/utf8.first", laid_unicode_utf8_first)] }
def FitLessSaid : Prop := fitLessRow.holds Tryz.pinned (OpenSpec.ofChange fitLessSpec)

/-- ITS FALSE NEIGHBOUR: 'it returns false'. Refute it at one input. -/
def fitLessWrong : ChangeSpec := { name := "fitLess", fn := fun _ => fun
  | [d1, d2, d3] => { results := [.lit (.bool false)], args := [d1, d2, d3] }
  | _ => none }
def FitLessWrongFalsely : Prop := fitLessRow.holds Tryz.pinned (OpenSpec.ofChange fitLessWrong)

/-- 'ballastlaw12.FitCordon': WHATEVER THE INPUT: true; the input reads as it did. -/
def fitCordonSpec : ChangeSpec := { name := "fitCordon", fn := fun _ => fun
  | [d1, d2, d3] => { results := [.lit (.bool true)], args := [d1, d2, d3] }
  | _ => none }
def fitCordonRow : OpenClaim := { program := "ytjoblbpgpmknmaagreatdoor", sum := "c5c132d5eb5b1246a5cde5caf93f24f0dae5c6981b6a8a3eaaa33d7ddd4f43c3", func := "ballast/ballastlaw12.FitCordon", spec := "fitCordon", inPlace := ["internal/bytealg.IndexByteString", "internal/bytealg.IndexString"], unfollowed := true, recurses := true, named := ["unicode/utf8.first", "unicode/utf8.acceptRanges", "internal/bytealg.MaxLen"], apart := false, laid := [("unicode/utf8.acceptRanges", laid_unicode_utf8_acceptRanges), ("unicode/utf8.first", laid_unicode_utf8_first)] }
def FitCordonSaid : Prop := fitCordonRow.holds Tryz.pinned (OpenSpec.ofChange fitCordonSpec)

/-- ITS FALSE NEIGHBOUR: 'it returns false'. Refute it at one input. -/
def fitCordonWrong : ChangeSpec := { name := "fitCordon", fn := fun _ => fun
  | [d1, d2, d3] => { results := [.lit (.bool false)], args := [d1, d2, d3] }
  | _ => none }
def FitCordonWrongFalsely : Prop := fitCordonRow.holds Tryz.pinned (OpenSpec.ofChange fitCordonWrong)

/-- 'ballastlaw12.FitStays': WHATEVER THE INPUT: true; the input reads as it did. -/
def fitStaysSpec : ChangeSpec := { name := "fitStays", fn := fun _ => fun
  | [d] => { results := [.lit (.bool true)], args := [d] }
  | _ => none }
def fitStaysRow : OpenClaim := { program := "ytjoblbpgpmknmaagreatdoor", sum := "c5c132d5eb5b1246a5cde5caf93f24f0dae5c6981b6a8a3eaaa33d7ddd4f43c3", func := "ballast/ballastlaw12.FitStays", spec := "fitStays", inPlace := ["internal/bytealg.IndexByteString", "internal/bytealg.IndexString"], unfollowed := true, recurses := true, named := ["unicode/utf8.first", "unicode/utf8.acceptRanges", "internal/bytealg.MaxLen"], apart := false, laid := [("unicode/utf8.acceptRanges", laid_unicode_utf8_acceptRanges), ("unicode/utf8.first", laid_unicode_utf8_first)] }
def FitStaysSaid : Prop := fitStaysRow.holds Tryz.pinned (OpenSpec.ofChange fitStaysSpec)

/-- ITS FALSE NEIGHBOUR: 'it returns false'. Refute it at one input. -/
def fitStaysWrong : ChangeSpec := { name := "fitStays", fn := fun _ => fun
  | [d] => { results := [.lit (.bool false)], args := [d] }
  | _ => none }
def FitStaysWrongFalsely : Prop := fitStaysRow.holds Tryz.pinned (OpenSpec.ofChange fitStaysWrong)

/-- 'ballastlaw9.StateAny': WHATEVER THE INPUT: true; the input reads as it did. -/
def stateAnySpec : ChangeSpec := { name := "stateAny", fn := fun _ => fun
  | [d1, d2] => { results := [.lit (.bool true)], args := [d1, d2] }
  | _ => none }
def stateAnyRow : OpenClaim := { program := "ytjoblbpgpmknmaagreatdoor", sum := "c5c132d5eb5b1246a5cde5caf93f24f0dae5c6981b6a8a3eaaa33d7ddd4f43c3", func := "ballast/ballastlaw9.StateAny", spec := "stateAny", inPlace := ["internal/bytealg.IndexByteString", "internal/bytealg.IndexString", "internal/bytealg.abigen_runtime_cmpstring", "slices.overlaps[ballast/pod.Pod]"], unfollowed := true, recurses := true, named := ["unicode/utf8.first", "unicode/utf8.acceptRanges", "internal/bytealg.MaxLen"], apart := false, laid := [("unicode/utf8.acceptRanges", laid_unicode_utf8_acceptRanges), ("unicode/utf8.first", laid_unicode_utf8_first)] }
def StateAnySaid : Prop := stateAnyRow.holds Tryz.pinned (OpenSpec.ofChange stateAnySpec)

/-- ITS FALSE NEIGHBOUR: 'it returns false'. Refute it at one input. -/
def stateAnyWrong : ChangeSpec := { name := "stateAny", fn := fun _ => fun
  | [d1, d2] => { results := [.lit (.bool false)], args := [d1, d2] }
  | _ => none }
def StateAnyWrongFalsely : Prop := stateAnyRow.holds Tryz.pinned (OpenSpec.ofChange stateAnyWrong)

/-- 'ballastlaw9.StateChanges': WHATEVER THE INPUT: true; the input reads as it did. -/
def stateChangesSpec : ChangeSpec := { name := "stateChanges", fn := fun _ => fun
  | [d1, d2, d3, d4] => { results := [.lit (.bool true)], args := [d1, d2, d3, d4] }
  | _ => none }
def stateChangesRow : OpenClaim := { program := "ytjoblbpgpmknmaagreatdoor", sum := "c5c132d5eb5b1246a5cde5caf93f24f0dae5c6981b6a8a3eaaa33d7ddd4f43c3", func := "ballast/ballastlaw9.StateChanges", spec := "stateChanges", inPlace := ["internal/bytealg.IndexByteString", "internal/bytealg.IndexString", "internal/bytealg.abigen_runtime_cmpstring", "slices.overlaps[ballast/pod.Pod]"], unfollowed := true, recurses := true, named := ["unicode/utf8.first", "unicode/utf8.acceptRanges", "internal/bytealg.MaxLen"], apart := false, laid := [("unicode/utf8.acceptRanges", laid_unicode_utf8_acceptRanges), ("unicode/utf8.first", laid_unicode_utf8_first)] }
def StateChangesSaid : Prop := stateChangesRow.holds Tryz.pinned (OpenSpec.ofChange stateChangesSpec)

/-- ITS FALSE NEIGHBOUR: 'it returns false'. Refute it at one input. -/
def stateChangesWrong : ChangeSpec := { name := "stateChanges", fn := fun _ => fun
  | [d1, d2, d3, d4] => { results := [.lit (.bool false)], args := [d1, d2, d3, d4] }
  | _ => none }
def StateChangesWrongFalsely : Prop := stateChangesRow.holds Tryz.pinned (OpenSpec.ofChange stateChangesWrong)

/-- 'ballastlaw9.StateTwo': WHATEVER THE INPUT: true; the input reads as it did. -/
def stateTwoSpec : ChangeSpec := { name := "stateTwo", fn := fun _ => fun
  | [d1, d2] => { results := [.lit (.bool true)], args := [d1, d2] }
  | _ => none }
def stateTwoRow : OpenClaim := { program := "ytjoblbpgpmknmaagreatdoor", sum := "c5c132d5eb5b1246a5cde5caf93f24f0dae5c6981b6a8a3eaaa33d7ddd4f43c3", func := "ballast/ballastlaw9.StateTwo", spec := "stateTwo", inPlace := ["internal/bytealg.IndexByteString", "internal/bytealg.IndexString", "internal/bytealg.abigen_runtime_cmpstring", "slices.overlaps[ballast/pod.Pod]"], unfollowed := true, recurses := true, named := ["unicode/utf8.first", "unicode/utf8.acceptRanges", "internal/bytealg.MaxLen"], apart := false, laid := [("unicode/utf8.acceptRanges", laid_unicode_utf8_acceptRanges), ("unicode/utf8.first", laid_unicode_utf8_first)] }
def StateTwoSaid : Prop := stateTwoRow.holds Tryz.pinned (OpenSpec.ofChange stateTwoSpec)

/-- ITS FALSE NEIGHBOUR: 'it returns false'. Refute it at one input. -/
def stateTwoWrong : ChangeSpec := { name := "stateTwo", fn := fun _ => fun
  | [d1, d2] => { results := [.lit (.bool false)], args := [d1, d2] }
  | _ => none }
def StateTwoWrongFalsely : Prop := stateTwoRow.holds Tryz.pinned (OpenSpec.ofChange stateTwoWrong)

/-- 'ballastlaw9.StateRoom': WHATEVER THE INPUT: true; the input reads as it did. -/
def stateRoomSpec : ChangeSpec := { name := "stateRoom", fn := fun _ => fun
  | [d1, d2, d3] => { results := [.lit (.bool true)], args := [d1, d2, d3] }
  | _ => none }
def stateRoomRow : OpenClaim := { program := "ytjoblbpgpmknmaagreatdoor", sum := "c5c132d5eb5b1246a5cde5caf93f24f0dae5c6981b6a8a3eaaa33d7ddd4f43c3", func := "ballast/ballastlaw9.StateRoom", spec := "stateRoom", inPlace := ["internal/bytealg.IndexByteString", "internal/bytealg.IndexString", "internal/bytealg.abigen_runtime_cmpstring", "slices.overlaps[ballast/pod.Pod]"], unfollowed := true, recurses := true, named := ["unicode/utf8.first", "unicode/utf8.acceptRanges", "internal/bytealg.MaxLen"], apart := false, laid := [("unicode/utf8.acceptRanges", laid_unicode_utf8_acceptRanges), ("unicode/utf8.first", laid_unicode_utf8_first)] }
def StateRoomSaid : Prop := stateRoomRow.holds Tryz.pinned (OpenSpec.ofChange stateRoomSpec)

/-- ITS FALSE NEIGHBOUR: 'it returns false'. Refute it at one input. -/
def stateRoomWrong : ChangeSpec := { name := "stateRoom", fn := fun _ => fun
  | [d1, d2, d3] => { results := [.lit (.bool false)], args := [d1, d2, d3] }
  | _ => none }
def StateRoomWrongFalsely : Prop := stateRoomRow.holds Tryz.pinned (OpenSpec.ofChange stateRoomWrong)

/-- 'ballastlaw9.StateFull': WHATEVER THE INPUT: true; the input reads as it did. -/
def stateFullSpec : ChangeSpec := { name := "stateFull", fn := fun _ => fun
  | [d1, d2] => { results := [.lit (.bool true)], args := [d1, d2] }
  | _ => none }
def stateFullRow : OpenClaim := { program := "ytjoblbpgpmknmaagreatdoor", sum := "c5c132d5eb5b1246a5cde5caf93f24f0dae5c6981b6a8a3eaaa33d7ddd4f43c3", func := "ballast/ballastlaw9.StateFull", spec := "stateFull", inPlace := ["internal/bytealg.IndexByteString", "internal/bytealg.IndexString", "internal/bytealg.abigen_runtime_cmpstring", "slices.overlaps[ballast/pod.Pod]"], unfollowed := true, recurses := true, named := ["unicode/utf8.first", "unicode/utf8.acceptRanges", "internal/bytealg.MaxLen"], apart := false, laid := [("unicode/utf8.acceptRanges", laid_unicode_utf8_acceptRanges), ("unicode/utf8.first", laid_unicode_utf8_first)] }
def StateFullSaid : Prop := stateFullRow.holds Tryz.pinned (OpenSpec.ofChange stateFullSpec)

/-- ITS FALSE NEIGHBOUR: 'it returns false'. Refute it at one input. -/
def stateFullWrong : ChangeSpec := { name := "stateFull", fn := fun _ => fun
  | [d1, d2] => { results := [.lit (.bool false)], args := [d1, d2] }
  | _ => none }
def StateFullWrongFalsely : Prop := stateFullRow.holds Tryz.pinned (OpenSpec.ofChange stateFullWrong)

/-- 'ballastlaw9.StateTotals': WHATEVER THE INPUT: true; the input reads as it did. -/
def stateTotalsSpec : ChangeSpec := { name := "stateTotals", fn := fun _ => fun
  | [d1, d2] => { results := [.lit (.bool true)], args := [d1, d2] }
  | _ => none }
def stateTotalsRow : OpenClaim := { program := "ytjoblbpgpmknmaagreatdoor", sum := "c5c132d5eb5b1246a5cde5caf93f24f0dae5c6981b6a8a3eaaa33d7ddd4f43c3", func := "ballast/ballastlaw9.StateTotals", spec := "stateTotals", inPlace := ["internal/bytealg.IndexByteString", "internal/bytealg.IndexString", "internal/bytealg.abigen_runtime_cmpstring", "slices.overlaps[ballast/pod.Pod]"], unfollowed := true, recurses := true, named := ["unicode/utf8.first", "unicode/utf8.acceptRanges", "internal/bytealg.MaxLen"], apart := false, laid := [("unicode/utf8.acceptRanges", laid_unicode_utf8_acceptRanges), ("unicode/utf8.first", laid_unicode_utf8_first)] }
def StateTotalsSaid : Prop := stateTotalsRow.holds Tryz.pinned (OpenSpec.ofChange stateTotalsSpec)

/-- ITS FALSE NEIGHBOUR: 'it returns false'. Refute it at one input. -/
def stateTotalsWrong : ChangeSpec := { name := "stateTotals", fn := fun _ => fun
  | [d1, d2] => { results := [.lit (.bool false)], args := [d1, d2] }
  | _ => none }
def StateTotalsWrongFalsely : Prop := stateTotalsRow.holds Tryz.pinned (OpenSpec.ofChange stateTotalsWrong)

/-- 'ballastlaw9.StatePuts': WHATEVER THE INPUT: true; the input reads as it did. -/
def statePutsSpec : ChangeSpec := { name := "statePuts", fn := fun _ => fun
  | [d1, d2] => { results := [.lit (.bool true)], args := [d1, d2] }
  | _ => none }
def statePutsRow : OpenClaim := { program := "ytjoblbpgpmknmaagreatdoor", sum := "c5c132d5eb5b1246a5cde5caf93f24f0dae5c6981b6a8a3eaaa33d7ddd4f43c3", func := "ballast/ballastlaw9.StatePuts", spec := "statePuts", inPlace := ["internal/bytealg.IndexByteString", "internal/bytealg.IndexString", "internal/bytealg.abigen_runtime_cmpstring", "slices.overlaps[ballast/pod.Pod]"], unfollowed := true, recurses := true, named := ["unicode/utf8.first", "unicode/utf8.acceptRanges", "internal/bytealg.MaxLen"], apart := false, laid := [("unicode/utf8.acceptRanges", laid_unicode_utf8_acceptRanges), ("unicode/utf8.first", laid_unicode_utf8_first)] }
def StatePutsSaid : Prop := statePutsRow.holds Tryz.pinned (OpenSpec.ofChange statePutsSpec)

/-- ITS FALSE NEIGHBOUR: 'it returns false'. Refute it at one input. -/
def statePutsWrong : ChangeSpec := { name := "statePuts", fn := fun _ => fun
  | [d1, d2] => { results := [.lit (.bool false)], args := [d1, d2] }
  | _ => none }
def StatePutsWrongFalsely : Prop := statePutsRow.holds Tryz.pinned (OpenSpec.ofChange statePutsWrong)

/-- 'ballastlaw12.FitSound': WHATEVER THE INPUT: true; the input reads as it did. -/
def fitSoundSpec : ChangeSpec := { name := "fitSound", fn := fun _ => fun
  | [d1, d2] => { results := [.lit (.bool true)], args := [d1, d2] }
  | _ => none }
def fitSoundRow : OpenClaim := { program := "ytjoblbpgpmknmaagreatdoor", sum := "c5c132d5eb5b1246a5cde5caf93f24f0dae5c6981b6a8a3eaaa33d7ddd4f43c3", func := "ballast/ballastlaw12.FitSound", spec := "fitSound", inPlace := ["internal/bytealg.IndexByteString", "internal/bytealg.IndexString", "internal/bytealg.abigen_runtime_cmpstring", "slices.overlaps[ballast/pod.Pod]"], unfollowed := true, recurses := true, named := ["unicode/utf8.first", "unicode/utf8.acceptRanges", "internal/bytealg.MaxLen"], apart := false, laid := [("unicode/utf8.acceptRanges", laid_unicode_utf8_acceptRanges), ("unicode/utf8.first", laid_unicode_utf8_first)] }
def FitSoundSaid : Prop := fitSoundRow.holds Tryz.pinned (OpenSpec.ofChange fitSoundSpec)

/-- ITS FALSE NEIGHBOUR: 'it returns false'. Refute it at one input. -/
def fitSoundWrong : ChangeSpec := { name := "fitSound", fn := fun _ => fun
  | [d1, d2] => { results := [.lit (.bool false)], args := [d1, d2] }
  | _ => none }
def FitSoundWrongFalsely : Prop := fitSoundRow.holds Tryz.pinned (OpenSpec.ofChange fitSoundWrong)

/- THE SECOND FORM. 'bulk': how many values and letters a reading holds, each counted each time it is reached (what is shared counts as often as it is met; a slice's spare places count too). A statement '..UptoSaid' is the law's where the arguments, and the package variables that the reading takes, are together of bulk at most 1048576: NARROWER than '..Said'. Prove '..Said' where nothing that the law and all that it calls make is longer than what came in: it says more and counts as full. Else prove '..UptoSaid'. A law counts once. -/
mutual
def uptoBulk {H : Type} : DataW H → Nat
  | .lit (.string bytes) => bytes.length + 1
  | .lit _ => 1
  | .nil => 1
  | .ptr d => uptoBulk d + 1
  | .slice elems spare => uptoBulkAll elems + uptoBulkAll spare + 1
  | .agg parts => uptoBulkAll parts + 1
  | .iface _ d => uptoBulk d + 1
  | .map entries => uptoBulkEntries entries + 1
  | .held _ => 1
def uptoBulkAll {H : Type} : List (DataW H) → Nat
  | [] => 0
  | d :: r => uptoBulk d + uptoBulkAll r
def uptoBulkEntries {H : Type} : List (Lit × DataW H) → Nat
  | [] => 0
  | x :: r => uptoBulkEntry x + uptoBulkEntries r
def uptoBulkEntry {H : Type} : Lit × DataW H → Nat
  | (.string bytes, d) => bytes.length + uptoBulk d + 1
  | (_, d) => uptoBulk d + 1
 end
def uptoSmall : (H : Type) → List (DataW H) → Bool := fun _ ds => decide (uptoBulkAll ds ≤ 1048576)
def OpenSpec.upto (s : _root_.Go.ChangeSpec) : _root_.Go.OpenSpec := { _root_.Go.OpenSpec.ofChange s with cond := some uptoSmall }

/-- 'ballastlaw12.FitAny', WHERE WHAT IT READS IS OF BULK AT MOST 1048576: true; the input reads as it did. -/
def fitAnyUptoRow : OpenClaim := { program := "ytjoblbpgpmknmaagreatdoor", sum := "c5c132d5eb5b1246a5cde5caf93f24f0dae5c6981b6a8a3eaaa33d7ddd4f43c3", func := "ballast/ballastlaw12.FitAny", spec := "fitAny", inPlace := ["internal/bytealg.IndexByteString", "internal/bytealg.IndexString"], unfollowed := true, recurses := true, named := ["unicode/utf8.first", "unicode/utf8.acceptRanges", "internal/bytealg.MaxLen"], apart := false, laid := [("unicode/utf8.acceptRanges", laid_unicode_utf8_acceptRanges), ("unicode/utf8.first", laid_unicode_utf8_first)], narrowed := true }
def FitAnyUptoSaid : Prop := fitAnyUptoRow.holds Tryz.pinned (OpenSpec.upto fitAnySpec)

/-- 'ballastlaw12.FitLess', WHERE WHAT IT READS IS OF BULK AT MOST 1048576: true; the input reads as it did. -/
def fitLessUptoRow : OpenClaim := { program := "ytjoblbpgpmknmaagreatdoor", sum := "c5c132d5eb5b1246a5cde5caf93f24f0dae5c6981b6a8a3eaaa33d7ddd4f43c3", func := "ballast/ballastlaw12.FitLess", spec := "fitLess", inPlace := ["internal/bytealg.IndexByteString", "internal/bytealg.IndexString"], unfollowed := true, recurses := true, named := ["unicode/utf8.first", "unicode/utf8.acceptRanges", "internal/bytealg.MaxLen"], apart := false, laid := [("unicode/utf8.acceptRanges", laid_unicode_utf8_acceptRanges), ("unicode/utf8.first", laid_unicode_utf8_first)], narrowed := true }
def FitLessUptoSaid : Prop := fitLessUptoRow.holds Tryz.pinned (OpenSpec.upto fitLessSpec)

/-- 'ballastlaw12.FitCordon', WHERE WHAT IT READS IS OF BULK AT MOST 1048576: true; the input reads as it did. -/
def fitCordonUptoRow : OpenClaim := { program := "ytjoblbpgpmknmaagreatdoor", sum := "c5c132d5eb5b1246a5cde5caf93f24f0dae5c6981b6a8a3eaaa33d7ddd4f43c3", func := "ballast/ballastlaw12.FitCordon", spec := "fitCordon", inPlace := ["internal/bytealg.IndexByteString", "internal/bytealg.IndexString"], unfollowed := true, recurses := true, named := ["unicode/utf8.first", "unicode/utf8.acceptRanges", "internal/bytealg.MaxLen"], apart := false, laid := [("unicode/utf8.acceptRanges", laid_unicode_utf8_acceptRanges), ("unicode/utf8.first", laid_unicode_utf8_first)], narrowed := true }
def FitCordonUptoSaid : Prop := fitCordonUptoRow.holds Tryz.pinned (OpenSpec.upto fitCordonSpec)

/-- 'ballastlaw12.FitStays', WHERE WHAT IT READS IS OF BULK AT MOST 1048576: true; the input reads as it did. -/
def fitStaysUptoRow : OpenClaim := { program := "ytjoblbpgpmknmaagreatdoor", sum := "c5c132d5eb5b1246a5cde5caf93f24f0dae5c6981b6a8a3eaaa33d7ddd4f43c3", func := "ballast/ballastlaw12.FitStays", spec := "fitStays", inPlace := ["internal/bytealg.IndexByteString", "internal/bytealg.IndexString"], unfollowed := true, recurses := true, named := ["unicode/utf8.first", "unicode/utf8.acceptRanges", "internal/bytealg.MaxLen"], apart := false, laid := [("unicode/utf8.acceptRanges", laid_unicode_utf8_acceptRanges), ("unicode/utf8.first", laid_unicode_utf8_first)], narrowed := true }
def FitStaysUptoSaid : Prop := fitStaysUptoRow.holds Tryz.pinned (OpenSpec.upto fitStaysSpec)

/-- 'ballastlaw9.StateAny', WHERE WHAT IT READS IS OF BULK AT MOST 1048576: true; the input reads as it did. -/
def stateAnyUptoRow : OpenClaim := { program := "ytjoblbpgpmknmaagreatdoor", sum := "c5c132d5eb5b1246a5cde5caf93f24f0dae5c6981b6a8a3eaaa33d7ddd4f43c3", func := "ballast/ballastlaw9.StateAny", spec := "stateAny", inPlace := ["internal/bytealg.IndexByteString", "internal/bytealg.IndexString", "internal/bytealg.abigen_runtime_cmpstring", "slices.overlaps[ballast/pod.Pod]"], unfollowed := true, recurses := true, named := ["unicode/utf8.first", "unicode/utf8.acceptRanges", "internal/bytealg.MaxLen"], apart := false, laid := [("unicode/utf8.acceptRanges", laid_unicode_utf8_acceptRanges), ("unicode/utf8.first", laid_unicode_utf8_first)], narrowed := true }
def StateAnyUptoSaid : Prop := stateAnyUptoRow.holds Tryz.pinned (OpenSpec.upto stateAnySpec)

/-- 'ballastlaw9.StateChanges', WHERE WHAT IT READS IS OF BULK AT MOST 1048576: true; the input reads as it did. -/
def stateChangesUptoRow : OpenClaim := { program := "ytjoblbpgpmknmaagreatdoor", sum := "c5c132d5eb5b1246a5cde5caf93f24f0dae5c6981b6a8a3eaaa33d7ddd4f43c3", func := "ballast/ballastlaw9.StateChanges", spec := "stateChanges", inPlace := ["internal/bytealg.IndexByteString", "internal/bytealg.IndexString", "internal/bytealg.abigen_runtime_cmpstring", "slices.overlaps[ballast/pod.Pod]"], unfollowed := true, recurses := true, named := ["unicode/utf8.first", "unicode/utf8.acceptRanges", "internal/bytealg.MaxLen"], apart := false, laid := [("unicode/utf8.acceptRanges", laid_unicode_utf8_acceptRanges), ("unicode/utf8.first", laid_unicode_utf8_first)], narrowed := true }
def StateChangesUptoSaid : Prop := stateChangesUptoRow.holds Tryz.pinned (OpenSpec.upto stateChangesSpec)

/-- 'ballastlaw9.StateTwo', WHERE WHAT IT READS IS OF BULK AT MOST 1048576: true; the input reads as it did. -/
def stateTwoUptoRow : OpenClaim := { program := "ytjoblbpgpmknmaagreatdoor", sum := "c5c132d5eb5b1246a5cde5caf93f24f0dae5c6981b6a8a3eaaa33d7ddd4f43c3", func := "ballast/ballastlaw9.StateTwo", spec := "stateTwo", inPlace := ["internal/bytealg.IndexByteString", "internal/bytealg.IndexString", "internal/bytealg.abigen_runtime_cmpstring", "slices.overlaps[ballast/pod.Pod]"], unfollowed := true, recurses := true, named := ["unicode/utf8.first", "unicode/utf8.acceptRanges", "internal/bytealg.MaxLen"], apart := false, laid := [("unicode/utf8.acceptRanges", laid_unicode_utf8_acceptRanges), ("unicode/utf8.first", laid_unicode_utf8_first)], narrowed := true }
def StateTwoUptoSaid : Prop := stateTwoUptoRow.holds Tryz.pinned (OpenSpec.upto stateTwoSpec)

/-- 'ballastlaw9.StateRoom', WHERE WHAT IT READS IS OF BULK AT MOST 1048576: true; the input reads as it did. -/
def stateRoomUptoRow : OpenClaim := { program := "ytjoblbpgpmknmaagreatdoor", sum := "c5c132d5eb5b1246a5cde5caf93f24f0dae5c6981b6a8a3eaaa33d7ddd4f43c3", func := "ballast/ballastlaw9.StateRoom", spec := "stateRoom", inPlace := ["internal/bytealg.IndexByteString", "internal/bytealg.IndexString", "internal/bytealg.abigen_runtime_cmpstring", "slices.overlaps[ballast/pod.Pod]"], unfollowed := true, recurses := true, named := ["unicode/utf8.first", "unicode/utf8.acceptRanges", "internal/bytealg.MaxLen"], apart := false, laid := [("unicode/utf8.acceptRanges", laid_unicode_utf8_acceptRanges), ("unicode/utf8.first", laid_unicode_utf8_first)], narrowed := true }
def StateRoomUptoSaid : Prop := stateRoomUptoRow.holds Tryz.pinned (OpenSpec.upto stateRoomSpec)

/-- 'ballastlaw9.StateFull', WHERE WHAT IT READS IS OF BULK AT MOST 1048576: true; the input reads as it did. -/
def stateFullUptoRow : OpenClaim := { program := "ytjoblbpgpmknmaagreatdoor", sum := "c5c132d5eb5b1246a5cde5caf93f24f0dae5c6981b6a8a3eaaa33d7ddd4f43c3", func := "ballast/ballastlaw9.StateFull", spec := "stateFull", inPlace := ["internal/bytealg.IndexByteString", "internal/bytealg.IndexString", "internal/bytealg.abigen_runtime_cmpstring", "slices.overlaps[ballast/pod.Pod]"], unfollowed := true, recurses := true, named := ["unicode/utf8.first", "unicode/utf8.acceptRanges", "internal/bytealg.MaxLen"], apart := false, laid := [("unicode/utf8.acceptRanges", laid_unicode_utf8_acceptRanges), ("unicode/utf8.first", laid_unicode_utf8_first)], narrowed := true }
def StateFullUptoSaid : Prop := stateFullUptoRow.holds Tryz.pinned (OpenSpec.upto stateFullSpec)

/-- 'ballastlaw9.StateTotals', WHERE WHAT IT READS IS OF BULK AT MOST 1048576: true; the input reads as it did. -/
def stateTotalsUptoRow : OpenClaim := { program := "ytjoblbpgpmknmaagreatdoor", sum := "c5c132d5eb5b1246a5cde5caf93f24f0dae5c6981b6a8a3eaaa33d7ddd4f43c3", func := "ballast/ballastlaw9.StateTotals", spec := "stateTotals", inPlace := ["internal/bytealg.IndexByteString", "internal/bytealg.IndexString", "internal/bytealg.abigen_runtime_cmpstring", "slices.overlaps[ballast/pod.Pod]"], unfollowed := true, recurses := true, named := ["unicode/utf8.first", "unicode/utf8.acceptRanges", "internal/bytealg.MaxLen"], apart := false, laid := [("unicode/utf8.acceptRanges", laid_unicode_utf8_acceptRanges), ("unicode/utf8.first", laid_unicode_utf8_first)], narrowed := true }
def StateTotalsUptoSaid : Prop := stateTotalsUptoRow.holds Tryz.pinned (OpenSpec.upto stateTotalsSpec)

/-- 'ballastlaw9.StatePuts', WHERE WHAT IT READS IS OF BULK AT MOST 1048576: true; the input reads as it did. -/
def statePutsUptoRow : OpenClaim := { program := "ytjoblbpgpmknmaagreatdoor", sum := "c5c132d5eb5b1246a5cde5caf93f24f0dae5c6981b6a8a3eaaa33d7ddd4f43c3", func := "ballast/ballastlaw9.StatePuts", spec := "statePuts", inPlace := ["internal/bytealg.IndexByteString", "internal/bytealg.IndexString", "internal/bytealg.abigen_runtime_cmpstring", "slices.overlaps[ballast/pod.Pod]"], unfollowed := true, recurses := true, named := ["unicode/utf8.first", "unicode/utf8.acceptRanges", "internal/bytealg.MaxLen"], apart := false, laid := [("unicode/utf8.acceptRanges", laid_unicode_utf8_acceptRanges), ("unicode/utf8.first", laid_unicode_utf8_first)], narrowed := true }
def StatePutsUptoSaid : Prop := statePutsUptoRow.holds Tryz.pinned (OpenSpec.upto statePutsSpec)

/-- 'ballastlaw12.FitSound', WHERE WHAT IT READS IS OF BULK AT MOST 1048576: true; the input reads as it did. -/
def fitSoundUptoRow : OpenClaim := { program := "ytjoblbpgpmknmaagreatdoor", sum := "c5c132d5eb5b1246a5cde5caf93f24f0dae5c6981b6a8a3eaaa33d7ddd4f43c3", func := "ballast/ballastlaw12.FitSound", spec := "fitSound", inPlace := ["internal/bytealg.IndexByteString", "internal/bytealg.IndexString", "internal/bytealg.abigen_runtime_cmpstring", "slices.overlaps[ballast/pod.Pod]"], unfollowed := true, recurses := true, named := ["unicode/utf8.first", "unicode/utf8.acceptRanges", "internal/bytealg.MaxLen"], apart := false, laid := [("unicode/utf8.acceptRanges", laid_unicode_utf8_acceptRanges), ("unicode/utf8.first", laid_unicode_utf8_first)], narrowed := true }
def FitSoundUptoSaid : Prop := fitSoundUptoRow.holds Tryz.pinned (OpenSpec.upto fitSoundSpec)

end Rows
end Go.Proofs.YtjoblbpgpmknmaaGreatDoor
