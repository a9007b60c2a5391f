/-
  NARROWER THAN 'FOR EVERY INPUT', by the rows' own cells (each row's printed sentence says how): TaintAny: laid · TaintWords: laid · TaintMore: laid · TaintOrder: laid · TaintEach: laid · LabelAny: laid · LabelWords: laid · LabelTerms: laid · LabelMore: laid · LabelNames: laid.
  DERIVED. THE GIVEN ROWS OF THIS SEAT. 10 by the template 'for every input the law returns true; each argument reads behind the call as it read before'; 0 by the template 'total and deterministic' (their statements: YtmlipdlbeddijaaDoorTotals.lean).
  GIVEN WITH THE SEED: the statements are not yours to turn. If you find one false, say at which input.
  Laid BY PROGRAM, IN A SANDBOX (cutbox-rows.mjs): the forced cells as the released guide's own fill.sh prints them over the translation 1f5349050b79a21b… (all of the seat's roots in one cut). By AI agents, Wed Nov 11 2026. No macro, syntax, notation, axiom, sorry.
-/
import Derived.Test.YtmlipdlbeddijaaDoorChecked
import GoSem.PinnedTables
import GoSem.Claim
import GoSem.ClaimJoined
import GoSem.ClaimMapViews
import Derived.JoinedTies
import Derived.KernelRfl
namespace Go.Proofs.YtmlipdlbeddijaaDoor
/- THE CELL 'sum', in the pinned program and in every row, IS THE sha256 OF THE DUMP (.gsa) THAT YtmlipdlbeddijaaDoorProg.lean LOADS. Nothing in Lean hashes anything: it is a label: what it is worth is what the hold of that sum in a sandbox is worth. -/
noncomputable def Tryd.pinned : Pinned := { name := "ytmlipdlbeddijaadoor", sum := "1f5349050b79a21b9c0f15bdbcb4352ad5481ecfaef6bedc274fca4074d9b6dd", checked := Tryd.checked }
namespace Rows
def none {H : Type} : Left H := { results := [], args := [] }

/- WHAT THE LISTED PACKAGE-LEVEL VARIABLES READ AS WHEN THE CALL BEGINS. Each datum BY PROGRAM (the guide's laid-datum.mjs) off the statement by which the dump's own 'gosem.cut.vars' lays the variable. In a bare row this is a premise. The card (YtmlipdlbeddijaaDoorCards.lean) ties it to the program's text. -/
def laid_unicode_utf8_acceptRanges {H : Type} : DataW H := .agg [.agg [.lit (.int .u8 128), .lit (.int .u8 191)], .agg [.lit (.int .u8 160), .lit (.int .u8 191)], .agg [.lit (.int .u8 128), .lit (.int .u8 159)], .agg [.lit (.int .u8 144), .lit (.int .u8 191)], .agg [.lit (.int .u8 128), .lit (.int .u8 143)], .agg [.lit (.int .u8 0), .lit (.int .u8 0)], .agg [.lit (.int .u8 0), .lit (.int .u8 0)], .agg [.lit (.int .u8 0), .lit (.int .u8 0)], .agg [.lit (.int .u8 0), .lit (.int .u8 0)], .agg [.lit (.int .u8 0), .lit (.int .u8 0)], .agg [.lit (.int .u8 0), .lit (.int .u8 0)], .agg [.lit (.int .u8 0), .lit (.int .u8 0)], .agg [.lit (.int .u8 0), .lit (.int .u8 0)], .agg [.lit (.int .u8 0), .lit (.int .u8 0)], .agg [.lit (.int .u8 0), .lit (.int .u8 0)], .agg [.lit (.int .u8 0), .lit (.int .u8 0)]]
/-- One of Go's own tables, pinned by name: the form's constant. -/
def laid_unicode_utf8_first : DataW Unit := Go.Pinned.utf8First

/-- 'ballastlaw5.TaintAny': WHATEVER THE INPUT: true; the input reads as it did. -/
def taintAnySpec : ChangeSpec := { name := "taintAny", fn := fun _ => fun
  | [d1, d2] => { results := [.lit (.bool true)], args := [d1, d2] }
  | _ => none }
def taintAnyRow : OpenClaim := { program := "ytmlipdlbeddijaadoor", sum := "1f5349050b79a21b9c0f15bdbcb4352ad5481ecfaef6bedc274fca4074d9b6dd", func := "ballast/ballastlaw5.TaintAny", spec := "taintAny", inPlace := ["internal/bytealg.IndexByteString", "internal/bytealg.IndexString", "internal/abi.NoEscape", "internal/bytealg.MakeNoZero"], unfollowed := true, recurses := true, named := ["unicode/utf8.first", "unicode/utf8.acceptRanges", "internal/bytealg.MaxLen"], apart := false, laid := [("unicode/utf8.acceptRanges", laid_unicode_utf8_acceptRanges), ("unicode/utf8.first", laid_unicode_utf8_first)] }
def TaintAnySaid : Prop := taintAnyRow.holds Tryd.pinned (OpenSpec.ofChange taintAnySpec)

/-- ITS FALSE NEIGHBOUR: 'it returns false'. Refute it at one input. -/
def taintAnyWrong : ChangeSpec := { name := "taintAny", fn := fun _ => fun
  | [d1, d2] => { results := [.lit (.bool false)], args := [d1, d2] }
  | _ => none }
def TaintAnyWrongFalsely : Prop := taintAnyRow.holds Tryd.pinned (OpenSpec.ofChange taintAnyWrong)

/-- 'ballastlaw5.TaintWords': WHATEVER THE INPUT: true; the input reads as it did. -/
def taintWordsSpec : ChangeSpec := { name := "taintWords", fn := fun _ => fun
  | [d] => { results := [.lit (.bool true)], args := [d] }
  | _ => none }
def taintWordsRow : OpenClaim := { program := "ytmlipdlbeddijaadoor", sum := "1f5349050b79a21b9c0f15bdbcb4352ad5481ecfaef6bedc274fca4074d9b6dd", func := "ballast/ballastlaw5.TaintWords", spec := "taintWords", inPlace := ["internal/bytealg.IndexByteString", "internal/bytealg.IndexString", "internal/abi.NoEscape", "internal/bytealg.MakeNoZero"], unfollowed := true, recurses := true, named := ["unicode/utf8.first", "unicode/utf8.acceptRanges", "internal/bytealg.MaxLen"], apart := false, laid := [("unicode/utf8.acceptRanges", laid_unicode_utf8_acceptRanges), ("unicode/utf8.first", laid_unicode_utf8_first)] }
def TaintWordsSaid : Prop := taintWordsRow.holds Tryd.pinned (OpenSpec.ofChange taintWordsSpec)

/-- ITS FALSE NEIGHBOUR: 'it returns false'. Refute it at one input. -/
def taintWordsWrong : ChangeSpec := { name := "taintWords", fn := fun _ => fun
  | [d] => { results := [.lit (.bool false)], args := [d] }
  | _ => none }
def TaintWordsWrongFalsely : Prop := taintWordsRow.holds Tryd.pinned (OpenSpec.ofChange taintWordsWrong)

/-- 'ballastlaw5.TaintMore': WHATEVER THE INPUT: true; the input reads as it did. -/
def taintMoreSpec : ChangeSpec := { name := "taintMore", fn := fun _ => fun
  | [d1, d2, d3] => { results := [.lit (.bool true)], args := [d1, d2, d3] }
  | _ => none }
def taintMoreRow : OpenClaim := { program := "ytmlipdlbeddijaadoor", sum := "1f5349050b79a21b9c0f15bdbcb4352ad5481ecfaef6bedc274fca4074d9b6dd", func := "ballast/ballastlaw5.TaintMore", spec := "taintMore", inPlace := ["internal/bytealg.IndexByteString", "internal/bytealg.IndexString", "internal/abi.NoEscape", "internal/bytealg.MakeNoZero"], unfollowed := true, recurses := true, named := ["unicode/utf8.first", "unicode/utf8.acceptRanges", "internal/bytealg.MaxLen"], apart := false, laid := [("unicode/utf8.acceptRanges", laid_unicode_utf8_acceptRanges), ("unicode/utf8.first", laid_unicode_utf8_first)] }
def TaintMoreSaid : Prop := taintMoreRow.holds Tryd.pinned (OpenSpec.ofChange taintMoreSpec)

/-- ITS FALSE NEIGHBOUR: 'it returns false'. Refute it at one input. -/
def taintMoreWrong : ChangeSpec := { name := "taintMore", fn := fun _ => fun
  | [d1, d2, d3] => { results := [.lit (.bool false)], args := [d1, d2, d3] }
  | _ => none }
def TaintMoreWrongFalsely : Prop := taintMoreRow.holds Tryd.pinned (OpenSpec.ofChange taintMoreWrong)

/-- 'ballastlaw5.TaintOrder': WHATEVER THE INPUT: true; the input reads as it did. -/
def taintOrderSpec : ChangeSpec := { name := "taintOrder", fn := fun _ => fun
  | [d1, d2, d3] => { results := [.lit (.bool true)], args := [d1, d2, d3] }
  | _ => none }
def taintOrderRow : OpenClaim := { program := "ytmlipdlbeddijaadoor", sum := "1f5349050b79a21b9c0f15bdbcb4352ad5481ecfaef6bedc274fca4074d9b6dd", func := "ballast/ballastlaw5.TaintOrder", spec := "taintOrder", inPlace := ["internal/bytealg.IndexByteString", "internal/bytealg.IndexString", "internal/abi.NoEscape", "internal/bytealg.MakeNoZero"], unfollowed := true, recurses := true, named := ["unicode/utf8.first", "unicode/utf8.acceptRanges", "internal/bytealg.MaxLen"], apart := false, laid := [("unicode/utf8.acceptRanges", laid_unicode_utf8_acceptRanges), ("unicode/utf8.first", laid_unicode_utf8_first)] }
def TaintOrderSaid : Prop := taintOrderRow.holds Tryd.pinned (OpenSpec.ofChange taintOrderSpec)

/-- ITS FALSE NEIGHBOUR: 'it returns false'. Refute it at one input. -/
def taintOrderWrong : ChangeSpec := { name := "taintOrder", fn := fun _ => fun
  | [d1, d2, d3] => { results := [.lit (.bool false)], args := [d1, d2, d3] }
  | _ => none }
def TaintOrderWrongFalsely : Prop := taintOrderRow.holds Tryd.pinned (OpenSpec.ofChange taintOrderWrong)

/-- 'ballastlaw5.TaintEach': WHATEVER THE INPUT: true; the input reads as it did. -/
def taintEachSpec : ChangeSpec := { name := "taintEach", fn := fun _ => fun
  | [d1, d2, d3, d4, d5] => { results := [.lit (.bool true)], args := [d1, d2, d3, d4, d5] }
  | _ => none }
def taintEachRow : OpenClaim := { program := "ytmlipdlbeddijaadoor", sum := "1f5349050b79a21b9c0f15bdbcb4352ad5481ecfaef6bedc274fca4074d9b6dd", func := "ballast/ballastlaw5.TaintEach", spec := "taintEach", inPlace := ["internal/bytealg.IndexByteString", "internal/bytealg.IndexString", "internal/abi.NoEscape", "internal/bytealg.MakeNoZero"], unfollowed := true, recurses := true, named := ["unicode/utf8.first", "unicode/utf8.acceptRanges", "internal/bytealg.MaxLen"], apart := false, laid := [("unicode/utf8.acceptRanges", laid_unicode_utf8_acceptRanges), ("unicode/utf8.first", laid_unicode_utf8_first)] }
def TaintEachSaid : Prop := taintEachRow.holds Tryd.pinned (OpenSpec.ofChange taintEachSpec)

/-- ITS FALSE NEIGHBOUR: 'it returns false'. Refute it at one input. -/
def taintEachWrong : ChangeSpec := { name := "taintEach", fn := fun _ => fun
  | [d1, d2, d3, d4, d5] => { results := [.lit (.bool false)], args := [d1, d2, d3, d4, d5] }
  | _ => none }
def TaintEachWrongFalsely : Prop := taintEachRow.holds Tryd.pinned (OpenSpec.ofChange taintEachWrong)

/-- 'ballastlaw4.LabelAny': WHATEVER THE INPUT: true; the input reads as it did. -/
def labelAnySpec : ChangeSpec := { name := "labelAny", fn := fun _ => fun
  | [d1, d2, d3] => { results := [.lit (.bool true)], args := [d1, d2, d3] }
  | _ => none }
def labelAnyRow : OpenClaim := { program := "ytmlipdlbeddijaadoor", sum := "1f5349050b79a21b9c0f15bdbcb4352ad5481ecfaef6bedc274fca4074d9b6dd", func := "ballast/ballastlaw4.LabelAny", spec := "labelAny", inPlace := ["internal/bytealg.IndexByteString", "internal/bytealg.IndexString", "internal/bytealg.CountString", "internal/abi.NoEscape", "internal/bytealg.MakeNoZero"], unfollowed := true, recurses := true, named := ["unicode/utf8.first", "unicode/utf8.acceptRanges", "internal/bytealg.MaxLen"], apart := false, laid := [("unicode/utf8.acceptRanges", laid_unicode_utf8_acceptRanges), ("unicode/utf8.first", laid_unicode_utf8_first)] }
def LabelAnySaid : Prop := labelAnyRow.holds Tryd.pinned (OpenSpec.ofChange labelAnySpec)

/-- ITS FALSE NEIGHBOUR: 'it returns false'. Refute it at one input. -/
def labelAnyWrong : ChangeSpec := { name := "labelAny", fn := fun _ => fun
  | [d1, d2, d3] => { results := [.lit (.bool false)], args := [d1, d2, d3] }
  | _ => none }
def LabelAnyWrongFalsely : Prop := labelAnyRow.holds Tryd.pinned (OpenSpec.ofChange labelAnyWrong)

/-- 'ballastlaw4.LabelWords': WHATEVER THE INPUT: true; the input reads as it did. -/
def labelWordsSpec : ChangeSpec := { name := "labelWords", fn := fun _ => fun
  | [d] => { results := [.lit (.bool true)], args := [d] }
  | _ => none }
def labelWordsRow : OpenClaim := { program := "ytmlipdlbeddijaadoor", sum := "1f5349050b79a21b9c0f15bdbcb4352ad5481ecfaef6bedc274fca4074d9b6dd", func := "ballast/ballastlaw4.LabelWords", spec := "labelWords", inPlace := ["internal/bytealg.IndexByteString", "internal/bytealg.IndexString", "internal/bytealg.CountString", "internal/abi.NoEscape", "internal/bytealg.MakeNoZero"], unfollowed := true, recurses := true, named := ["unicode/utf8.first", "unicode/utf8.acceptRanges", "internal/bytealg.MaxLen"], apart := false, laid := [("unicode/utf8.acceptRanges", laid_unicode_utf8_acceptRanges), ("unicode/utf8.first", laid_unicode_utf8_first)] }
def LabelWordsSaid : Prop := labelWordsRow.holds Tryd.pinned (OpenSpec.ofChange labelWordsSpec)

/-- ITS FALSE NEIGHBOUR: 'it returns false'. Refute it at one input. -/
def labelWordsWrong : ChangeSpec := { name := "labelWords", fn := fun _ => fun
  | [d] => { results := [.lit (.bool false)], args := [d] }
  | _ => none }
def LabelWordsWrongFalsely : Prop := labelWordsRow.holds Tryd.pinned (OpenSpec.ofChange labelWordsWrong)

/-- 'ballastlaw4.LabelTerms': WHATEVER THE INPUT: true; the input reads as it did. -/
def labelTermsSpec : ChangeSpec := { name := "labelTerms", fn := fun _ => fun
  | [d1, d2, d3, d4] => { results := [.lit (.bool true)], args := [d1, d2, d3, d4] }
  | _ => none }
def labelTermsRow : OpenClaim := { program := "ytmlipdlbeddijaadoor", sum := "1f5349050b79a21b9c0f15bdbcb4352ad5481ecfaef6bedc274fca4074d9b6dd", func := "ballast/ballastlaw4.LabelTerms", spec := "labelTerms", inPlace := ["internal/bytealg.IndexByteString", "internal/bytealg.IndexString", "internal/bytealg.CountString", "internal/abi.NoEscape", "internal/bytealg.MakeNoZero"], unfollowed := true, recurses := true, named := ["unicode/utf8.first", "unicode/utf8.acceptRanges", "internal/bytealg.MaxLen"], apart := false, laid := [("unicode/utf8.acceptRanges", laid_unicode_utf8_acceptRanges), ("unicode/utf8.first", laid_unicode_utf8_first)] }
def LabelTermsSaid : Prop := labelTermsRow.holds Tryd.pinned (OpenSpec.ofChange labelTermsSpec)

/-- ITS FALSE NEIGHBOUR: 'it returns false'. Refute it at one input. -/
def labelTermsWrong : ChangeSpec := { name := "labelTerms", fn := fun _ => fun
  | [d1, d2, d3, d4] => { results := [.lit (.bool false)], args := [d1, d2, d3, d4] }
  | _ => none }
def LabelTermsWrongFalsely : Prop := labelTermsRow.holds Tryd.pinned (OpenSpec.ofChange labelTermsWrong)

/-- 'ballastlaw4.LabelMore': WHATEVER THE INPUT: true; the input reads as it did. -/
def labelMoreSpec : ChangeSpec := { name := "labelMore", fn := fun _ => fun
  | [d1, d2, d3, d4, d5] => { results := [.lit (.bool true)], args := [d1, d2, d3, d4, d5] }
  | _ => none }
def labelMoreRow : OpenClaim := { program := "ytmlipdlbeddijaadoor", sum := "1f5349050b79a21b9c0f15bdbcb4352ad5481ecfaef6bedc274fca4074d9b6dd", func := "ballast/ballastlaw4.LabelMore", spec := "labelMore", inPlace := ["internal/bytealg.IndexByteString", "internal/bytealg.IndexString", "internal/bytealg.CountString", "internal/abi.NoEscape", "internal/bytealg.MakeNoZero"], unfollowed := true, recurses := true, named := ["unicode/utf8.first", "unicode/utf8.acceptRanges", "internal/bytealg.MaxLen"], apart := false, laid := [("unicode/utf8.acceptRanges", laid_unicode_utf8_acceptRanges), ("unicode/utf8.first", laid_unicode_utf8_first)] }
def LabelMoreSaid : Prop := labelMoreRow.holds Tryd.pinned (OpenSpec.ofChange labelMoreSpec)

/-- ITS FALSE NEIGHBOUR: 'it returns false'. Refute it at one input. -/
def labelMoreWrong : ChangeSpec := { name := "labelMore", fn := fun _ => fun
  | [d1, d2, d3, d4, d5] => { results := [.lit (.bool false)], args := [d1, d2, d3, d4, d5] }
  | _ => none }
def LabelMoreWrongFalsely : Prop := labelMoreRow.holds Tryd.pinned (OpenSpec.ofChange labelMoreWrong)

/-- 'ballastlaw4.LabelNames': WHATEVER THE INPUT: true; the input reads as it did. -/
def labelNamesSpec : ChangeSpec := { name := "labelNames", fn := fun _ => fun
  | [d1, d2] => { results := [.lit (.bool true)], args := [d1, d2] }
  | _ => none }
def labelNamesRow : OpenClaim := { program := "ytmlipdlbeddijaadoor", sum := "1f5349050b79a21b9c0f15bdbcb4352ad5481ecfaef6bedc274fca4074d9b6dd", func := "ballast/ballastlaw4.LabelNames", spec := "labelNames", inPlace := ["internal/bytealg.IndexByteString", "internal/bytealg.IndexString", "internal/bytealg.CountString", "internal/abi.NoEscape", "internal/bytealg.MakeNoZero"], unfollowed := true, recurses := true, named := ["unicode/utf8.first", "unicode/utf8.acceptRanges", "internal/bytealg.MaxLen"], apart := false, laid := [("unicode/utf8.acceptRanges", laid_unicode_utf8_acceptRanges), ("unicode/utf8.first", laid_unicode_utf8_first)] }
def LabelNamesSaid : Prop := labelNamesRow.holds Tryd.pinned (OpenSpec.ofChange labelNamesSpec)

/-- ITS FALSE NEIGHBOUR: 'it returns false'. Refute it at one input. -/
def labelNamesWrong : ChangeSpec := { name := "labelNames", fn := fun _ => fun
  | [d1, d2] => { results := [.lit (.bool false)], args := [d1, d2] }
  | _ => none }
def LabelNamesWrongFalsely : Prop := labelNamesRow.holds Tryd.pinned (OpenSpec.ofChange labelNamesWrong)

/- THE SECOND FORM. 'bulk': how many values and letters a reading holds, each counted each time it is reached (what is shared counts as often as it is met; a slice's spare places count too). A statement '..UptoSaid' is the law's where the arguments, and the package variables that the reading takes, are together of bulk at most 1048576: NARROWER than '..Said'. Prove '..Said' where nothing that the law and all that it calls make is longer than what came in: it says more and counts as full. Else prove '..UptoSaid'. A law counts once. -/
mutual
def uptoBulk {H : Type} : DataW H → Nat
  | .lit (.string bytes) => bytes.length + 1
  | .lit _ => 1
  | .nil => 1
  | .ptr d => uptoBulk d + 1
  | .slice elems spare => uptoBulkAll elems + uptoBulkAll spare + 1
  | .agg parts => uptoBulkAll parts + 1
  | .iface _ d => uptoBulk d + 1
  | .map entries => uptoBulkEntries entries + 1
  | .held _ => 1
def uptoBulkAll {H : Type} : List (DataW H) → Nat
  | [] => 0
  | d :: r => uptoBulk d + uptoBulkAll r
def uptoBulkEntries {H : Type} : List (Lit × DataW H) → Nat
  | [] => 0
  | x :: r => uptoBulkEntry x + uptoBulkEntries r
def uptoBulkEntry {H : Type} : Lit × DataW H → Nat
  | (.string bytes, d) => bytes.length + uptoBulk d + 1
  | (_, d) => uptoBulk d + 1
 end
def uptoSmall : (H : Type) → List (DataW H) → Bool := fun _ ds => decide (uptoBulkAll ds ≤ 1048576)
def OpenSpec.upto (s : _root_.Go.ChangeSpec) : _root_.Go.OpenSpec := { _root_.Go.OpenSpec.ofChange s with cond := some uptoSmall }

/-- 'ballastlaw5.TaintAny', WHERE WHAT IT READS IS OF BULK AT MOST 1048576: true; the input reads as it did. -/
def taintAnyUptoRow : OpenClaim := { program := "ytmlipdlbeddijaadoor", sum := "1f5349050b79a21b9c0f15bdbcb4352ad5481ecfaef6bedc274fca4074d9b6dd", func := "ballast/ballastlaw5.TaintAny", spec := "taintAny", inPlace := ["internal/bytealg.IndexByteString", "internal/bytealg.IndexString", "internal/abi.NoEscape", "internal/bytealg.MakeNoZero"], unfollowed := true, recurses := true, named := ["unicode/utf8.first", "unicode/utf8.acceptRanges", "internal/bytealg.MaxLen"], apart := false, laid := [("unicode/utf8.acceptRanges", laid_unicode_utf8_acceptRanges), ("unicode/utf8.first", laid_unicode_utf8_first)], narrowed := true }
def TaintAnyUptoSaid : Prop := taintAnyUptoRow.holds Tryd.pinned (OpenSpec.upto taintAnySpec)

/-- 'ballastlaw5.TaintWords', WHERE WHAT IT READS IS OF BULK AT MOST 1048576: true; the input reads as it did. -/
def taintWordsUptoRow : OpenClaim := { program := "ytmlipdlbeddijaadoor", sum := "1f5349050b79a21b9c0f15bdbcb4352ad5481ecfaef6bedc274fca4074d9b6dd", func := "ballast/ballastlaw5.TaintWords", spec := "taintWords", inPlace := ["internal/bytealg.IndexByteString", "internal/bytealg.IndexString", "internal/abi.NoEscape", "internal/bytealg.MakeNoZero"], unfollowed := true, recurses := true, named := ["unicode/utf8.first", "unicode/utf8.acceptRanges", "internal/bytealg.MaxLen"], apart := false, laid := [("unicode/utf8.acceptRanges", laid_unicode_utf8_acceptRanges), ("unicode/utf8.first", laid_unicode_utf8_first)], narrowed := true }
def TaintWordsUptoSaid : Prop := taintWordsUptoRow.holds Tryd.pinned (OpenSpec.upto taintWordsSpec)

/-- 'ballastlaw5.TaintMore', WHERE WHAT IT READS IS OF BULK AT MOST 1048576: true; the input reads as it did. -/
def taintMoreUptoRow : OpenClaim := { program := "ytmlipdlbeddijaadoor", sum := "1f5349050b79a21b9c0f15bdbcb4352ad5481ecfaef6bedc274fca4074d9b6dd", func := "ballast/ballastlaw5.TaintMore", spec := "taintMore", inPlace := ["internal/bytealg.IndexByteString", "internal/bytealg.IndexString", "internal/abi.NoEscape", "internal/bytealg.MakeNoZero"], unfollowed := true, recurses := true, named := ["unicode/utf8.first", "unicode/utf8.acceptRanges", "internal/bytealg.MaxLen"], apart := false, laid := [("unicode/utf8.acceptRanges", laid_unicode_utf8_acceptRanges), ("unicode/utf8.first", laid_unicode_utf8_first)], narrowed := true }
def TaintMoreUptoSaid : Prop := taintMoreUptoRow.holds Tryd.pinned (OpenSpec.upto taintMoreSpec)

/-- 'ballastlaw5.TaintOrder', WHERE WHAT IT READS IS OF BULK AT MOST 1048576: true; the input reads as it did. -/
def taintOrderUptoRow : OpenClaim := { program := "ytmlipdlbeddijaadoor", sum := "1f5349050b79a21b9c0f15bdbcb4352ad5481ecfaef6bedc274fca4074d9b6dd", func := "ballast/ballastlaw5.TaintOrder", spec := "taintOrder", inPlace := ["internal/bytealg.IndexByteString", "internal/bytealg.IndexString", "internal/abi.NoEscape", "internal/bytealg.MakeNoZero"], unfollowed := true, recurses := true, named := ["unicode/utf8.first", "unicode/utf8.acceptRanges", "internal/bytealg.MaxLen"], apart := false, laid := [("unicode/utf8.acceptRanges", laid_unicode_utf8_acceptRanges), ("unicode/utf8.first", laid_unicode_utf8_first)], narrowed := true }
def TaintOrderUptoSaid : Prop := taintOrderUptoRow.holds Tryd.pinned (OpenSpec.upto taintOrderSpec)

/-- 'ballastlaw5.TaintEach', WHERE WHAT IT READS IS OF BULK AT MOST 1048576: true; the input reads as it did. -/
def taintEachUptoRow : OpenClaim := { program := "ytmlipdlbeddijaadoor", sum := "1f5349050b79a21b9c0f15bdbcb4352ad5481ecfaef6bedc274fca4074d9b6dd", func := "ballast/ballastlaw5.TaintEach", spec := "taintEach", inPlace := ["internal/bytealg.IndexByteString", "internal/bytealg.IndexString", "internal/abi.NoEscape", "internal/bytealg.MakeNoZero"], unfollowed := true, recurses := true, named := ["unicode/utf8.first", "unicode/utf8.acceptRanges", "internal/bytealg.MaxLen"], apart := false, laid := [("unicode/utf8.acceptRanges", laid_unicode_utf8_acceptRanges), ("unicode/utf8.first", laid_unicode_utf8_first)], narrowed := true }
def TaintEachUptoSaid : Prop := taintEachUptoRow.holds Tryd.pinned (OpenSpec.upto taintEachSpec)

/-- 'ballastlaw4.LabelAny', WHERE WHAT IT READS IS OF BULK AT MOST 1048576: true; the input reads as it did. -/
def labelAnyUptoRow : OpenClaim := { program := "ytmlipdlbeddijaadoor", sum := "1f5349050b79a21b9c0f15bdbcb4352ad5481ecfaef6bedc274fca4074d9b6dd", func := "ballast/ballastlaw4.LabelAny", spec := "labelAny", inPlace := ["internal/bytealg.IndexByteString", "internal/bytealg.IndexString", "internal/bytealg.CountString", "internal/abi.NoEscape", "internal/bytealg.MakeNoZero"], unfollowed := true, recurses := true, named := ["unicode/utf8.first", "unicode/utf8.acceptRanges", "internal/bytealg.MaxLen"], apart := false, laid := [("unicode/utf8.acceptRanges", laid_unicode_utf8_acceptRanges), ("unicode/utf8.first", laid_unicode_utf8_first)], narrowed := true }
def LabelAnyUptoSaid : Prop := labelAnyUptoRow.holds Tryd.pinned (OpenSpec.upto labelAnySpec)

/-- 'ballastlaw4.LabelWords', WHERE WHAT IT READS IS OF BULK AT MOST 1048576: true; the input reads as it did. -/
def labelWordsUptoRow : OpenClaim := { program := "ytmlipdlbeddijaadoor", sum := "1f5349050b79a21b9c0f15bdbcb4352ad5481ecfaef6bedc274fca4074d9b6dd", func := "ballast/ballastlaw4.LabelWords", spec := "labelWords", inPlace := ["internal/bytealg.IndexByteString", "internal/bytealg.IndexString", "internal/bytealg.CountString", "internal/abi.NoEscape", "internal/bytealg.MakeNoZero"], unfollowed := true, recurses := true, named := ["unicode/utf8.first", "unicode/utf8.acceptRanges", "internal/bytealg.MaxLen"], apart := false, laid := [("unicode/utf8.acceptRanges", laid_unicode_utf8_acceptRanges), ("unicode/utf8.first", laid_unicode_utf8_first)], narrowed := true }
def LabelWordsUptoSaid : Prop := labelWordsUptoRow.holds Tryd.pinned (OpenSpec.upto labelWordsSpec)

/-- 'ballastlaw4.LabelTerms', WHERE WHAT IT READS IS OF BULK AT MOST 1048576: true; the input reads as it did. -/
def labelTermsUptoRow : OpenClaim := { program := "ytmlipdlbeddijaadoor", sum := "1f5349050b79a21b9c0f15bdbcb4352ad5481ecfaef6bedc274fca4074d9b6dd", func := "ballast/ballastlaw4.LabelTerms", spec := "labelTerms", inPlace := ["internal/bytealg.IndexByteString", "internal/bytealg.IndexString", "internal/bytealg.CountString", "internal/abi.NoEscape", "internal/bytealg.MakeNoZero"], unfollowed := true, recurses := true, named := ["unicode/utf8.first", "unicode/utf8.acceptRanges", "internal/bytealg.MaxLen"], apart := false, laid := [("unicode/utf8.acceptRanges", laid_unicode_utf8_acceptRanges), ("unicode/utf8.first", laid_unicode_utf8_first)], narrowed := true }
def LabelTermsUptoSaid : Prop := labelTermsUptoRow.holds Tryd.pinned (OpenSpec.upto labelTermsSpec)

/-- 'ballastlaw4.LabelMore', WHERE WHAT IT READS IS OF BULK AT MOST 1048576: true; the input reads as it did. -/
def labelMoreUptoRow : OpenClaim := { program := "ytmlipdlbeddijaadoor", sum := "1f5349050b79a21b9c0f15bdbcb4352ad5481ecfaef6bedc274fca4074d9b6dd", func := "ballast/ballastlaw4.LabelMore", spec := "labelMore", inPlace := ["internal/bytealg.IndexByteString", "internal/bytealg.IndexString", "internal/bytealg.CountString", "internal/abi.NoEscape", "internal/bytealg.MakeNoZero"], unfollowed := true, recurses := true, named := ["unicode/utf8.first", "unicode/utf8.acceptRanges", "internal/bytealg.MaxLen"], apart := false, laid := [("unicode/utf8.acceptRanges", laid_unicode_utf8_acceptRanges), ("unicode/utf8.first", laid_unicode_utf8_first)], narrowed := true }
def LabelMoreUptoSaid : Prop := labelMoreUptoRow.holds Tryd.pinned (OpenSpec.upto labelMoreSpec)

/-- 'ballastlaw4.LabelNames', WHERE WHAT IT READS IS OF BULK AT MOST 1048576: true; the input reads as it did. -/
def labelNamesUptoRow : OpenClaim := { program := "ytmlipdlbeddijaadoor", sum := "1f5349050b79a21b9c0f15bdbcb4352ad5481ecfaef6bedc274fca4074d9b6dd", func := "ballast/ballastlaw4.LabelNames", spec := "labelNames", inPlace := ["internal/bytealg.IndexByteString", "internal/bytealg.IndexString", "internal/bytealg.CountString", "internal/abi.NoEscape", "internal/bytealg.MakeNoZero"], unfollowed := true, recurses := true, named := ["unicode/utf8.first", "unicode/utf8.acceptRanges", "internal/bytealg.MaxLen"], apart := false, laid := [("unicode/utf8.acceptRanges", laid_unicode_utf8_acceptRanges), ("unicode/utf8.first", laid_unicode_utf8_first)], narrowed := true }
def LabelNamesUptoSaid : Prop := labelNamesUptoRow.holds Tryd.pinned (OpenSpec.upto labelNamesSpec)

end Rows
end Go.Proofs.YtmlipdlbeddijaaDoor
