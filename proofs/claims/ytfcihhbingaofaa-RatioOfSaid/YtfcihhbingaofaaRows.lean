/-
  No cell of these rows narrows 'for every input' (looked for: loops, veiled, ifaces, maps, wideKeys, modest, calm, conditions, laid).
  DERIVED. THE GIVEN ROWS OF THIS SEAT. 7 by the template 'for every input the law returns true; each argument reads behind the call as it read before'; 0 by the template 'total and deterministic' (their statements: YtfcihhbingaofaaTotals.lean).
  GIVEN WITH THE SEED: the statements are not yours to turn. If you find one false, say at which input.
  Laid BY PROGRAM, IN A SANDBOX (cutbox-rows.mjs): the forced cells as the released guide's own fill.sh prints them over the translation b545ce8f93d248c8… (all of the seat's roots in one cut). By AI agents, Wed Nov 11 2026. No macro, syntax, notation, axiom, sorry.
-/
import Derived.Test.YtfcihhbingaofaaChecked
import GoSem.Claim
import GoSem.ClaimJoined
import GoSem.ClaimMapViews
import Derived.JoinedTies
import Derived.KernelRfl
namespace Go.Proofs.Ytfcihhbingaofaa
/- THE CELL 'sum', in the pinned program and in every row, IS THE sha256 OF THE DUMP (.gsa) THAT YtfcihhbingaofaaProg.lean LOADS. Nothing in Lean hashes anything: it is a label: what it is worth is what the hold of that sum in a sandbox is worth. -/
noncomputable def Try.pinned : Pinned := { name := "ytfcihhbingaofaa", sum := "b545ce8f93d248c8c529253de711f8c86888c3b7f0dc230e110481d18f244e88", checked := Try.checked }
namespace Rows
def none {H : Type} : Left H := { results := [], args := [] }

/-- 'ballastlaw3.RatioTwo': WHATEVER THE INPUT: true; the input reads as it did. -/
def ratioTwoSpec : ChangeSpec := { name := "ratioTwo", fn := fun _ => fun
  | [d1, d2, d3, d4] => { results := [.lit (.bool true)], args := [d1, d2, d3, d4] }
  | _ => none }
def ratioTwoRow : OpenClaim := { program := "ytfcihhbingaofaa", sum := "b545ce8f93d248c8c529253de711f8c86888c3b7f0dc230e110481d18f244e88", func := "ballast/ballastlaw3.RatioTwo", spec := "ratioTwo", inPlace := ["math.Float64bits", "math.Float64frombits"], unfollowed := true, recurses := true, apart := false }
def RatioTwoSaid : Prop := ratioTwoRow.holds Try.pinned (OpenSpec.ofChange ratioTwoSpec)

/-- ITS FALSE NEIGHBOUR: 'it returns false'. Refute it at one input. -/
def ratioTwoWrong : ChangeSpec := { name := "ratioTwo", fn := fun _ => fun
  | [d1, d2, d3, d4] => { results := [.lit (.bool false)], args := [d1, d2, d3, d4] }
  | _ => none }
def RatioTwoWrongFalsely : Prop := ratioTwoRow.holds Try.pinned (OpenSpec.ofChange ratioTwoWrong)

/-- 'ballastlaw3.RatioOf': WHATEVER THE INPUT: true; the input reads as it did. -/
def ratioOfSpec : ChangeSpec := { name := "ratioOf", fn := fun _ => fun
  | [d1, d2] => { results := [.lit (.bool true)], args := [d1, d2] }
  | _ => none }
def ratioOfRow : OpenClaim := { program := "ytfcihhbingaofaa", sum := "b545ce8f93d248c8c529253de711f8c86888c3b7f0dc230e110481d18f244e88", func := "ballast/ballastlaw3.RatioOf", spec := "ratioOf", inPlace := ["math.Float64bits", "math.Float64frombits"], unfollowed := true, recurses := true, apart := false }
def RatioOfSaid : Prop := ratioOfRow.holds Try.pinned (OpenSpec.ofChange ratioOfSpec)

/-- ITS FALSE NEIGHBOUR: 'it returns false'. Refute it at one input. -/
def ratioOfWrong : ChangeSpec := { name := "ratioOf", fn := fun _ => fun
  | [d1, d2] => { results := [.lit (.bool false)], args := [d1, d2] }
  | _ => none }
def RatioOfWrongFalsely : Prop := ratioOfRow.holds Try.pinned (OpenSpec.ofChange ratioOfWrong)

/-- 'ballastlaw3.RatioRows': WHATEVER THE INPUT: true; the input reads as it did. -/
def ratioRowsSpec : ChangeSpec := { name := "ratioRows", fn := fun _ => fun
  | [d] => { results := [.lit (.bool true)], args := [d] }
  | _ => none }
def ratioRowsRow : OpenClaim := { program := "ytfcihhbingaofaa", sum := "b545ce8f93d248c8c529253de711f8c86888c3b7f0dc230e110481d18f244e88", func := "ballast/ballastlaw3.RatioRows", spec := "ratioRows", inPlace := ["math.Float64bits", "math.Float64frombits"], unfollowed := true, recurses := true, apart := false }
def RatioRowsSaid : Prop := ratioRowsRow.holds Try.pinned (OpenSpec.ofChange ratioRowsSpec)

/-- ITS FALSE NEIGHBOUR: 'it returns false'. Refute it at one input. -/
def ratioRowsWrong : ChangeSpec := { name := "ratioRows", fn := fun _ => fun
  | [d] => { results := [.lit (.bool false)], args := [d] }
  | _ => none }
def RatioRowsWrongFalsely : Prop := ratioRowsRow.holds Try.pinned (OpenSpec.ofChange ratioRowsWrong)

/-- 'ballastlaw3.RatioOrder': WHATEVER THE INPUT: true; the input reads as it did. -/
def ratioOrderSpec : ChangeSpec := { name := "ratioOrder", fn := fun _ => fun
  | [d1, d2, d3] => { results := [.lit (.bool true)], args := [d1, d2, d3] }
  | _ => none }
def ratioOrderRow : OpenClaim := { program := "ytfcihhbingaofaa", sum := "b545ce8f93d248c8c529253de711f8c86888c3b7f0dc230e110481d18f244e88", func := "ballast/ballastlaw3.RatioOrder", spec := "ratioOrder", inPlace := ["math.Float64bits", "math.Float64frombits"], unfollowed := true, recurses := true, apart := false }
def RatioOrderSaid : Prop := ratioOrderRow.holds Try.pinned (OpenSpec.ofChange ratioOrderSpec)

/-- ITS FALSE NEIGHBOUR: 'it returns false'. Refute it at one input. -/
def ratioOrderWrong : ChangeSpec := { name := "ratioOrder", fn := fun _ => fun
  | [d1, d2, d3] => { results := [.lit (.bool false)], args := [d1, d2, d3] }
  | _ => none }
def RatioOrderWrongFalsely : Prop := ratioOrderRow.holds Try.pinned (OpenSpec.ofChange ratioOrderWrong)

/-- 'ballastlaw3.RatioSorted': WHATEVER THE INPUT: true; the input reads as it did. -/
def ratioSortedSpec : ChangeSpec := { name := "ratioSorted", fn := fun _ => fun
  | [d] => { results := [.lit (.bool true)], args := [d] }
  | _ => none }
def ratioSortedRow : OpenClaim := { program := "ytfcihhbingaofaa", sum := "b545ce8f93d248c8c529253de711f8c86888c3b7f0dc230e110481d18f244e88", func := "ballast/ballastlaw3.RatioSorted", spec := "ratioSorted", inPlace := ["math.Float64bits", "math.Float64frombits"], unfollowed := true, recurses := true, apart := false }
def RatioSortedSaid : Prop := ratioSortedRow.holds Try.pinned (OpenSpec.ofChange ratioSortedSpec)

/-- ITS FALSE NEIGHBOUR: 'it returns false'. Refute it at one input. -/
def ratioSortedWrong : ChangeSpec := { name := "ratioSorted", fn := fun _ => fun
  | [d] => { results := [.lit (.bool false)], args := [d] }
  | _ => none }
def RatioSortedWrongFalsely : Prop := ratioSortedRow.holds Try.pinned (OpenSpec.ofChange ratioSortedWrong)

/-- 'ballastlaw3.RatioShares': WHATEVER THE INPUT: true; the input reads as it did. -/
def ratioSharesSpec : ChangeSpec := { name := "ratioShares", fn := fun _ => fun
  | [d1, d2, d3] => { results := [.lit (.bool true)], args := [d1, d2, d3] }
  | _ => none }
def ratioSharesRow : OpenClaim := { program := "ytfcihhbingaofaa", sum := "b545ce8f93d248c8c529253de711f8c86888c3b7f0dc230e110481d18f244e88", func := "ballast/ballastlaw3.RatioShares", spec := "ratioShares", inPlace := ["math.Float64bits", "math.Float64frombits"], unfollowed := true, recurses := true, apart := false }
def RatioSharesSaid : Prop := ratioSharesRow.holds Try.pinned (OpenSpec.ofChange ratioSharesSpec)

/-- ITS FALSE NEIGHBOUR: 'it returns false'. Refute it at one input. -/
def ratioSharesWrong : ChangeSpec := { name := "ratioShares", fn := fun _ => fun
  | [d1, d2, d3] => { results := [.lit (.bool false)], args := [d1, d2, d3] }
  | _ => none }
def RatioSharesWrongFalsely : Prop := ratioSharesRow.holds Try.pinned (OpenSpec.ofChange ratioSharesWrong)

/-- 'ballastlaw3.RatioMeans': WHATEVER THE INPUT: true; the input reads as it did. -/
def ratioMeansSpec : ChangeSpec := { name := "ratioMeans", fn := fun _ => fun
  | [d1, d2] => { results := [.lit (.bool true)], args := [d1, d2] }
  | _ => none }
def ratioMeansRow : OpenClaim := { program := "ytfcihhbingaofaa", sum := "b545ce8f93d248c8c529253de711f8c86888c3b7f0dc230e110481d18f244e88", func := "ballast/ballastlaw3.RatioMeans", spec := "ratioMeans", inPlace := ["math.Float64bits", "math.Float64frombits"], unfollowed := true, recurses := true, apart := false }
def RatioMeansSaid : Prop := ratioMeansRow.holds Try.pinned (OpenSpec.ofChange ratioMeansSpec)

/-- ITS FALSE NEIGHBOUR: 'it returns false'. Refute it at one input. -/
def ratioMeansWrong : ChangeSpec := { name := "ratioMeans", fn := fun _ => fun
  | [d1, d2] => { results := [.lit (.bool false)], args := [d1, d2] }
  | _ => none }
def RatioMeansWrongFalsely : Prop := ratioMeansRow.holds Try.pinned (OpenSpec.ofChange ratioMeansWrong)

/- THE SECOND FORM. 'bulk': how many values and letters a reading holds, each counted each time it is reached (what is shared counts as often as it is met; a slice's spare places count too). A statement '..UptoSaid' is the law's where the arguments, and the package variables that the reading takes, are together of bulk at most 1048576: NARROWER than '..Said'. Prove '..Said' where nothing that the law and all that it calls make is longer than what came in: it says more and counts as full. Else prove '..UptoSaid'. A law counts once. -/
mutual
def uptoBulk {H : Type} : DataW H → Nat
  | .lit (.string bytes) => bytes.length + 1
  | .lit _ => 1
  | .nil => 1
  | .ptr d => uptoBulk d + 1
  | .slice elems spare => uptoBulkAll elems + uptoBulkAll spare + 1
  | .agg parts => uptoBulkAll parts + 1
  | .iface _ d => uptoBulk d + 1
  | .map entries => uptoBulkEntries entries + 1
  | .held _ => 1
def uptoBulkAll {H : Type} : List (DataW H) → Nat
  | [] => 0
  | d :: r => uptoBulk d + uptoBulkAll r
def uptoBulkEntries {H : Type} : List (Lit × DataW H) → Nat
  | [] => 0
  | x :: r => uptoBulkEntry x + uptoBulkEntries r
def uptoBulkEntry {H : Type} : Lit × DataW H → Nat
  | (.string bytes, d) => bytes.length + uptoBulk d + 1
  | (_, d) => uptoBulk d + 1
 end
def uptoSmall : (H : Type) → List (DataW H) → Bool := fun _ ds => decide (uptoBulkAll ds ≤ 1048576)
def OpenSpec.upto (s : _root_.Go.ChangeSpec) : _root_.Go.OpenSpec := { _root_.Go.OpenSpec.ofChange s with cond := some uptoSmall }

/-- 'ballastlaw3.RatioTwo', WHERE WHAT IT READS IS OF BULK AT MOST 1048576: true; the input reads as it did. -/
def ratioTwoUptoRow : OpenClaim := { program := "ytfcihhbingaofaa", sum := "b545ce8f93d248c8c529253de711f8c86888c3b7f0dc230e110481d18f244e88", func := "ballast/ballastlaw3.RatioTwo", spec := "ratioTwo", inPlace := ["math.Float64bits", "math.Float64frombits"], unfollowed := true, recurses := true, apart := false, narrowed := true }
def RatioTwoUptoSaid : Prop := ratioTwoUptoRow.holds Try.pinned (OpenSpec.upto ratioTwoSpec)

/-- 'ballastlaw3.RatioOf', WHERE WHAT IT READS IS OF BULK AT MOST 1048576: true; the input reads as it did. -/
def ratioOfUptoRow : OpenClaim := { program := "ytfcihhbingaofaa", sum := "b545ce8f93d248c8c529253de711f8c86888c3b7f0dc230e110481d18f244e88", func := "ballast/ballastlaw3.RatioOf", spec := "ratioOf", inPlace := ["math.Float64bits", "math.Float64frombits"], unfollowed := true, recurses := true, apart := false, narrowed := true }
def RatioOfUptoSaid : Prop := ratioOfUptoRow.holds Try.pinned (OpenSpec.upto ratioOfSpec)

/-- 'ballastlaw3.RatioRows', WHERE WHAT IT READS IS OF BULK AT MOST 1048576: true; the input reads as it did. -/
def ratioRowsUptoRow : OpenClaim := { program := "ytfcihhbingaofaa", sum := "b545ce8f93d248c8c529253de711f8c86888c3b7f0dc230e110481d18f244e88", func := "ballast/ballastlaw3.RatioRows", spec := "ratioRows", inPlace := ["math.Float64bits", "math.Float64frombits"], unfollowed := true, recurses := true, apart := false, narrowed := true }
def RatioRowsUptoSaid : Prop := ratioRowsUptoRow.holds Try.pinned (OpenSpec.upto ratioRowsSpec)

/-- 'ballastlaw3.RatioOrder', WHERE WHAT IT READS IS OF BULK AT MOST 1048576: true; the input reads as it did. -/
def ratioOrderUptoRow : OpenClaim := { program := "ytfcihhbingaofaa", sum := "b545ce8f93d248c8c529253de711f8c86888c3b7f0dc230e110481d18f244e88", func := "ballast/ballastlaw3.RatioOrder", spec := "ratioOrder", inPlace := ["math.Float64bits", "math.Float64frombits"], unfollowed := true, recurses := true, apart := false, narrowed := true }
def RatioOrderUptoSaid : Prop := ratioOrderUptoRow.holds Try.pinned (OpenSpec.upto ratioOrderSpec)

/-- 'ballastlaw3.RatioSorted', WHERE WHAT IT READS IS OF BULK AT MOST 1048576: true; the input reads as it did. -/
def ratioSortedUptoRow : OpenClaim := { program := "ytfcihhbingaofaa", sum := "b545ce8f93d248c8c529253de711f8c86888c3b7f0dc230e110481d18f244e88", func := "ballast/ballastlaw3.RatioSorted", spec := "ratioSorted", inPlace := ["math.Float64bits", "math.Float64frombits"], unfollowed := true, recurses := true, apart := false, narrowed := true }
def RatioSortedUptoSaid : Prop := ratioSortedUptoRow.holds Try.pinned (OpenSpec.upto ratioSortedSpec)

/-- 'ballastlaw3.RatioShares', WHERE WHAT IT READS IS OF BULK AT MOST 1048576: true; the input reads as it did. -/
def ratioSharesUptoRow : OpenClaim := { program := "ytfcihhbingaofaa", sum := "b545ce8f93d248c8c529253de711f8c86888c3b7f0dc230e110481d18f244e88", func := "ballast/ballastlaw3.RatioShares", spec := "ratioShares", inPlace := ["math.Float64bits", "math.Float64frombits"], unfollowed := true, recurses := true, apart := false, narrowed := true }
def RatioSharesUptoSaid : Prop := ratioSharesUptoRow.holds Try.pinned (OpenSpec.upto ratioSharesSpec)

/-- 'ballastlaw3.RatioMeans', WHERE WHAT IT READS IS OF BULK AT MOST 1048576: true; the input reads as it did. -/
def ratioMeansUptoRow : OpenClaim := { program := "ytfcihhbingaofaa", sum := "b545ce8f93d248c8c529253de711f8c86888c3b7f0dc230e110481d18f244e88", func := "ballast/ballastlaw3.RatioMeans", spec := "ratioMeans", inPlace := ["math.Float64bits", "math.Float64frombits"], unfollowed := true, recurses := true, apart := false, narrowed := true }
def RatioMeansUptoSaid : Prop := ratioMeansUptoRow.holds Try.pinned (OpenSpec.upto ratioMeansSpec)

end Rows
end Go.Proofs.Ytfcihhbingaofaa
