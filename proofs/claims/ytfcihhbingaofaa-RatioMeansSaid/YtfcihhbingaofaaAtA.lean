/-
  THE LAWS, OF WHAT THEY ARE HANDED.
-/
import Derived.Test.YtfcihhbingaofaaAt9
import Derived.Test.YtfcihhbingaofaaAaS
set_option linter.unusedVariables false
set_option linter.unusedSimpArgs false
set_option maxRecDepth 100000
namespace Go.Aa.T
open Go.Aa Go.Proofs

theorem fl_of {b : Nat} (h : (Lit.float .f64 b).wf = true) : Fl (Go.Aa.fltOf b) := by
  unfold Go.Aa.fltOf
  split
  · exact .nan
  · rename_i hn
    exact .flt b (by simpa [NN] using hn) (by simpa [Lit.wf] using h)
theorem abs_of {m : Int} (h : (Lit.int .i64 m).wf = true) : m.natAbs ≤ 9223372036854775808 := by
  have h' : IntKind.i64.min ≤ m ∧ m ≤ IntKind.i64.max := by simpa [Lit.wf, IntKind.has] using h
  have e1 : IntKind.i64.min = -9223372036854775808 := rfl
  have e2 : IntKind.i64.max = 9223372036854775807 := rfl
  omega
theorem law4 (xs : List AV) (h : TyAll Try.prog 4 [2, 2] xs) : ∃ H', lim cfg (.fn 4) xs Heap.nil = some (.ret (.bool true), H') := by
  obtain ⟨x, y, rfl, hx, hy⟩ := tyall_2 h
  obtain ⟨a, rfl, ha⟩ := tyv_int Try.underlying2 hx
  obtain ⟨b, rfl, hb⟩ := tyv_int Try.underlying2 hy
  exact ⟨_, ratioOf (abs_of ha) (abs_of hb)⟩
theorem law6 (xs : List AV) (h : TyAll Try.prog 4 [22, 22, 22] xs) : ∃ H', lim cfg (.fn 6) xs Heap.nil = some (.ret (.bool true), H') := by
  obtain ⟨x, y, z, rfl, hx, hy, hz⟩ := tyall_3 h
  obtain ⟨a, rfl, ha⟩ := tyv_float Try.underlying22 hx
  obtain ⟨b, rfl, hb⟩ := tyv_float Try.underlying22 hy
  obtain ⟨c, rfl, hc⟩ := tyv_float Try.underlying22 hz
  exact ⟨_, ratioOrder (fl_of ha) (fl_of hb) (fl_of hc)⟩

end Go.Aa.T
