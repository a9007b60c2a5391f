/-
  RatioOrder returns true for any arguments, and each argument reads as it did. No condition.
-/
import Derived.Test.YtfcihhbingaofaaRows
import Derived.Test.YtfcihhbingaofaaAtA
import Derived.Test.YtfcihhbingaofaaAt7
import Derived.ProofKit
import Derived.Laws.Cover2
import Derived.Carry
set_option linter.unusedVariables false
set_option linter.unusedSimpArgs false
namespace Go.Proofs.Ytfcihhbingaofaa
open Go.ChangeShapes Go.WideShapes Go.ChangeAt Go.RowKit

theorem Try.own6 : ownKnob Try.prog.godebug = none := by kernel_rfl

set_option maxRecDepth 100000 in
theorem f_lifted6 (os : Os) (started : os.Started) (H : Type) (enc : TypeId × Value → H) :
    ReturnsInHanded {} Try.checked os 6 .any (Rows.ratioOrderSpec.pre6 enc Try.prog Try.f6 Rows.ratioOrderRow.domain false) (Rows.ratioOrderSpec.post enc Try.prog Try.f6 false true false false) := by
  refine returnsInHanded_of_change (C := Try.checked) Try.own6 started (by kernel_rfl) Try.func6
    (ChangeSpec.witness6 (enc := enc) (C := Try.checked) false ⟨#[], #[.float .f64 0, .float .f64 0, .float .f64 0], []⟩ 8 (by kernel_rfl) (by kernel_rfl) (by kernel_rfl) (by kernel_rfl)) ?_
  intro W base args ds gs before hval hW _ _
  exact Go.Aa.law_row (P := Try.prog) (cfg := Go.Aa.T.cfg) Go.Aa.T.cfgOk (f := 6) rfl rfl rfl (fn := Try.f6) (s := Rows.ratioOrderSpec) (k := 4) (tb := 4) (by kernel_rfl) rfl Try.underlying4 rfl
    (fun ds hds => by
      rw [Try.params6] at hds
      match ds, hds with
      | [d1, d2, d3], _ => rfl)
    (fun xs h => Go.Aa.T.law6 xs (by rw [Try.params6] at h; exact h)) hval hW

theorem ratioOrder_holds : Rows.RatioOrderSaid :=
  OpenClaim.holds_of_wide 6 Try.f6 rfl rfl rfl rfl rfl rfl rfl ⟨rfl, rfl, rfl, rfl, rfl⟩ rfl rfl rfl rfl rfl (by kernel_rfl) Try.func6 (by kernel_rfl)
    (of_decide_eq_true (by kernel_rfl)) (by unfold Func.isWrapper; first | (rw [if_pos (by decide +kernel)]; kernel_rfl) | (rw [if_neg (by decide +kernel)]; exact ⟨rfl, rfl⟩))
    (fun os started H enc _ => f_lifted6 os started H enc)

#print axioms ratioOrder_holds
end Go.Proofs.Ytfcihhbingaofaa
