/-
  RatioShares returns true for any arguments, and each argument reads as it did. No condition.
-/
import Derived.Test.YtfcihhbingaofaaRows
import Derived.Test.YtfcihhbingaofaaAtE
import Derived.Test.YtfcihhbingaofaaAt7
import Derived.ProofKit
import Derived.Laws.Cover2
import Derived.Carry
set_option linter.unusedVariables false
set_option linter.unusedSimpArgs false
namespace Go.Proofs.Ytfcihhbingaofaa
open Go.ChangeShapes Go.WideShapes Go.ChangeAt Go.RowKit

theorem Try.own8 : ownKnob Try.prog.godebug = none := by kernel_rfl

set_option maxRecDepth 100000 in
theorem f_lifted8 (os : Os) (started : os.Started) (H : Type) (enc : TypeId × Value → H) :
    ReturnsInHanded {} Try.checked os 8 .any (Rows.ratioSharesSpec.pre6 enc Try.prog Try.f8 Rows.ratioSharesRow.domain false) (Rows.ratioSharesSpec.post enc Try.prog Try.f8 false true false false) := by
  refine returnsInHanded_of_change (C := Try.checked) Try.own8 started (by kernel_rfl) Try.func8
    (ChangeSpec.witness6 (enc := enc) (C := Try.checked) false ⟨#[], #[.int .u32 0, .int .u32 0, .int .u32 0], []⟩ 8 (by kernel_rfl) (by kernel_rfl) (by kernel_rfl) (by kernel_rfl)) ?_
  intro W base args ds gs before hval hW _ _
  exact Go.Aa.law_row (P := Try.prog) (cfg := Go.Aa.T.cfg) Go.Aa.T.cfgOk (f := 8) rfl rfl rfl (fn := Try.f8) (s := Rows.ratioSharesSpec) (k := 4) (tb := 4) (by kernel_rfl) rfl Try.underlying4 rfl
    (fun ds hds => by
      rw [Try.params8] at hds
      match ds, hds with
      | [d1, d2, d3], _ => rfl)
    (fun xs h => Go.Aa.T.law8 xs (by rw [Try.params8] at h; exact h)) hval hW

theorem ratioShares_holds : Rows.RatioSharesSaid :=
  OpenClaim.holds_of_wide 8 Try.f8 rfl rfl rfl rfl rfl rfl rfl ⟨rfl, rfl, rfl, rfl, rfl⟩ rfl rfl rfl rfl rfl (by kernel_rfl) Try.func8 (by kernel_rfl)
    (of_decide_eq_true (by kernel_rfl)) (by unfold Func.isWrapper; first | (rw [if_pos (by decide +kernel)]; kernel_rfl) | (rw [if_neg (by decide +kernel)]; exact ⟨rfl, rfl⟩))
    (fun os started H enc _ => f_lifted8 os started H enc)

#print axioms ratioShares_holds
end Go.Proofs.Ytfcihhbingaofaa
