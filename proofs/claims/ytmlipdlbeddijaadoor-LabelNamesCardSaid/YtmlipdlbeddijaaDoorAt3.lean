/-
  THE CONFIGURATION IS THE PROGRAM's.
-/
import Derived.Test.YtmlipdlbeddijaaDoorAt2
import Derived.Test.YtmlipdlbeddijaaDoorT1
import Derived.Test.YtmlipdlbeddijaaDoorSh
import Derived.Test.YtmlipdlbeddijaaDoorAaS
set_option linter.unusedVariables false
set_option linter.unusedSimpArgs false
set_option maxRecDepth 100000
namespace Go.Aa.T
open Go.Aa Go.Proofs Go.RowKit Go.Shelf

theorem cfgOk : CfgOk Tryd.prog cfg := by
  refine ⟨by kernel_rfl, fun f A h => tab_fn h, fun f g h => ?_, fun f h => ?_⟩
  · have h : extF f = some g := h
    unfold extF at h
    split at h <;> simp only [Option.some.injEq, reduceCtorEq] at h <;> subst h
    · exact ext_trim (fun _ _ => by kernel_rfl) fun s c w h1 h2 h3 => Any.strings_Trim_laid Tryd.lays160 (by kernel_rfl) s c w h1 h2 h3
    · exact ext_join (fun _ _ => by kernel_rfl) (fun a c sep w => Any.strings_Join_none Tryd.lays156 Tryd.Builder_Extra_156 a c sep w) fun bk o c xs sep w h1 h2 h3 h4 h5 => Any.strings_Join Tryd.lays156 Tryd.Builder_Extra_156 bk o c xs sep w h1 h2 h3 h4 h5
    · exact ext_index (fun _ _ => by kernel_rfl) fun s c w => Any.strings_Index_one Tryd.lays143 s c w
    · exact ext_count (fun _ _ => by kernel_rfl) fun s c w => Any.strings_Count_one Tryd.lays138 s c w
    · exact ext_index (fun _ _ => by kernel_rfl) fun s c w => Any.stringslite_Index_one Tryd.lays219 s c w
  · have h : (f == 101) = true := h
    have : f = 101 := by simpa using h
    subst this
    exact Go.Proofs.YtmlipdlbeddijaaDoor.T.tryOk
#print axioms cfgOk
end Go.Aa.T
