/-
  LabelWords returns true for any arguments, and each argument reads as it did, where the listed tables hold what the program's text says. (The tied card.)
-/
import Derived.Test.YtmlipdlbeddijaaDoorRows
import Derived.Test.YtmlipdlbeddijaaDoorTie
import Derived.Test.YtmlipdlbeddijaaDoorCards
import Derived.ProofKit
import Derived.Laws.Cover2
import Derived.Carry
import Derived.LaidMore
import Derived.Lay
import Derived.OpenShut
import Derived.Stop.Joined
import Derived.SevenTiedAt
import Derived.Test.YtmlipdlbeddijaaDoorQdf
set_option linter.unusedVariables false
set_option linter.unusedSimpArgs false
namespace Go.Proofs.YtmlipdlbeddijaaDoor
open Go Go.ChangeShapes Go.WideShapes Go.ChangeAt Go.RowKit

set_option maxRecDepth 100000 in
theorem f_lifted9 (os : Os) (started : os.Started) (H : Type) (enc : TypeId × Value → H) :
    ReturnsInHanded {} Tryd.checked os 9 .any (fun w args => (Rows.labelWordsSpec.pre enc Tryd.prog Tryd.f9 [] false w args ∧ laidMetH Tryd.prog Rows.labelWordsRow.laid w) ∧ sizedMet enc Tryd.prog Tryd.f9 (OpenSpec.ofChange Rows.labelWordsSpec) false w args)
      (Rows.labelWordsSpec.post enc Tryd.prog Tryd.f9 false true false false) := by
  refine returnsInHanded_of_change_and (C := Tryd.checked) (X := fun w _ => laidMetH Tryd.prog Rows.labelWordsRow.laid w) (fun _ _ _ hh h => h.of_heap hh) (show ownKnob Tryd.prog.godebug = none by kernel_rfl) started (by kernel_rfl) Tryd.func9
    (ChangeSpec.witness_shaped (enc := enc) (C := Tryd.checked) (os := os) (X := fun w _ => laidMetH Tryd.prog Rows.labelWordsRow.laid w) false (World.laidAll Tryd.prog os Rows.labelWordsRow.laid) #[.string ⟨#[]⟩] 8 (World.laidAll_os _ _ _)
      (World.shaped_of_ZipB (by kernel_rfl) (by kernel_rfl)) (by kernel_rfl) (by kernel_rfl) (by kernel_rfl)
      (by rw [MakeChecks.laidMetH_plain _ _ _ (by kernel_rfl)]; exact laidMet_laidAll _ (by kernel_rfl) (by kernel_rfl))) ?_
  intro W base args ds gs before hval hW _ hwt _ _
  exact Go.Aa.law_rowZ (P := Tryd.prog) (cfg := Go.Aa.T.cfg) Go.Aa.T.cfgOk (f := 9) rfl rfl rfl (fn := Tryd.f9) (s := Rows.labelWordsSpec) (k := 5) (tb := 4) (by kernel_rfl) rfl Tryd.underlying4 rfl
    (fun ds hds => by
      rw [Tryd.params9] at hds
      match ds, hds with
      | [d1], _ => rfl)
    (fun xs h hz => Go.Aa.T.law9 xs (by rw [Tryd.params9] at h; exact h) (by rw [Tryd.params9] at hz; exact hz)) hval hW hwt

theorem row9_holds : Rows.LabelWordsSaid :=
  OpenClaim.holds_of_wide 9 Tryd.f9 rfl rfl rfl rfl rfl rfl rfl ⟨rfl, rfl, rfl, rfl, rfl⟩ rfl rfl rfl rfl rfl (by kernel_rfl) Tryd.func9 (by kernel_rfl)
    (of_decide_eq_true (by kernel_rfl)) (by unfold Func.isWrapper; first | (rw [if_pos (by decide +kernel)]; kernel_rfl) | (rw [if_neg (by decide +kernel)]; exact ⟨rfl, rfl⟩))
    (fun os started H enc _ => f_lifted9 os started H enc)

theorem labelWords_card : Rows.LabelWordsCardSaid :=
  Claim7.holds_tied_plain_at .later [] [.data, .pinned] true Rows.labelWordsCard.stood.harness true
    row9_holds (fun _ h => by cases h) (by kernel_rfl) (fun _ h => by cases h) labelWords_row_tie rfl ⟨rfl, rfl⟩ (by kernel_rfl) rfl
    (fun f fn hf hfn => by
      obtain rfl : f = 9 := Option.some.inj ((show Tryd.prog.funcNamed "ballast/ballastlaw4.LabelWords" = some 9 by kernel_rfl).symm.trans hf) |>.symm
      obtain rfl : fn = Tryd.f9 := (Option.some.inj (Tryd.func9.symm.trans hfn)).symm
      exact ⟨by kernel_rfl, fun j t ht => by
        rw [Tryd.params9] at ht
        have hm : t ∈ [9] := by simpa using Array.mem_of_getElem? ht
        have hall : ([9].all fun u => !Tryd.prog.wantsStandIn u) = true := by kernel_rfl
        exact (show Tryd.prog.wantsStandIn t = false by simpa using List.all_eq_true.1 hall t hm)⟩)
    (by kernel_rfl)

#print axioms labelWords_card
end Go.Proofs.YtmlipdlbeddijaaDoor
