/-
  StratTaint returns true for any arguments, and each argument reads as it did, where the listed tables hold what the program's text says. (The tied card.)
-/
import Derived.Test.YthlhlfiklmmenaaGreatDoorRows
import Derived.Test.YthlhlfiklmmenaaGreatDoorTie
import Derived.Test.YthlhlfiklmmenaaGreatDoorCards
import Derived.ProofKit
import Derived.Laws.Cover2
import Derived.Carry
import Derived.LaidMore
import Derived.Lay
import Derived.OpenShut
import Derived.Stop.Joined
import Derived.SevenTiedAt
import Derived.Test.YthlhlfiklmmenaaGreatDoorYtaim
set_option linter.unusedVariables false
set_option linter.unusedSimpArgs false
namespace Go.Proofs.YthlhlfiklmmenaaGreatDoor
open Go Go.ChangeShapes Go.WideShapes Go.ChangeAt Go.RowKit

set_option maxRecDepth 100000 in
theorem f_lifted9 (os : Os) (started : os.Started) (H : Type) (enc : TypeId × Value → H) :
    ReturnsInHanded {} Tryz.checked os 9 .any (fun w args => (Rows.stratTaintSpec.pre enc Tryz.prog Tryz.f9 [] false w args ∧ laidMetH Tryz.prog Rows.stratTaintRow.laid w) ∧ sizedMet enc Tryz.prog Tryz.f9 (OpenSpec.ofChange Rows.stratTaintSpec) false w args)
      (Rows.stratTaintSpec.post enc Tryz.prog Tryz.f9 false true false false) := by
  refine returnsInHanded_of_change_and (C := Tryz.checked) (X := fun w _ => laidMetH Tryz.prog Rows.stratTaintRow.laid w) (fun _ _ _ hh h => h.of_heap hh) (show ownKnob Tryz.prog.godebug = none by kernel_rfl) started (by kernel_rfl) Tryz.func9
    (ChangeSpec.witness_shaped (enc := enc) (C := Tryz.checked) (os := os) (X := fun w _ => laidMetH Tryz.prog Rows.stratTaintRow.laid w) false (World.laidAll Tryz.prog os Rows.stratTaintRow.laid) #[.agg #[.slice none 0 0, .slice none 0 0, .slice none 0 0]] 8 (World.laidAll_os _ _ _)
      (World.shaped_of_ZipB (by kernel_rfl) (by kernel_rfl)) (by kernel_rfl) (by kernel_rfl) (by kernel_rfl)
      (by rw [MakeChecks.laidMetH_plain _ _ _ (by kernel_rfl)]; exact laidMet_laidAll _ (by kernel_rfl) (by kernel_rfl))) ?_
  intro W base args ds gs before hval hW _ hwt _ _
  exact Go.Aa.law_rowZ (P := Tryz.prog) (cfg := Go.Aa.T.cfg) Go.Aa.T.cfgOk (f := 9) rfl rfl rfl (fn := Tryz.f9) (s := Rows.stratTaintSpec) (k := 6) (tb := 4) (by kernel_rfl) rfl Tryz.underlying4 rfl
    (fun ds hds => by
      rw [Tryz.params9] at hds
      match ds, hds with
      | [d1], _ => rfl)
    (fun xs h hz => Go.Aa.T.law9 xs (by rw [Tryz.params9] at h; exact h) (by rw [Tryz.params9] at hz; exact hz)) hval hW hwt (Go.Aa.glob0_none (by kernel_rfl) W)

theorem loops9 : (Tryz.f9.params.toList ++ Rows.stratTaintSpec.plain.varTypes Tryz.pinned.checked.prog).any (Tryz.pinned.checked.prog.loopsFrom ·) = false :=
  Go.Aa.rk_all (R := [(2, 0), (3, 0), (4, 0), (9, 0), (22, 4), (23, 4), (24, 4), (26, 5), (48, 2), (50, 2), (51, 2), (53, 3), (78, 2), (79, 2), (81, 3), (93, 1), (95, 3), (99, 1), (124, 1), (163, 1), (239, 1)]) (by kernel_rfl) (by kernel_rfl)
theorem jf9_0 : (Rows.stratTaintRow.inPlace == Tryz.pinned.checked.prog.inPlace 9) = true := by kernel_rfl
theorem jf9_1 : (Rows.stratTaintRow.unfollowed == Tryz.pinned.checked.prog.unfollowed 9) = true := by kernel_rfl
theorem jf9_2 : (Rows.stratTaintRow.recurses == Tryz.pinned.checked.prog.recurses 9) = true := by kernel_rfl
theorem jf9_3 : (Rows.stratTaintRow.named == Tryz.pinned.checked.prog.varsNamed 9) = true := by kernel_rfl
theorem jf9_4 : (laidOutB Tryz.pinned.checked.prog) = true := by kernel_rfl
theorem jf9_5 : (mapsRowed Tryz.pinned.checked.prog) = true := by kernel_rfl
theorem row9_holds : Rows.StratTaintSaid :=
  OpenClaim.holds_of_wide 9 Tryz.f9 rfl rfl rfl rfl rfl rfl rfl ⟨rfl, rfl, rfl, rfl, rfl⟩ rfl rfl rfl rfl rfl (by kernel_rfl) Tryz.func9 (by
      unfold joinedFacts
      rw [loops9, jf9_0, jf9_1, jf9_2, jf9_3, jf9_4, jf9_5]
      kernel_rfl)
    (of_decide_eq_true (by kernel_rfl)) (by unfold Func.isWrapper; first | (rw [if_pos (by decide +kernel)]; kernel_rfl) | (rw [if_neg (by decide +kernel)]; exact ⟨rfl, rfl⟩))
    (fun os started H enc _ => f_lifted9 os started H enc)

theorem stratTaint_card : Rows.StratTaintCardSaid :=
  Claim7.holds_tied_plain_at .later [] [.data, .pinned] true Rows.stratTaintCard.stood.harness true
    row9_holds (fun _ h => by cases h) (by as_aux_lemma => kernel_rfl) (fun _ h => by cases h) stratTaint_row_tie rfl ⟨rfl, rfl⟩ (by as_aux_lemma => kernel_rfl) rfl
    (fun f fn hf hfn => by
      obtain rfl : f = 9 := Option.some.inj ((show Tryz.prog.funcNamed "ballast/ballastlaw19.StratTaint" = some 9 by as_aux_lemma => kernel_rfl).symm.trans hf) |>.symm
      obtain rfl : fn = Tryz.f9 := (Option.some.inj (Tryz.func9.symm.trans hfn)).symm
      exact ⟨by as_aux_lemma => kernel_rfl, fun j t ht => by
        rw [Tryz.params9] at ht
        have hm : t ∈ [26] := by simpa using Array.mem_of_getElem? ht
        have hall : ([26].all fun u => !Tryz.prog.wantsStandIn u) = true := by as_aux_lemma => kernel_rfl
        exact (show Tryz.prog.wantsStandIn t = false by simpa using List.all_eq_true.1 hall t hm)⟩)
    (by as_aux_lemma => kernel_rfl)

#print axioms stratTaint_card
end Go.Proofs.YthlhlfiklmmenaaGreatDoor
