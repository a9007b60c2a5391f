/-
  ResWords returns true for any arguments, and each argument reads as it did, where the listed tables hold what the program's text says. (The tied card.)
-/
import Derived.Test.YtbcfceehklfojaaGreatDoorRows
import Derived.Test.YtbcfceehklfojaaGreatDoorTie
import Derived.Test.YtbcfceehklfojaaGreatDoorCards
import Derived.ProofKit
import Derived.Laws.Cover2
import Derived.Carry
import Derived.LaidMore
import Derived.Lay
import Derived.OpenShut
import Derived.Stop.Joined
import Derived.SevenTiedAt
import Derived.Test.YtbcfceehklfojaaGreatDoorVworf
set_option linter.unusedVariables false
set_option linter.unusedSimpArgs false
namespace Go.Proofs.YtbcfceehklfojaaGreatDoor
open Go Go.ChangeShapes Go.WideShapes Go.ChangeAt Go.RowKit

set_option maxRecDepth 100000 in
theorem f_lifted4 (os : Os) (started : os.Started) (H : Type) (enc : TypeId × Value → H) :
    ReturnsInHanded {} Tryz.checked os 4 .any (fun w args => (Rows.resWordsSpec.pre enc Tryz.prog Tryz.f4 [] false w args ∧ laidMetH Tryz.prog Rows.resWordsRow.laid w) ∧ sizedMet enc Tryz.prog Tryz.f4 (OpenSpec.ofChange Rows.resWordsSpec) false w args)
      (Rows.resWordsSpec.post enc Tryz.prog Tryz.f4 false true false false) := by
  refine returnsInHanded_of_change_and (C := Tryz.checked) (X := fun w _ => laidMetH Tryz.prog Rows.resWordsRow.laid w) (fun _ _ _ hh h => h.of_heap hh) (show ownKnob Tryz.prog.godebug = none by kernel_rfl) started (by kernel_rfl) Tryz.func4
    (ChangeSpec.witness_shaped (enc := enc) (C := Tryz.checked) (os := os) (X := fun w _ => laidMetH Tryz.prog Rows.resWordsRow.laid w) false (World.laidAll Tryz.prog os Rows.resWordsRow.laid) #[.string ⟨#[]⟩, .slice none 0 0] 8 (World.laidAll_os _ _ _)
      (World.shaped_of_ZipB (by kernel_rfl) (by kernel_rfl)) (by kernel_rfl) (by kernel_rfl) (by kernel_rfl)
      (by rw [MakeChecks.laidMetH_plain _ _ _ (by kernel_rfl)]; exact laidMet_laidAll _ (by kernel_rfl) (by kernel_rfl))) ?_
  intro W base args ds gs before hval hW _ hwt hx _
  have hl : laidMet Tryz.prog Go.Aa.T.laidL W := by
    have h := hx
    rw [MakeChecks.laidMetH_plain _ _ _ (by kernel_rfl)] at h
    exact h
  exact Go.Aa.law_rowZ (P := Tryz.prog) (cfg := Go.Aa.T.cfg) Go.Aa.T.cfgOk (f := 4) rfl rfl rfl (fn := Tryz.f4) (s := Rows.resWordsSpec) (k := 5) (tb := 4) (by kernel_rfl) rfl Tryz.underlying4 rfl
    (fun ds hds => by
      rw [Tryz.params4] at hds
      match ds, hds with
      | [d1, d2], _ => rfl)
    (fun xs h hz => Go.Aa.T.law4 xs (by rw [Tryz.params4] at h; exact h) (by rw [Tryz.params4] at hz; exact hz)) hval hW hwt (Go.Aa.T.glob0W hl)

theorem loops4 : (Tryz.f4.params.toList ++ Rows.resWordsSpec.plain.varTypes Tryz.pinned.checked.prog).any (Tryz.pinned.checked.prog.loopsFrom ·) = false :=
  Go.Aa.rk_all (R := [(2, 0), (9, 0), (23, 2), (81, 1)]) (by kernel_rfl) (by kernel_rfl)
theorem jf4_0 : (Rows.resWordsRow.inPlace == Tryz.pinned.checked.prog.inPlace 4) = true := by kernel_rfl
theorem jf4_1 : (Rows.resWordsRow.unfollowed == Tryz.pinned.checked.prog.unfollowed 4) = true := by kernel_rfl
theorem jf4_2 : (Rows.resWordsRow.recurses == Tryz.pinned.checked.prog.recurses 4) = true := by kernel_rfl
theorem jf4_3 : (Rows.resWordsRow.named == Tryz.pinned.checked.prog.varsNamed 4) = true := by kernel_rfl
theorem jf4_4 : (laidOutB Tryz.pinned.checked.prog) = true := by kernel_rfl
theorem jf4_5 : (mapsRowed Tryz.pinned.checked.prog) = true := by kernel_rfl
theorem row4_holds : Rows.ResWordsSaid :=
  OpenClaim.holds_of_wide 4 Tryz.f4 rfl rfl rfl rfl rfl rfl rfl ⟨rfl, rfl, rfl, rfl, rfl⟩ rfl rfl rfl rfl rfl (by kernel_rfl) Tryz.func4 (by
      unfold joinedFacts
      rw [loops4, jf4_0, jf4_1, jf4_2, jf4_3, jf4_4, jf4_5]
      kernel_rfl)
    (of_decide_eq_true (by kernel_rfl)) (by unfold Func.isWrapper; first | (rw [if_pos (by decide +kernel)]; kernel_rfl) | (rw [if_neg (by decide +kernel)]; exact ⟨rfl, rfl⟩))
    (fun os started H enc _ => f_lifted4 os started H enc)

theorem resWords_card : Rows.ResWordsCardSaid :=
  Claim7.holds_tied_plain_at .later [] [.data, .data, .data, .data, .sentinel, .sentinel, .pinned] true Rows.resWordsCard.stood.harness true
    row4_holds (fun _ h => by cases h) (by as_aux_lemma => kernel_rfl) (fun _ h => by cases h) resWords_row_tie rfl ⟨rfl, rfl⟩ (by as_aux_lemma => kernel_rfl) rfl
    (fun f fn hf hfn => by
      obtain rfl : f = 4 := Option.some.inj ((show Tryz.prog.funcNamed "ballast/ballastlaw2.ResWords" = some 4 by as_aux_lemma => kernel_rfl).symm.trans hf) |>.symm
      obtain rfl : fn = Tryz.f4 := (Option.some.inj (Tryz.func4.symm.trans hfn)).symm
      exact ⟨by as_aux_lemma => kernel_rfl, fun j t ht => by
        rw [Tryz.params4] at ht
        have hm : t ∈ [9,23] := by simpa using Array.mem_of_getElem? ht
        have hall : ([9,23].all fun u => !Tryz.prog.wantsStandIn u) = true := by as_aux_lemma => kernel_rfl
        exact (show Tryz.prog.wantsStandIn t = false by simpa using List.all_eq_true.1 hall t hm)⟩)
    (by as_aux_lemma => kernel_rfl)

#print axioms resWords_card
end Go.Proofs.YtbcfceehklfojaaGreatDoor
