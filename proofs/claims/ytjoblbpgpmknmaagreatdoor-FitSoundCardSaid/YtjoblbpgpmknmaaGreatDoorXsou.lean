/-
  FitSound returns true for any arguments, and each argument reads as it did, where the listed tables hold what the program's text says. (The tied card.)
-/
import Derived.Test.YtjoblbpgpmknmaaGreatDoorRows
import Derived.Test.YtjoblbpgpmknmaaGreatDoorTie
import Derived.Test.YtjoblbpgpmknmaaGreatDoorCards
import Derived.ProofKit
import Derived.Laws.Cover2
import Derived.Carry
import Derived.LaidMore
import Derived.Lay
import Derived.OpenShut
import Derived.Stop.Joined
import Derived.SevenTiedAt
import Derived.Test.YtjoblbpgpmknmaaGreatDoorXsoun
set_option linter.unusedVariables false
set_option linter.unusedSimpArgs false
namespace Go.Proofs.YtjoblbpgpmknmaaGreatDoor
open Go Go.ChangeShapes Go.WideShapes Go.ChangeAt Go.RowKit

set_option maxRecDepth 100000 in
theorem f_lifted14 (os : Os) (started : os.Started) (H : Type) (enc : TypeId × Value → H) :
    ReturnsInHanded {} Tryz.checked os 14 .any (fun w args => (Rows.fitSoundSpec.pre enc Tryz.prog Tryz.f14 [] false w args ∧ laidMetH Tryz.prog Rows.fitSoundRow.laid w) ∧ sizedMet enc Tryz.prog Tryz.f14 (OpenSpec.ofChange Rows.fitSoundSpec) false w args)
      (Rows.fitSoundSpec.post enc Tryz.prog Tryz.f14 false true false false) := by
  refine returnsInHanded_of_change_and (C := Tryz.checked) (X := fun w _ => laidMetH Tryz.prog Rows.fitSoundRow.laid w) (fun _ _ _ hh h => h.of_heap hh) (show ownKnob Tryz.prog.godebug = none by kernel_rfl) started (by kernel_rfl) Tryz.func14
    (ChangeSpec.witness_shaped (enc := enc) (C := Tryz.checked) (os := os) (X := fun w _ => laidMetH Tryz.prog Rows.fitSoundRow.laid w) false (World.laidAll Tryz.prog os Rows.fitSoundRow.laid) #[.agg #[.slice none 0 0, .slice none 0 0, .slice none 0 0], .agg #[.string ⟨#[]⟩, .string ⟨#[]⟩, .int .i64 0, .slice none 0 0, .slice none 0 0, .slice none 0 0, .slice none 0 0, .string ⟨#[]⟩, .int .i64 0, .string ⟨#[]⟩, .bool false]] 8 (World.laidAll_os _ _ _)
      (World.shaped_of_ZipB (by kernel_rfl) (by kernel_rfl)) (by kernel_rfl) (by kernel_rfl) (by kernel_rfl)
      (by rw [MakeChecks.laidMetH_plain _ _ _ (by kernel_rfl)]; exact laidMet_laidAll _ (by kernel_rfl) (by kernel_rfl))) ?_
  intro W base args ds gs before hval hW _ hwt _ _
  exact Go.Aa.law_rowZ (P := Tryz.prog) (cfg := Go.Aa.T.cfg) Go.Aa.T.cfgOk (f := 14) rfl rfl rfl (fn := Tryz.f14) (s := Rows.fitSoundSpec) (k := 6) (tb := 4) (by kernel_rfl) rfl Tryz.underlying4 rfl
    (fun ds hds => by
      rw [Tryz.params14] at hds
      match ds, hds with
      | [d1, d2], _ => rfl)
    (fun xs h hz => Go.Aa.T.law14 xs (by rw [Tryz.params14] at h; exact h) (by rw [Tryz.params14] at hz; exact hz)) hval hW hwt (Go.Aa.glob0_none (by kernel_rfl) W)

theorem loops14 : (Tryz.f14.params.toList ++ Rows.fitSoundSpec.plain.varTypes Tryz.pinned.checked.prog).any (Tryz.pinned.checked.prog.loopsFrom ·) = false :=
  Go.Aa.rk_all (R := [(2, 0), (3, 0), (4, 0), (9, 0), (22, 4), (23, 4), (24, 4), (26, 5), (28, 2), (30, 2), (32, 2), (33, 2), (35, 3), (62, 2), (64, 3), (100, 1), (110, 1), (112, 1), (181, 3), (201, 1), (205, 1)]) (by kernel_rfl) (by kernel_rfl)
theorem jf14_0 : (Rows.fitSoundRow.inPlace == Tryz.pinned.checked.prog.inPlace 14) = true := by kernel_rfl
theorem jf14_1 : (Rows.fitSoundRow.unfollowed == Tryz.pinned.checked.prog.unfollowed 14) = true := by kernel_rfl
theorem jf14_2 : (Rows.fitSoundRow.recurses == Tryz.pinned.checked.prog.recurses 14) = true := by kernel_rfl
theorem jf14_3 : (Rows.fitSoundRow.named == Tryz.pinned.checked.prog.varsNamed 14) = true := by kernel_rfl
theorem jf14_4 : (laidOutB Tryz.pinned.checked.prog) = true := by kernel_rfl
theorem jf14_5 : (mapsRowed Tryz.pinned.checked.prog) = true := by kernel_rfl
theorem row14_holds : Rows.FitSoundSaid :=
  OpenClaim.holds_of_wide 14 Tryz.f14 rfl rfl rfl rfl rfl rfl rfl ⟨rfl, rfl, rfl, rfl, rfl⟩ rfl rfl rfl rfl rfl (by kernel_rfl) Tryz.func14 (by
      unfold joinedFacts
      rw [loops14, jf14_0, jf14_1, jf14_2, jf14_3, jf14_4, jf14_5]
      kernel_rfl)
    (of_decide_eq_true (by kernel_rfl)) (by unfold Func.isWrapper; first | (rw [if_pos (by decide +kernel)]; kernel_rfl) | (rw [if_neg (by decide +kernel)]; exact ⟨rfl, rfl⟩))
    (fun os started H enc _ => f_lifted14 os started H enc)

theorem fitSound_card : Rows.FitSoundCardSaid :=
  Claim7.holds_tied_plain_at .later [] [.data, .pinned] true Rows.fitSoundCard.stood.harness true
    row14_holds (fun _ h => by cases h) (by kernel_rfl) (fun _ h => by cases h) fitSound_row_tie rfl ⟨rfl, rfl⟩ (by kernel_rfl) rfl
    (fun f fn hf hfn => by
      obtain rfl : f = 14 := Option.some.inj ((show Tryz.prog.funcNamed "ballast/ballastlaw12.FitSound" = some 14 by kernel_rfl).symm.trans hf) |>.symm
      obtain rfl : fn = Tryz.f14 := (Option.some.inj (Tryz.func14.symm.trans hfn)).symm
      exact ⟨by kernel_rfl, fun j t ht => by
        rw [Tryz.params14] at ht
        have hm : t ∈ [26,35] := by simpa using Array.mem_of_getElem? ht
        have hall : ([26,35].all fun u => !Tryz.prog.wantsStandIn u) = true := by kernel_rfl
        exact (show Tryz.prog.wantsStandIn t = false by simpa using List.all_eq_true.1 hall t hm)⟩)
    (by kernel_rfl)

#print axioms fitSound_card
end Go.Proofs.YtjoblbpgpmknmaaGreatDoor
