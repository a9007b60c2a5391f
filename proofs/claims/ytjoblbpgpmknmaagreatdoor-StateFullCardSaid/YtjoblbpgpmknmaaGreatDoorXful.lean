/-
  StateFull returns true for any arguments, and each argument reads as it did, where the listed tables hold what the program's text says. (The tied card.)
-/
import Derived.Test.YtjoblbpgpmknmaaGreatDoorRows
import Derived.Test.YtjoblbpgpmknmaaGreatDoorTie
import Derived.Test.YtjoblbpgpmknmaaGreatDoorCards
import Derived.ProofKit
import Derived.Laws.Cover2
import Derived.Carry
import Derived.LaidMore
import Derived.Lay
import Derived.OpenShut
import Derived.Stop.Joined
import Derived.SevenTiedAt
import Derived.Test.YtjoblbpgpmknmaaGreatDoorXfulh
set_option linter.unusedVariables false
set_option linter.unusedSimpArgs false
namespace Go.Proofs.YtjoblbpgpmknmaaGreatDoor
open Go Go.ChangeShapes Go.WideShapes Go.ChangeAt Go.RowKit

set_option maxRecDepth 100000 in
theorem f_lifted11 (os : Os) (started : os.Started) (H : Type) (enc : TypeId × Value → H) :
    ReturnsInHanded {} Tryz.checked os 11 .any (fun w args => (Rows.stateFullSpec.pre enc Tryz.prog Tryz.f11 [] false w args ∧ laidMetH Tryz.prog Rows.stateFullRow.laid w) ∧ sizedMet enc Tryz.prog Tryz.f11 (OpenSpec.ofChange Rows.stateFullSpec) false w args)
      (Rows.stateFullSpec.post enc Tryz.prog Tryz.f11 false true false false) := by
  refine returnsInHanded_of_change_and (C := Tryz.checked) (X := fun w _ => laidMetH Tryz.prog Rows.stateFullRow.laid w) (fun _ _ _ hh h => h.of_heap hh) (show ownKnob Tryz.prog.godebug = none by kernel_rfl) started (by kernel_rfl) Tryz.func11
    (ChangeSpec.witness_shaped (enc := enc) (C := Tryz.checked) (os := os) (X := fun w _ => laidMetH Tryz.prog Rows.stateFullRow.laid w) false (World.laidAll Tryz.prog os Rows.stateFullRow.laid) #[.int .u8 0, .int .u8 0] 8 (World.laidAll_os _ _ _)
      (World.shaped_of_ZipB (by kernel_rfl) (by kernel_rfl)) (by kernel_rfl) (by kernel_rfl) (by kernel_rfl)
      (by rw [MakeChecks.laidMetH_plain _ _ _ (by kernel_rfl)]; exact laidMet_laidAll _ (by kernel_rfl) (by kernel_rfl))) ?_
  intro W base args ds gs before hval hW _ hwt _ _
  exact Go.Aa.law_rowZ (P := Tryz.prog) (cfg := Go.Aa.T.cfg) Go.Aa.T.cfgOk (f := 11) rfl rfl rfl (fn := Tryz.f11) (s := Rows.stateFullSpec) (k := 5) (tb := 4) (by kernel_rfl) rfl Tryz.underlying4 rfl
    (fun ds hds => by
      rw [Tryz.params11] at hds
      match ds, hds with
      | [d1, d2], _ => rfl)
    (fun xs h hz => Go.Aa.T.law11 xs (by rw [Tryz.params11] at h; exact h) (by rw [Tryz.params11] at hz; exact hz)) hval hW hwt (Go.Aa.glob0_none (by kernel_rfl) W)

theorem loops11 : (Tryz.f11.params.toList ++ Rows.stateFullSpec.plain.varTypes Tryz.pinned.checked.prog).any (Tryz.pinned.checked.prog.loopsFrom ·) = false :=
  Go.Aa.rk_all (R := [(5, 0)]) (by kernel_rfl) (by kernel_rfl)
theorem jf11_0 : (Rows.stateFullRow.inPlace == Tryz.pinned.checked.prog.inPlace 11) = true := by kernel_rfl
theorem jf11_1 : (Rows.stateFullRow.unfollowed == Tryz.pinned.checked.prog.unfollowed 11) = true := by kernel_rfl
theorem jf11_2 : (Rows.stateFullRow.recurses == Tryz.pinned.checked.prog.recurses 11) = true := by kernel_rfl
theorem jf11_3 : (Rows.stateFullRow.named == Tryz.pinned.checked.prog.varsNamed 11) = true := by kernel_rfl
theorem jf11_4 : (laidOutB Tryz.pinned.checked.prog) = true := by kernel_rfl
theorem jf11_5 : (mapsRowed Tryz.pinned.checked.prog) = true := by kernel_rfl
theorem row11_holds : Rows.StateFullSaid :=
  OpenClaim.holds_of_wide 11 Tryz.f11 rfl rfl rfl rfl rfl rfl rfl ⟨rfl, rfl, rfl, rfl, rfl⟩ rfl rfl rfl rfl rfl (by kernel_rfl) Tryz.func11 (by
      unfold joinedFacts
      rw [loops11, jf11_0, jf11_1, jf11_2, jf11_3, jf11_4, jf11_5]
      kernel_rfl)
    (of_decide_eq_true (by kernel_rfl)) (by unfold Func.isWrapper; first | (rw [if_pos (by decide +kernel)]; kernel_rfl) | (rw [if_neg (by decide +kernel)]; exact ⟨rfl, rfl⟩))
    (fun os started H enc _ => f_lifted11 os started H enc)

theorem stateFull_card : Rows.StateFullCardSaid :=
  Claim7.holds_tied_plain_at .later [] [.data, .pinned] true Rows.stateFullCard.stood.harness true
    row11_holds (fun _ h => by cases h) (by kernel_rfl) (fun _ h => by cases h) stateFull_row_tie rfl ⟨rfl, rfl⟩ (by kernel_rfl) rfl
    (fun f fn hf hfn => by
      obtain rfl : f = 11 := Option.some.inj ((show Tryz.prog.funcNamed "ballast/ballastlaw9.StateFull" = some 11 by kernel_rfl).symm.trans hf) |>.symm
      obtain rfl : fn = Tryz.f11 := (Option.some.inj (Tryz.func11.symm.trans hfn)).symm
      exact ⟨by kernel_rfl, fun j t ht => by
        rw [Tryz.params11] at ht
        have hm : t ∈ [5,5] := by simpa using Array.mem_of_getElem? ht
        have hall : ([5,5].all fun u => !Tryz.prog.wantsStandIn u) = true := by kernel_rfl
        exact (show Tryz.prog.wantsStandIn t = false by simpa using List.all_eq_true.1 hall t hm)⟩)
    (by kernel_rfl)

#print axioms stateFull_card
end Go.Proofs.YtjoblbpgpmknmaaGreatDoor
