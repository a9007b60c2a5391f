/-
  StateRoom returns true for any arguments, and each argument reads as it did, where the listed tables hold what the program's text says. (The tied card.)
-/
import Derived.Test.YtjoblbpgpmknmaaGreatDoorRows
import Derived.Test.YtjoblbpgpmknmaaGreatDoorTie
import Derived.Test.YtjoblbpgpmknmaaGreatDoorCards
import Derived.ProofKit
import Derived.Laws.Cover2
import Derived.Carry
import Derived.LaidMore
import Derived.Lay
import Derived.OpenShut
import Derived.Stop.Joined
import Derived.SevenTiedAt
import Derived.Test.YtjoblbpgpmknmaaGreatDoorXroomj
set_option linter.unusedVariables false
set_option linter.unusedSimpArgs false
namespace Go.Proofs.YtjoblbpgpmknmaaGreatDoor
open Go Go.ChangeShapes Go.WideShapes Go.ChangeAt Go.RowKit

set_option maxRecDepth 100000 in
theorem f_lifted10 (os : Os) (started : os.Started) (H : Type) (enc : TypeId × Value → H) :
    ReturnsInHanded {} Tryz.checked os 10 .any (fun w args => (Rows.stateRoomSpec.pre enc Tryz.prog Tryz.f10 [] false w args ∧ laidMetH Tryz.prog Rows.stateRoomRow.laid w) ∧ sizedMet enc Tryz.prog Tryz.f10 (OpenSpec.ofChange Rows.stateRoomSpec) false w args)
      (Rows.stateRoomSpec.post enc Tryz.prog Tryz.f10 false true false false) := by
  refine returnsInHanded_of_change_and (C := Tryz.checked) (X := fun w _ => laidMetH Tryz.prog Rows.stateRoomRow.laid w) (fun _ _ _ hh h => h.of_heap hh) (show ownKnob Tryz.prog.godebug = none by kernel_rfl) started (by kernel_rfl) Tryz.func10
    (ChangeSpec.witness_shaped (enc := enc) (C := Tryz.checked) (os := os) (X := fun w _ => laidMetH Tryz.prog Rows.stateRoomRow.laid w) false (World.laidAll Tryz.prog os Rows.stateRoomRow.laid) #[.agg #[.slice none 0 0, .slice none 0 0, .slice none 0 0], .int .u8 0, .int .u8 0] 8 (World.laidAll_os _ _ _)
      (World.shaped_of_ZipB (by kernel_rfl) (by kernel_rfl)) (by kernel_rfl) (by kernel_rfl) (by kernel_rfl)
      (by rw [MakeChecks.laidMetH_plain _ _ _ (by kernel_rfl)]; exact laidMet_laidAll _ (by kernel_rfl) (by kernel_rfl))) ?_
  intro W base args ds gs before hval hW _ hwt _ _
  exact Go.Aa.law_rowZ (P := Tryz.prog) (cfg := Go.Aa.T.cfg) Go.Aa.T.cfgOk (f := 10) rfl rfl rfl (fn := Tryz.f10) (s := Rows.stateRoomSpec) (k := 6) (tb := 4) (by kernel_rfl) rfl Tryz.underlying4 rfl
    (fun ds hds => by
      rw [Tryz.params10] at hds
      match ds, hds with
      | [d1, d2, d3], _ => rfl)
    (fun xs h hz => Go.Aa.T.law10 xs (by rw [Tryz.params10] at h; exact h) (by rw [Tryz.params10] at hz; exact hz)) hval hW hwt (Go.Aa.glob0_none (by kernel_rfl) W)

theorem loops10 : (Tryz.f10.params.toList ++ Rows.stateRoomSpec.plain.varTypes Tryz.pinned.checked.prog).any (Tryz.pinned.checked.prog.loopsFrom ·) = false :=
  Go.Aa.rk_all (R := [(2, 0), (3, 0), (4, 0), (5, 0), (9, 0), (22, 4), (23, 4), (24, 4), (26, 5), (28, 2), (30, 2), (32, 2), (33, 2), (35, 3), (62, 2), (64, 3), (100, 1), (110, 1), (112, 1), (181, 3), (201, 1), (205, 1)]) (by kernel_rfl) (by kernel_rfl)
theorem jf10_0 : (Rows.stateRoomRow.inPlace == Tryz.pinned.checked.prog.inPlace 10) = true := by kernel_rfl
theorem jf10_1 : (Rows.stateRoomRow.unfollowed == Tryz.pinned.checked.prog.unfollowed 10) = true := by kernel_rfl
theorem jf10_2 : (Rows.stateRoomRow.recurses == Tryz.pinned.checked.prog.recurses 10) = true := by kernel_rfl
theorem jf10_3 : (Rows.stateRoomRow.named == Tryz.pinned.checked.prog.varsNamed 10) = true := by kernel_rfl
theorem jf10_4 : (laidOutB Tryz.pinned.checked.prog) = true := by kernel_rfl
theorem jf10_5 : (mapsRowed Tryz.pinned.checked.prog) = true := by kernel_rfl
theorem row10_holds : Rows.StateRoomSaid :=
  OpenClaim.holds_of_wide 10 Tryz.f10 rfl rfl rfl rfl rfl rfl rfl ⟨rfl, rfl, rfl, rfl, rfl⟩ rfl rfl rfl rfl rfl (by kernel_rfl) Tryz.func10 (by
      unfold joinedFacts
      rw [loops10, jf10_0, jf10_1, jf10_2, jf10_3, jf10_4, jf10_5]
      kernel_rfl)
    (of_decide_eq_true (by kernel_rfl)) (by unfold Func.isWrapper; first | (rw [if_pos (by decide +kernel)]; kernel_rfl) | (rw [if_neg (by decide +kernel)]; exact ⟨rfl, rfl⟩))
    (fun os started H enc _ => f_lifted10 os started H enc)

theorem stateRoom_card : Rows.StateRoomCardSaid :=
  Claim7.holds_tied_plain_at .later [] [.data, .pinned] true Rows.stateRoomCard.stood.harness true
    row10_holds (fun _ h => by cases h) (by kernel_rfl) (fun _ h => by cases h) stateRoom_row_tie rfl ⟨rfl, rfl⟩ (by kernel_rfl) rfl
    (fun f fn hf hfn => by
      obtain rfl : f = 10 := Option.some.inj ((show Tryz.prog.funcNamed "ballast/ballastlaw9.StateRoom" = some 10 by kernel_rfl).symm.trans hf) |>.symm
      obtain rfl : fn = Tryz.f10 := (Option.some.inj (Tryz.func10.symm.trans hfn)).symm
      exact ⟨by kernel_rfl, fun j t ht => by
        rw [Tryz.params10] at ht
        have hm : t ∈ [26,5,5] := by simpa using Array.mem_of_getElem? ht
        have hall : ([26,5,5].all fun u => !Tryz.prog.wantsStandIn u) = true := by kernel_rfl
        exact (show Tryz.prog.wantsStandIn t = false by simpa using List.all_eq_true.1 hall t hm)⟩)
    (by kernel_rfl)

#print axioms stateRoom_card
end Go.Proofs.YtjoblbpgpmknmaaGreatDoor
