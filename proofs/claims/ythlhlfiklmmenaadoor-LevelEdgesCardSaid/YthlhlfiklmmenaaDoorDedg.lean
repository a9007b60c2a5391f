/-
  LevelEdges returns true for any arguments, and each argument reads as it did, where the listed tables hold what the program's text says. (The tied card.)
-/
import Derived.Test.YthlhlfiklmmenaaDoorRows
import Derived.Test.YthlhlfiklmmenaaDoorTie
import Derived.Test.YthlhlfiklmmenaaDoorCards
import Derived.ProofKit
import Derived.Laws.Cover2
import Derived.Carry
import Derived.LaidMore
import Derived.Lay
import Derived.OpenShut
import Derived.Stop.Joined
import Derived.SevenTiedAt
import Derived.Test.YthlhlfiklmmenaaDoorDedgf
set_option linter.unusedVariables false
set_option linter.unusedSimpArgs false
namespace Go.Proofs.YthlhlfiklmmenaaDoor
open Go Go.ChangeShapes Go.WideShapes Go.ChangeAt Go.RowKit

set_option maxRecDepth 100000 in
theorem f_lifted3 (os : Os) (started : os.Started) (H : Type) (enc : TypeId × Value → H) :
    ReturnsInHanded {} Tryd.checked os 3 .any (fun w args => (Rows.levelEdgesSpec.pre enc Tryd.prog Tryd.f3 [] false w args ∧ laidMetH Tryd.prog Rows.levelEdgesRow.laid w) ∧ sizedMet enc Tryd.prog Tryd.f3 (OpenSpec.ofChange Rows.levelEdgesSpec) false w args)
      (Rows.levelEdgesSpec.post enc Tryd.prog Tryd.f3 false true false false) := by
  refine returnsInHanded_of_change_and (C := Tryd.checked) (X := fun w _ => laidMetH Tryd.prog Rows.levelEdgesRow.laid w) (fun _ _ _ hh h => h.of_heap hh) (show ownKnob Tryd.prog.godebug = none by kernel_rfl) started (by kernel_rfl) Tryd.func3
    (ChangeSpec.witness_shaped (enc := enc) (C := Tryd.checked) (os := os) (X := fun w _ => laidMetH Tryd.prog Rows.levelEdgesRow.laid w) false (World.laidAll Tryd.prog os Rows.levelEdgesRow.laid) #[.int .u8 0, .int .u8 0, .int .u8 0] 8 (World.laidAll_os _ _ _)
      (World.shaped_of_ZipB (by kernel_rfl) (by kernel_rfl)) (by kernel_rfl) (by kernel_rfl) (by kernel_rfl)
      (by rw [MakeChecks.laidMetH_plain _ _ _ (by kernel_rfl)]; exact laidMet_laidAll _ (by kernel_rfl) (by kernel_rfl))) ?_
  intro W base args ds gs before hval hW _ hwt _ _
  exact Go.Aa.law_rowZ (P := Tryd.prog) (cfg := Go.Aa.T.cfg) Go.Aa.T.cfgOk (f := 3) rfl rfl rfl (fn := Tryd.f3) (s := Rows.levelEdgesSpec) (k := 6) (tb := 4) (by kernel_rfl) rfl Tryd.underlying4 rfl
    (fun ds hds => by
      rw [Tryd.params3] at hds
      match ds, hds with
      | [d1, d2, d3], _ => rfl)
    (fun xs h hz => Go.Aa.T.law3 xs (by rw [Tryd.params3] at h; exact h) (by rw [Tryd.params3] at hz; exact hz)) hval hW hwt (Go.Aa.glob0_none (by kernel_rfl) W)

theorem row3_holds : Rows.LevelEdgesSaid :=
  OpenClaim.holds_of_wide 3 Tryd.f3 rfl rfl rfl rfl rfl rfl rfl ⟨rfl, rfl, rfl, rfl, rfl⟩ rfl rfl rfl rfl rfl (by kernel_rfl) Tryd.func3 (by kernel_rfl)
    (of_decide_eq_true (by kernel_rfl)) (by unfold Func.isWrapper; first | (rw [if_pos (by decide +kernel)]; kernel_rfl) | (rw [if_neg (by decide +kernel)]; exact ⟨rfl, rfl⟩))
    (fun os started H enc _ => f_lifted3 os started H enc)

theorem levelEdges_card : Rows.LevelEdgesCardSaid :=
  Claim7.holds_tied_plain_at .later [] [.data, .pinned] true Rows.levelEdgesCard.stood.harness true
    row3_holds (fun _ h => by cases h) (by kernel_rfl) (fun _ h => by cases h) levelEdges_row_tie rfl ⟨rfl, rfl⟩ (by kernel_rfl) rfl
    (fun f fn hf hfn => by
      obtain rfl : f = 3 := Option.some.inj ((show Tryd.prog.funcNamed "ballast/ballastlaw18.LevelEdges" = some 3 by kernel_rfl).symm.trans hf) |>.symm
      obtain rfl : fn = Tryd.f3 := (Option.some.inj (Tryd.func3.symm.trans hfn)).symm
      exact ⟨by kernel_rfl, fun j t ht => by
        rw [Tryd.params3] at ht
        have hm : t ∈ [5,5,5] := by simpa using Array.mem_of_getElem? ht
        have hall : ([5,5,5].all fun u => !Tryd.prog.wantsStandIn u) = true := by kernel_rfl
        exact (show Tryd.prog.wantsStandIn t = false by simpa using List.all_eq_true.1 hall t hm)⟩)
    (by kernel_rfl)

#print axioms levelEdges_card
end Go.Proofs.YthlhlfiklmmenaaDoor
