/-
  NodeAny returns true for any arguments, and each argument reads as it did, where the listed tables hold what the program's text says. (The tied card.)
-/
import Derived.Test.YtppplbpilpjokaaGreatDoorRows
import Derived.Test.YtppplbpilpjokaaGreatDoorTie
import Derived.Test.YtppplbpilpjokaaGreatDoorCards
import Derived.ProofKit
import Derived.Laws.Cover2
import Derived.Carry
import Derived.LaidMore
import Derived.Lay
import Derived.OpenShut
import Derived.Stop.Joined
import Derived.SevenTiedAt
import Derived.Test.YtppplbpilpjokaaGreatDoorZjh
set_option linter.unusedVariables false
set_option linter.unusedSimpArgs false
namespace Go.Proofs.YtppplbpilpjokaaGreatDoor
open Go Go.ChangeShapes Go.WideShapes Go.ChangeAt Go.RowKit

set_option maxRecDepth 100000 in
theorem f_lifted6 (os : Os) (started : os.Started) (H : Type) (enc : TypeId × Value → H) :
    ReturnsInHanded {} Tryz.checked os 6 .any (fun w args => (Rows.nodeAnySpec.pre enc Tryz.prog Tryz.f6 [] false w args ∧ laidMetH Tryz.prog Rows.nodeAnyRow.laid w) ∧ sizedMet enc Tryz.prog Tryz.f6 (OpenSpec.ofChange Rows.nodeAnySpec) false w args)
      (Rows.nodeAnySpec.post enc Tryz.prog Tryz.f6 false true false false) := by
  refine returnsInHanded_of_change_and (C := Tryz.checked) (X := fun w _ => laidMetH Tryz.prog Rows.nodeAnyRow.laid w) (fun _ _ _ hh h => h.of_heap hh) (show ownKnob Tryz.prog.godebug = none by kernel_rfl) started (by kernel_rfl) Tryz.func6
    (ChangeSpec.witness_shaped (enc := enc) (C := Tryz.checked) (os := os) (X := fun w _ => laidMetH Tryz.prog Rows.nodeAnyRow.laid w) false (World.laidAll Tryz.prog os Rows.nodeAnyRow.laid) #[.agg #[.string ⟨#[]⟩, .slice none 0 0, .slice none 0 0, .slice none 0 0, .bool false], .agg #[.string ⟨#[]⟩, .slice none 0 0, .slice none 0 0, .slice none 0 0, .bool false]] 8 (World.laidAll_os _ _ _)
      (World.shaped_of_ZipB (by kernel_rfl) (by kernel_rfl)) (by kernel_rfl) (by kernel_rfl) (by kernel_rfl)
      (by rw [MakeChecks.laidMetH_plain _ _ _ (by kernel_rfl)]; exact laidMet_laidAll _ (by kernel_rfl) (by kernel_rfl))) ?_
  intro W base args ds gs before hval hW _ hwt hx _
  have hl : laidMet Tryz.prog Go.Aa.T.laidL W := by
    have h := hx
    rw [MakeChecks.laidMetH_plain _ _ _ (by kernel_rfl)] at h
    exact h
  exact Go.Aa.law_rowZ (P := Tryz.prog) (cfg := Go.Aa.T.cfg) Go.Aa.T.cfgOk (f := 6) rfl rfl rfl (fn := Tryz.f6) (s := Rows.nodeAnySpec) (k := 5) (tb := 4) (by kernel_rfl) rfl Tryz.underlying4 rfl
    (fun ds hds => by
      rw [Tryz.params6] at hds
      match ds, hds with
      | [d1, d2], _ => rfl)
    (fun xs h hz => Go.Aa.T.law6 xs (by rw [Tryz.params6] at h; exact h) (by rw [Tryz.params6] at hz; exact hz)) hval hW hwt (Go.Aa.T.glob0Z hl)

theorem row6_holds : Rows.NodeAnySaid :=
  OpenClaim.holds_of_wide 6 Tryz.f6 rfl rfl rfl rfl rfl rfl rfl ⟨rfl, rfl, rfl, rfl, rfl⟩ rfl rfl rfl rfl rfl (by kernel_rfl) Tryz.func6 (by kernel_rfl)
    (of_decide_eq_true (by kernel_rfl)) (by unfold Func.isWrapper; first | (rw [if_pos (by decide +kernel)]; kernel_rfl) | (rw [if_neg (by decide +kernel)]; exact ⟨rfl, rfl⟩))
    (fun os started H enc _ => f_lifted6 os started H enc)

theorem nodeAny_card : Rows.NodeAnyCardSaid :=
  Claim7.holds_tied_plain_at .later [] [.data, .data, .data, .data, .sentinel, .sentinel, .pinned] true Rows.nodeAnyCard.stood.harness true
    row6_holds (fun _ h => by cases h) (by kernel_rfl) (fun _ h => by cases h) nodeAny_row_tie rfl ⟨rfl, rfl⟩ (by kernel_rfl) rfl
    (fun f fn hf hfn => by
      obtain rfl : f = 6 := Option.some.inj ((show Tryz.prog.funcNamed "ballast/ballastlaw6.NodeAny" = some 6 by kernel_rfl).symm.trans hf) |>.symm
      obtain rfl : fn = Tryz.f6 := (Option.some.inj (Tryz.func6.symm.trans hfn)).symm
      exact ⟨by kernel_rfl, fun j t ht => by
        rw [Tryz.params6] at ht
        have hm : t ∈ [70,70] := by simpa using Array.mem_of_getElem? ht
        have hall : ([70,70].all fun u => !Tryz.prog.wantsStandIn u) = true := by kernel_rfl
        exact (show Tryz.prog.wantsStandIn t = false by simpa using List.all_eq_true.1 hall t hm)⟩)
    (by kernel_rfl)

#print axioms nodeAny_card
end Go.Proofs.YtppplbpilpjokaaGreatDoor
