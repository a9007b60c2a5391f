/-
  FROM THE MACHINE's ANSWER TO A CALL OF THE LAW.
-/
import Derived.Test.YtfcihhbingaofaaAt6
set_option linter.unusedVariables false
set_option linter.unusedSimpArgs false
set_option maxRecDepth 100000
namespace Go.Aa.T
open Go.Aa Go.Proofs Go.RowKit

theorem cfgOk : CfgOk Try.prog cfg := by
  refine ⟨by kernel_rfl, fun f A h => tab_fn h, fun f g h => ?_, fun f h => by cases h⟩
  have h : extF f = some g := h
  unfold extF at h
  split at h <;> simp only [Option.some.injEq, reduceCtorEq] at h <;> subst h
  · exact ext_clone
  · exact ext_bits
  · exact ext_frombits

/-- Nothing is known yet: no box, no token, no loop; nothing that came is settled. -/
def G0 : Ghost := { lim := fun _ => 0, nb := 0, μ := fun _ => 0, nt := 0, τ := fun _ => 0, ext := fun _ => 0, cap := fun _ => 0, tes := fun _ => 0, nl := 0, ln := fun _ => 0 }
theorem G0_heap {P : Program} (w : World) : HRep P G0 w Heap.nil :=
  ⟨fun _ _ => rfl, rfl, rfl, rfl, fun k hk => absurd hk (by simp [Heap.nil]), fun i j hi => absurd hi (by simp [G0]), fun k hk => absurd hk (by simp [G0]), fun t ht => absurd ht (by simp [Heap.nil]), fun i j hi => absurd hi (by simp [G0]),
   fun k t hk => absurd hk (by simp [G0]), fun l hl => absurd hl (by simp [Heap.nil]), fun i j hi => absurd hi (by simp [G0])⟩

theorem step_below {G : Ghost} {w w' : World} {G' : Ghost} (h : Step G w G' w') (h1 : G.nb = 0) (h2 : G.nt = 0) (h3 : G.nl = 0) : Below w.heap.size w w' :=
  ⟨h.os, h.tape, h.output, h.size, fun k hk => (h.frame k hk (fun i hi => absurd hi (by omega)) (fun i hi => absurd hi (by omega)) (fun i hi => absurd hi (by omega))).1⟩

/-- A law's call returns true. -/
theorem law_true {f : FuncId} {xs : List AV} {vs : Array Value} {w : World} {G : Ghost} {H' : Heap} (h : lim cfg (.fn f) xs Heap.nil = some (.ret (.bool true), H')) (hF : (tabF f).isSome = true) (hx : extF f = none)
    (hH : HRep Try.prog G w Heap.nil) (h1 : G.nb = 0) (h2 : G.nt = 0) (h3 : G.nl = 0) (hargs : Args G w vs xs) : Calls Try.prog f vs w fun e w' => e = .returned (.bool true) ∧ Below w.heap.size w w' := by
  obtain ⟨n, hn⟩ := lim_iff.1 h
  refine (calls_of cfgOk hn hF hx rfl hH hargs).mono fun e w' ⟨u, G', he, hs, hr⟩ => ?_
  cases hr
  exact ⟨he, step_below hs h1 h2 h3⟩

end Go.Aa.T
