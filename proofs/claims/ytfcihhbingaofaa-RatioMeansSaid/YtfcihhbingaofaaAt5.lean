/-
  THIS SEAT's LIBRARY FUNCTIONS answer as told.
-/
import Derived.Test.YtfcihhbingaofaaAt4
set_option linter.unusedVariables false
set_option linter.unusedSimpArgs false
set_option maxRecDepth 100000
namespace Go.Aa.T
open Go.Aa Go.Proofs

theorem fltOf_rep {G : Ghost} {w : World} (b : Nat) : Rep G w (.float .f64 b) (fltOf b) := by
  unfold fltOf
  split
  · rename_i h; exact .nan b h
  · exact .flt b

theorem args1 {G : Ghost} {w : World} {vs : Array Value} {x : AV} (h : Args G w vs [x]) : ∃ v, vs = #[v] ∧ Rep G w v x := by
  obtain ⟨h1, h2⟩ := h
  have hs : vs.size = 1 := by simpa using h1
  refine ⟨vs[0], ?_, by simpa using h2 0 (by omega) (by simp)⟩
  apply Array.ext
  · simpa using hs
  · intro i i1 i2
    have : i = 0 := by omega
    subst this; rfl

theorem ext_bits : ExtOk Try.prog 38 bitsE := by
  intro xs H v H' h G w vs hH hargs
  unfold bitsE at h
  split at h <;> simp only [Option.some.injEq, Prod.mk.injEq, reduceCtorEq] at h
  rename_i b
  obtain ⟨rfl, rfl⟩ := h
  obtain ⟨u, rfl, hr⟩ := args1 hargs
  cases hr
  refine .inr ⟨.int .u64 b, w, ?_, G, .refl _ _, hH, _, rfl, .int _ _⟩
  rw [run_callFunc_extern (fn := Try.f38) Try.func38 (by kernel_rfl) (by kernel_rfl) (by kernel_rfl) (e := Extern.MathFloatBits.float64bits) (by kernel_rfl)]
  rfl

theorem ext_frombits : ExtOk Try.prog 43 frombitsE := by
  intro xs H v H' h G w vs hH hargs
  unfold frombitsE at h
  split at h
  · rename_i n
    split at h <;> simp only [Option.some.injEq, Prod.mk.injEq, reduceCtorEq] at h
    obtain ⟨rfl, rfl⟩ := h
    obtain ⟨u, rfl, hr⟩ := args1 hargs
    cases hr
    refine .inr ⟨.float .f64 n.toNat, w, ?_, G, .refl _ _, hH, _, rfl, fltOf_rep _⟩
    rw [run_callFunc_extern (fn := Try.f43) Try.func43 (by kernel_rfl) (by kernel_rfl) (by kernel_rfl) (e := Extern.MathFloatBits.float64frombits) (by kernel_rfl)]
    rfl
  · simp at h

end Go.Aa.T
