/-
  WHAT THE LAWS OF LAYER 5 ARE HANDED.
-/
import Derived.Test.YtmlipdlbeddijaaDoorAt9
import Derived.Test.YtmlipdlbeddijaaDoorAaW
set_option linter.unusedVariables false
set_option linter.unusedSimpArgs false
set_option maxRecDepth 100000
namespace Go.Aa.T
open Go.Aa Go.Proofs

theorem map_of {α : Type} {f : α → AV} {Q : AV → Prop} (h : ∀ y, Q y → ∃ x, y = f x) : ∀ (l : List AV), (∀ y ∈ l, Q y) → ∃ t : List α, l = t.map f
  | [], _ => ⟨[], rfl⟩
  | y :: l, hl => by
    obtain ⟨x, rfl⟩ := h y (hl y (by simp))
    obtain ⟨t, rfl⟩ := map_of h l (fun z hz => hl z (by simp [hz]))
    exact ⟨x :: t, rfl⟩
theorem tys2 {R : TypeId → List AV → Prop} {f1 f2 : Field} {cs : List AV} (h : Tys R (#[f1, f2] : Array Field).toList cs) : ∃ a b, cs = a ++ b ∧ R f1.type a ∧ R f2.type b := by
  obtain ⟨a1, b1, rfl, h1, a2, b2, rfl, h2, e⟩ := (show Tys R [f1, f2] cs from h)
  cases e
  exact ⟨a1, a2, by simp, h1, h2⟩
theorem tys3 {R : TypeId → List AV → Prop} {f1 f2 f3 : Field} {cs : List AV} (h : Tys R (#[f1, f2, f3] : Array Field).toList cs) : ∃ a b c, cs = a ++ (b ++ c) ∧ R f1.type a ∧ R f2.type b ∧ R f3.type c := by
  obtain ⟨a1, b1, rfl, h1, a2, b2, rfl, h2, a3, b3, rfl, h3, e⟩ := (show Tys R [f1, f2, f3] cs from h)
  cases e
  exact ⟨a1, a2, a3, by simp, h1, h2, h3⟩
theorem tyTaint {k : Nat} {y : AV} (h : TyV Tryd.prog (k + 2) 37 y) : ∃ t : Taint, y = encT t := by
  obtain ⟨cs, rfl, hh⟩ := tyv_struct Tryd.underlying37 h
  obtain ⟨a1, a2, a3, rfl, h1, h2, h3⟩ := tys3 hh
  obtain ⟨s1, rfl, -⟩ := ty_string Tryd.underlying9 h1
  obtain ⟨s2, rfl, -⟩ := ty_string Tryd.underlying9 h2
  obtain ⟨b, rfl⟩ := ty_bool Tryd.underlying4 h3
  exact ⟨⟨s1, s2, b⟩, rfl⟩
theorem tyTol {k : Nat} {y : AV} (h : TyV Tryd.prog (k + 2) 64 y) : ∃ t : Tol, y = encL t := by
  obtain ⟨cs, rfl, hh⟩ := tyv_struct Tryd.underlying64 h
  obtain ⟨a1, a2, a3, rfl, h1, h2, h3⟩ := tys3 hh
  obtain ⟨s1, rfl, -⟩ := ty_string Tryd.underlying9 h1
  obtain ⟨s2, rfl, -⟩ := ty_string Tryd.underlying9 h2
  obtain ⟨b, rfl⟩ := ty_bool Tryd.underlying4 h3
  exact ⟨⟨s1, s2, b⟩, rfl⟩
theorem tyTaints {k : Nat} {y : AV} (h : TyV Tryd.prog (k + 3) 22 y) : ∃ t : List Taint, y = .sl .sh (t.map encT) := by
  obtain ⟨l, rfl, -, hl⟩ := tyv_slice Tryd.underlying22 h
  obtain ⟨t, rfl⟩ := map_of (fun y hy => tyTaint hy) l hl
  exact ⟨t, rfl⟩
theorem tyTols {k : Nat} {y : AV} (h : TyV Tryd.prog (k + 3) 23 y) : ∃ t : List Tol, y = .sl .sh (t.map encL) := by
  obtain ⟨l, rfl, -, hl⟩ := tyv_slice Tryd.underlying23 h
  obtain ⟨t, rfl⟩ := map_of (fun y hy => tyTol hy) l hl
  exact ⟨t, rfl⟩
theorem tyU8 {k : Nat} {y : AV} (h : TyV Tryd.prog (k + 1) 5 y) : ∃ n : Nat, y = .int .u8 (n : Int) ∧ n < 256 := by
  obtain ⟨m, rfl, hm⟩ := tyv_int Tryd.underlying5 h
  have h' : IntKind.u8.min ≤ m ∧ m ≤ IntKind.u8.max := by simpa [Lit.wf, IntKind.has] using hm
  have e1 : IntKind.u8.min = 0 := rfl
  have e2 : IntKind.u8.max = 255 := rfl
  exact ⟨m.toNat, by congr 1; omega, by omega⟩

theorem law5 (xs : List AV) (h : TyAll Tryd.prog 5 [22, 23, 64] xs) (hz : SzAll Tryd.prog [22, 23, 64] xs) : ∃ H', lim cfg (.fn 5) xs Heap.nil = some (.ret (.bool true), H') := by
  obtain ⟨x, y, z, rfl, hx, hy, hz'⟩ := tyall_3 h
  obtain ⟨t, rfl⟩ := tyTaints hx
  obtain ⟨l, rfl⟩ := tyTols hy
  obtain ⟨o, rfl⟩ := tyTol hz'
  have hs := hz.2.1.1 _ _ _ Tryd.underlying23 rfl
  rw [show Tryd.prog.bytesOf 64 = 40 by kernel_rfl] at hs
  exact (taintMore t l o (by simpa [reachBytes] using hs)).ret
theorem law6 (xs : List AV) (h : TyAll Tryd.prog 5 [22, 23, 5] xs) (hz : SzAll Tryd.prog [22, 23, 5] xs) : ∃ H', lim cfg (.fn 6) xs Heap.nil = some (.ret (.bool true), H') := by
  obtain ⟨x, y, z, rfl, hx, hy, hz'⟩ := tyall_3 h
  obtain ⟨t, rfl⟩ := tyTaints hx
  obtain ⟨l, rfl⟩ := tyTols hy
  obtain ⟨n, rfl, hn⟩ := tyU8 hz'
  exact (taintOrder t l n hn).ret
end Go.Aa.T
