/-
  WHAT THE LAWS OF LAYER 4 ARE HANDED.
-/
import Derived.Test.YtmlipdlbeddijaaDoorAtF
set_option linter.unusedVariables false
set_option linter.unusedSimpArgs false
set_option maxRecDepth 100000
namespace Go.Aa.T
open Go.Aa Go.Proofs

theorem tyPair {k : Nat} {y : AV} (h : TyV Tryd.prog (k + 2) 107 y) : ∃ t : Pair, y = encP t := by
  obtain ⟨cs, rfl, hh⟩ := tyv_struct Tryd.underlying107 h
  obtain ⟨a1, a2, rfl, h1, h2⟩ := tys2 hh
  obtain ⟨s1, rfl, -⟩ := ty_string Tryd.underlying9 h1
  obtain ⟨s2, rfl, -⟩ := ty_string Tryd.underlying9 h2
  exact ⟨⟨s1, s2⟩, rfl⟩
theorem tyTerm {k : Nat} {y : AV} (h : TyV Tryd.prog (k + 2) 104 y) : ∃ t : Term, y = encM t := by
  obtain ⟨cs, rfl, hh⟩ := tyv_struct Tryd.underlying104 h
  obtain ⟨a1, a2, a3, rfl, h1, h2, h3⟩ := tys3 hh
  obtain ⟨m, rfl, -⟩ := ty_int Tryd.underlying3 h1
  obtain ⟨s1, rfl, -⟩ := ty_string Tryd.underlying9 h2
  obtain ⟨s2, rfl, -⟩ := ty_string Tryd.underlying9 h3
  exact ⟨⟨m, s1, s2⟩, rfl⟩
theorem tySet {k : Nat} {y : AV} (h : TyV Tryd.prog (k + 3) 70 y) : ∃ t : List Pair, y = .sl .sh (t.map encP) := by
  obtain ⟨l, rfl, -, hl⟩ := tyv_slice Tryd.underlying70 h
  obtain ⟨t, rfl⟩ := map_of (fun y hy => tyPair hy) l hl
  exact ⟨t, rfl⟩
theorem tySel {k : Nat} {y : AV} (h : TyV Tryd.prog (k + 3) 72 y) : ∃ t : List Term, y = .sl .sh (t.map encM) := by
  obtain ⟨l, rfl, -, hl⟩ := tyv_slice Tryd.underlying72 h
  obtain ⟨t, rfl⟩ := map_of (fun y hy => tyTerm hy) l hl
  exact ⟨t, rfl⟩
theorem law10 (xs : List AV) (h : TyAll Tryd.prog 5 [70, 9, 9, 72] xs) (hz : SzAll Tryd.prog [70, 9, 9, 72] xs) : ∃ H', lim cfg (.fn 10) xs Heap.nil = some (.ret (.bool true), H') := by
  obtain ⟨x, y, z, u, rfl, hx, hy, hz', hu⟩ := tyall_4 h
  obtain ⟨s, rfl⟩ := tySet hx
  obtain ⟨k, rfl, -⟩ := tyv_string Tryd.underlying9 hy
  obtain ⟨v, rfl, -⟩ := tyv_string Tryd.underlying9 hz'
  obtain ⟨l, rfl⟩ := tySel hu
  exact (labelTerms s k v l).ret
theorem law11 (xs : List AV) (h : TyAll Tryd.prog 5 [70, 72, 104, 9, 9] xs) (hz : SzAll Tryd.prog [70, 72, 104, 9, 9] xs) : ∃ H', lim cfg (.fn 11) xs Heap.nil = some (.ret (.bool true), H') := by
  obtain ⟨x, y, z, u, w, rfl, hx, hy, hz', hu, hw⟩ := tyall_5 h
  obtain ⟨s, rfl⟩ := tySet hx
  obtain ⟨l, rfl⟩ := tySel hy
  obtain ⟨t, rfl⟩ := tyTerm hz'
  obtain ⟨k, rfl, -⟩ := tyv_string Tryd.underlying9 hu
  obtain ⟨v, rfl, -⟩ := tyv_string Tryd.underlying9 hw
  have hs := hz.2.1.1 _ _ _ Tryd.underlying72 rfl
  rw [show Tryd.prog.bytesOf 104 = 40 by kernel_rfl] at hs
  exact (labelMore s l t k v (by simpa [reachBytes] using hs)).ret
theorem law12 (xs : List AV) (h : TyAll Tryd.prog 5 [9, 9] xs) (hz : SzAll Tryd.prog [9, 9] xs) : ∃ H', lim cfg (.fn 12) xs Heap.nil = some (.ret (.bool true), H') := by
  obtain ⟨x, y, rfl, hx, hy⟩ := tyall_2 h
  obtain ⟨k, rfl, -⟩ := tyv_string Tryd.underlying9 hx
  obtain ⟨v, rfl, -⟩ := tyv_string Tryd.underlying9 hy
  exact (labelNames k v).ret
end Go.Aa.T
