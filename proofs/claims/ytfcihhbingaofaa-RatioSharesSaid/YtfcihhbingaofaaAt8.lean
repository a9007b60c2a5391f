/-
  THE ORDER OF NUMBERS.
-/
import Derived.Test.YtfcihhbingaofaaAt7
import Derived.Test.YtfcihhbingaofaaAaP
set_option linter.unusedVariables false
set_option linter.unusedSimpArgs false
set_option maxRecDepth 100000
namespace Go.Aa.T
open Go.Aa
variable {H : Heap} {b c : Nat}

theorem Fl.dat {x : AV} (h : Fl x) : Dat x := ⟨by cases h <;> exact ⟨rfl, rfl⟩⟩
theorem cmp_le (x y : AV) : cmp x y ≤ 0 ↔ cls x < cls y ∨ cls x = cls y ∧ ((cls x = 1 ∨ cls x = 4) → rk x ≤ rk y) := by
  unfold cmp sgn
  (repeat' split) <;> omega
theorem cmp_trans {x y z : AV} (h1 : cmp x y ≤ 0) (h2 : cmp y z ≤ 0) : cmp x z ≤ 0 := by
  rw [cmp_le] at *; omega
theorem clamp_ge (x : AV) {lo hi : AV} (h : cmp lo hi ≤ 0) : 0 ≤ cmp (clamp x lo hi) lo := by
  unfold clamp
  have f := cmp_flip lo hi
  have s := cmp_self lo
  split
  · omega
  · split
    · omega
    · omega
theorem clamp_le (x : AV) {lo hi : AV} (h : cmp lo hi ≤ 0) : cmp (clamp x lo hi) hi ≤ 0 := by
  unfold clamp
  have s := cmp_self hi
  split
  · exact h
  · split <;> omega

theorem known' : lim cfg (.fn 10) [] Heap.nil = some (.ret (.bool true), (Classical.choose known_ret)) := Classical.choose_spec known_ret

theorem wrap_small {x : Int} (h1 : -1000000000 ≤ x) (h2 : x ≤ 1000000000) : IntKind.i64.wrap x = x := by
  have e : (x % 18446744073709551616) = if 0 ≤ x then x else x + 18446744073709551616 := by split <;> omega
  simp only [IntKind.wrap, IntKind.bits, IntKind.signed, Bool.true_and, show (2 : Int) ^ 64 = 18446744073709551616 from rfl, show (2 : Int) ^ (64 - 1) = 9223372036854775808 from rfl, e, decide_eq_true_eq]
  split <;> split <;> omega

theorem ratioOrder {x y z : AV} (hx : Fl x) (hy : Fl y) (hz : Fl z) : lim cfg (.fn 6) [x, y, z] H = some (.ret (.bool true), H) := by
  have := hx.dat
  have := hy.dat
  have := hz.dat
  have hc := clamp_fl hy hx hz
  have := hc.dat
  rw [l6]
  have e1 : (IntKind.i64.wrap (cmp x y + cmp y x)) = 0 := by
    have f := cmp_flip x y
    rw [show cmp x y + cmp y x = 0 by omega]; rfl
  refine go 60 [] trivial (.call known' <| .ff <| .call (compare_any hx hx) <| .neF (cmp_self x) <| .ff <| .call (compare_any hx hy) <| .call (compare_any hy hx) <| .neF e1 <| .ff <| .call (compare_any hx hy) <|
    .split (cmp x y ≤ 0)
      (fun h1 => .yes (decide_eq_true h1) <| .call (compare_any hy hz) <| .split (cmp y z ≤ 0)
        (fun h2 => .yes (decide_eq_true h2) <| .call (compare_any hx hz) <| .gtF (cmp_trans h1 h2) <| .ff <| .call (clamp_any hy hx hz) <| .call (compare_any hx hz) <| .gtF (cmp_trans h1 h2) <|
          .ff <| .call (compare_any hc hx) <| .yes (decide_eq_true (clamp_ge y (cmp_trans h1 h2))) <| .call (compare_any hc hz) <| .leT (clamp_le y (cmp_trans h1 h2)) <| .done)
        (fun h2 => .no (decide_eq_false h2) <| .ff <| .call (clamp_any hy hx hz) <| .call (compare_any hx hz) <| .split (cmp x z ≤ 0)
          (fun h => .no (decide_eq_false (show ¬ (0 < cmp x z) by omega)) <| .call (compare_any hc hx) <| .yes (decide_eq_true (clamp_ge y h)) <| .call (compare_any hc hz) <| .leT (clamp_le y h) <| .done)
          (fun h => .yes (decide_eq_true (show 0 < cmp x z by omega)) <| .done)))
      (fun h1 => .no (decide_eq_false h1) <| .ff <| .ff <| .call (clamp_any hy hx hz) <| .call (compare_any hx hz) <| .split (cmp x z ≤ 0)
          (fun h => .no (decide_eq_false (show ¬ (0 < cmp x z) by omega)) <| .call (compare_any hc hx) <| .yes (decide_eq_true (clamp_ge y h)) <| .call (compare_any hc hz) <| .leT (clamp_le y h) <| .done)
          (fun h => .yes (decide_eq_true (show 0 < cmp x z by omega)) <| .done))) (by kernel_rfl)
end Go.Aa.T
