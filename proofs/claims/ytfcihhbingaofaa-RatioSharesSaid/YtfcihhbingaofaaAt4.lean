/-
  THE FIRST LAW OF NUMBERS.
-/
import Derived.Test.YtfcihhbingaofaaAt3
import Derived.Test.YtfcihhbingaofaaAaO
set_option linter.unusedVariables false
set_option linter.unusedSimpArgs false
set_option maxRecDepth 100000
namespace Go.Aa.T
open Go.Aa
variable {H : Heap} {b c : Nat}

theorem ob1 {g : FuncId} {x v : AV} {H' : Heap} (hx : shutA x = x ∧ isData x = true) (h : lim cfg (.fn g) [x] Heap.nil = some (.ret v, H')) (hv : shutA v = v ∧ isData v = true) : CallOb (lim cfg) g [x] v :=
  ⟨fun a ha => by simp only [List.mem_singleton] at ha; subst ha; exact hx, ⟨H', h⟩, hv.1, hv.2⟩
theorem ob2 {g : FuncId} {x y v : AV} {H' : Heap} (hx : shutA x = x ∧ isData x = true) (hy : shutA y = y ∧ isData y = true) (h : lim cfg (.fn g) [x, y] Heap.nil = some (.ret v, H')) (hv : shutA v = v ∧ isData v = true) : CallOb (lim cfg) g [x, y] v :=
  ⟨fun a ha => by
    simp only [List.mem_cons, List.not_mem_nil, or_false] at ha
    rcases ha with rfl | rfl
    · exact hx
    · exact hy, ⟨H', h⟩, hv.1, hv.2⟩
theorem ob3 {g : FuncId} {x y z v : AV} {H' : Heap} (hx : shutA x = x ∧ isData x = true) (hy : shutA y = y ∧ isData y = true) (hz : shutA z = z ∧ isData z = true) (h : lim cfg (.fn g) [x, y, z] Heap.nil = some (.ret v, H')) (hv : shutA v = v ∧ isData v = true) : CallOb (lim cfg) g [x, y, z] v :=
  ⟨fun a ha => by
    simp only [List.mem_cons, List.not_mem_nil, or_false] at ha
    rcases ha with rfl | rfl | rfl
    · exact hx
    · exact hy
    · exact hz, ⟨H', h⟩, hv.1, hv.2⟩
theorem Fl.ok {x : AV} (h : Fl x) : shutA x = x ∧ isData x = true := ⟨h.shut, h.data⟩
theorem okI (k : IntKind) (n : Int) : shutA (.int k n) = .int k n ∧ isData (.int k n) = true := ⟨rfl, rfl⟩
theorem okB (b : Bool) : shutA (.bool b) = .bool b ∧ isData (.bool b) = true := ⟨rfl, rfl⟩
theorem knownOb : CallOb (lim cfg) 10 [] (.bool true) := by
  obtain ⟨H', hk⟩ := known_ret
  exact ⟨fun a ha => (by cases ha), ⟨H', hk⟩, rfl, rfl⟩

theorem ratioTwo {x y lo hi : AV} (hx : Fl x) (hy : Fl y) (hl : Fl lo) (hh : Fl hi) : lim cfg (.fn 3) [x, y, lo, hi] H = some (.ret (.bool true), H) := by
  have hc := clamp_fl hx hl hh
  have hw : IntKind.i64.wrap (0 - cmp x y) = cmp y x := by
    rw [cmp_flip x y]
    have := cmp_abs x y
    have : cmp x y = -1 ∨ cmp x y = 0 ∨ cmp x y = 1 := by omega
    rcases this with h | h | h <;> rw [h] <;> rfl
  have b1 : AV.bool (cls x == cls x) = .bool true := by rw [beq_self_eq_true]
  have b2 : AV.bool (cmp x y == cmp x y) = .bool true := by rw [beq_self_eq_true]
  have b3 : AV.bool (cmp y x == IntKind.i64.wrap (0 - cmp x y)) = .bool true := by rw [hw, beq_self_eq_true]
  rw [l3]
  have e : Rp cfg a3 (.ret (.bool true), H) 60 [.c c3] [.ret (.bool true), .dec false, .ret (.int .i64 (cls x)), .ret (.int .i64 (cls x)), .dec true, .ret (.int .i64 (cmp x y)), .ret (.int .i64 (cmp x y)), .dec true, .ret (.int .i64 (cmp y x)), .ret (.int .i64 (cmp x y)), .dec true, .ret (clamp x lo hi), .ret (clamp x lo hi), .ret (.bool (decide (cmp (clamp x lo hi) (clamp x lo hi) = 0)))] (initEnv [x, y, lo, hi]) H =
    (CallOb (lim cfg) 10 [] (.bool true) ∧ AV.bool false = .bool false ∧ CallOb (lim cfg) 11 [x] (.int .i64 (cls x)) ∧ CallOb (lim cfg) 12 [x] (.int .i64 (cls x)) ∧ AV.bool (cls x == cls x) = .bool true ∧
      CallOb (lim cfg) 13 [x, y] (.int .i64 (cmp x y)) ∧ CallOb (lim cfg) 14 [x, y] (.int .i64 (cmp x y)) ∧ AV.bool (cmp x y == cmp x y) = .bool true ∧
      CallOb (lim cfg) 13 [y, x] (.int .i64 (cmp y x)) ∧ CallOb (lim cfg) 14 [x, y] (.int .i64 (cmp x y)) ∧ AV.bool (cmp y x == IntKind.i64.wrap (0 - cmp x y)) = .bool true ∧
      CallOb (lim cfg) 16 [x, lo, hi] (clamp x lo hi) ∧ CallOb (lim cfg) 17 [x, lo, hi] (clamp x lo hi) ∧ CallOb (lim cfg) 15 [clamp x lo hi, clamp x lo hi] (.bool (decide (cmp (clamp x lo hi) (clamp x lo hi) = 0))) ∧
      false = false ∧ some (ARes.ret (AV.bool (decide (cmp (clamp x lo hi) (clamp x lo hi) = 0))), H) = some (.ret (.bool true), H)) := by kernel_rfl
  refine rp_sound 60 (Eq.mpr e ?_)
  exact ⟨knownOb, rfl, ob1 hx.ok (class_any hx) (okI _ _), ob1 hx.ok (rclass_any hx) (okI _ _), b1, ob2 hx.ok hy.ok (compare_any hx hy) (okI _ _), ob2 hx.ok hy.ok (rcompare_any hx hy) (okI _ _), b2,
    ob2 hy.ok hx.ok (compare_any hy hx) (okI _ _), ob2 hx.ok hy.ok (rcompare_any hx hy) (okI _ _), b3, ob3 hx.ok hl.ok hh.ok (clamp_any hx hl hh) hc.ok, ob3 hx.ok hl.ok hh.ok (rclamp_any hx hl hh) hc.ok,
    ob2 hc.ok hc.ok (alike_any hc hc) (okB _), rfl, by rw [cmp_self]; rfl⟩

end Go.Aa.T
