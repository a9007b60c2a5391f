/-
  ROWS OF NUMBERS: the least, the greatest, the mean.
-/
import Derived.Test.YtfcihhbingaofaaAtA
import Derived.Test.YtfcihhbingaofaaAtL
set_option linter.unusedVariables false
set_option linter.unusedSimpArgs false
set_option maxRecDepth 100000
namespace Go.Aa.T
open Go.Aa
variable {H : Heap} {b c : Nat}

def FlL (l : List AV) : Prop := ∀ x ∈ l, Fl x
theorem Fl.cell {x : AV} (h : Fl x) : cellsN 1 x = true := by cases h <;> rfl
theorem Fl.cells {x : AV} (h : Fl x) : x.cells = [x] := by cases h <;> rfl
/-- The next of a row of numbers. -/
theorem idxFl {l pre post : List AV} {x : AV} (e : l = pre ++ x :: post) (hx : Fl x) : idxA 1 (.sl .sh l) (.int .i64 (pre.length : Int)) = some (.ref [x]) := by
  rw [idx_at (x := x) (by rw [e]; simp) hx.cell, hx.cells]

def fltOp (f : Nat → Nat → Option Nat) (x y : AV) : AV := match x, y with
  | .flt a, .flt b => fltR (f a b)
  | _, _ => .nan
def addF : AV → AV → AV := fltOp F64.add
def divF : AV → AV → AV := fltOp F64.div
theorem addF_fl {x y : AV} (hx : Fl x) (hy : Fl y) : Fl (addF x y) := by
  cases hx with
  | nan => exact .nan
  | flt a _ _ =>
    cases hy with
    | nan => exact .nan
    | flt b _ _ => exact fltR_fl fun z h => add_fl h
theorem divF_fl {x y : AV} (hx : Fl x) (hy : Fl y) : Fl (divF x y) := by
  cases hx with
  | nan => exact .nan
  | flt a _ _ =>
    cases hy with
    | nan => exact .nan
    | flt b _ _ => exact fltR_fl fun z h => div_fl h
theorem addFB {x y : AV} (hx : Fl x) (hy : Fl y) : binA .add x y = some (addF x y) := by
  cases hx with
  | nan => cases hy <;> rfl
  | flt a _ _ =>
    cases hy with
    | nan => rfl
    | flt b _ _ => exact addB a b
theorem divFB {x y : AV} (hx : Fl x) (hy : Fl y) : binA .quo x y = some (divF x y) := by
  cases hx with
  | nan => cases hy <;> rfl
  | flt a _ _ =>
    cases hy with
    | nan => rfl
    | flt b _ _ => exact divB a b
theorem fi_fl (n : Int) : Fl (.flt (FloatKind.f64.nearest n)) := by
  rw [fi_eq]; exact .flt _ (wrd_nn (rung_le _ _)).1 (wrd_nn (rung_le _ _)).2
theorem fl0 : Fl (.flt 0) := .flt 0 nn0 (by omega)

def sumF (a : AV) (l : List AV) : AV := l.foldl addF a
theorem sumF_fl : ∀ {l : List AV} {a : AV}, Fl a → FlL l → Fl (sumF a l)
  | [], a, ha, _ => ha
  | x :: l, a, ha, hl => sumF_fl (l := l) (addF_fl ha (hl x (by simp))) fun y hy => hl y (by simp [hy])
def meanF (l : List AV) : AV := divF (sumF (.flt 0) l) (.flt (FloatKind.f64.nearest l.length))
theorem meanF_fl {l : List AV} (hl : FlL l) : Fl (meanF l) := divF_fl (sumF_fl fl0 hl) (fi_fl _)

theorem mean_loop (l : List AV) (hl : FlL l) (hn : l.length < 9223372036854775807) : ∀ (post pre : List AV) (a : AV) (T : Env), l = pre ++ post → Fl a →
    Has T [(0, .sl .sh l), (6, .sl .sh l), (7, .int .i64 l.length), (8, .int .i64 pre.length), (3, a)] →
    runL cfg a26 k26_0 T H = some (.ret (divF (sumF a post) (.flt (FloatKind.f64.nearest l.length))), H)
  | [], pre, a, T, e, ha, hT => by
    refine go 60 _ hT (.ltF (show (l.length : Int) ≤ pre.length by rw [e]; simp) <| .ff <| .bin (divFB ha (fi_fl l.length)) <| .done) (by kernel_rfl)
  | x :: post, pre, a, T, e, ha, hT => by
    have hx : Fl x := hl x (by rw [e]; simp)
    have hlt : pre.length < l.length := by rw [e]; simp
    refine go 60 _ hT (.ltT (show (pre.length : Int) < l.length by omega) <| .tt <| .idx (idxFl e hx) <| .bin (addFB ha hx) <| .inc pre.length (by omega) <|
      .cut k26_0 [(0, .sl .sh l), (6, .sl .sh l), (7, .int .i64 l.length), (8, .int .i64 ((pre.length + 1 : Nat) : Int)), (3, addF a x)] H (fun T hT =>
        mean_loop l hl hn post (pre ++ [x]) (addF a x) T (by rw [e]; simp) (addF_fl ha hx) (by rw [List.length_append]; exact hT))) (by kernel_rfl)
theorem mean_any {l : List AV} (hl : FlL l) (hn : l.length < 9223372036854775807) : lim cfg (.fn 26) [.sl .sh l] H = some (.ret (meanF l), H) := by
  rw [l26]
  exact go 60 [] trivial (.cut k26_0 [(0, .sl .sh l), (6, .sl .sh l), (7, .int .i64 l.length), (8, .int .i64 0), (3, .flt 0)] H (fun T hT => mean_loop l hl hn l [] (.flt 0) T rfl fl0 hT)) (by kernel_rfl)

/-! ### The first that stands ahead of all others -/
def bestF (s : Int) (m : AV) (l : List AV) : AV := l.foldl (fun m x => if cmp x m * s < 0 then x else m) m
theorem bestF_fl {s : Int} : ∀ {l : List AV} {m : AV}, Fl m → FlL l → Fl (bestF s m l)
  | [], m, hm, _ => hm
  | x :: l, m, hm, hl => by
    refine bestF_fl (l := l) ?_ fun y hy => hl y (by simp [hy])
    show Fl (if cmp x m * s < 0 then x else m)
    split
    · exact hl x (by simp)
    · exact hm
def best (s : Int) : List AV → AV
  | [] => .nan
  | x :: l => bestF s x l
theorem best_fl {s : Int} {l : List AV} (hl : FlL l) : Fl (best s l) := by
  cases l with
  | nil => exact .nan
  | cons x l => exact bestF_fl (hl x (by simp)) fun y hy => hl y (by simp [hy])

theorem best_loop (s : Int) (hs : s = 1 ∨ s = -1) (l : List AV) (hl : FlL l) (hn : l.length < 9223372036854775807) : ∀ (post pre : List AV) (m : AV) (T : Env), l = pre ++ post → Fl m →
    Has T [(1, .int .i64 s), (16, .sl .sh l), (17, .int .i64 l.length), (18, .int .i64 pre.length), (5, m)] →
    runL cfg a35 k35_0 T H = some (.ret (bestF s m post), H)
  | [], pre, m, T, e, hm, hT => by
    refine go 60 _ hT (.ltF (show (l.length : Int) ≤ pre.length by rw [e]; simp) <| .ff <| .done) (by kernel_rfl)
  | x :: post, pre, m, T, e, hm, hT => by
    have hx : Fl x := hl x (by rw [e]; simp)
    have hlt : pre.length < l.length := by rw [e]; simp
    have := hx.dat
    have := hm.dat
    have hmul : -9223372036854775808 ≤ cmp x m * s ∧ cmp x m * s < 9223372036854775808 := by
      have := cmp_abs x m
      rcases hs with rfl | rfl <;> omega
    refine go 60 _ hT (.ltT (show (pre.length : Int) < l.length by omega) <| .tt <| .idx (idxFl e hx) <| .call (compare_any hx hm) <| .mul hmul <| .split (cmp x m * s < 0)
      (fun h => .ltT h <| .tt <| .inc pre.length (by omega) <|
        .cut k35_0 [(1, .int .i64 s), (16, .sl .sh l), (17, .int .i64 l.length), (18, .int .i64 ((pre.length + 1 : Nat) : Int)), (5, x)] H (fun T hT => by
          have := best_loop s hs l hl hn post (pre ++ [x]) x T (by rw [e]; simp) hx (by rw [List.length_append]; exact hT)
          rw [this]; simp only [bestF, List.foldl_cons, if_pos h]))
      (fun h => .ltF (show 0 ≤ cmp x m * s by omega) <| .ff <| .inc pre.length (by omega) <|
        .cut k35_0 [(1, .int .i64 s), (16, .sl .sh l), (17, .int .i64 l.length), (18, .int .i64 ((pre.length + 1 : Nat) : Int)), (5, m)] H (fun T hT => by
          have := best_loop s hs l hl hn post (pre ++ [x]) m T (by rw [e]; simp) hm (by rw [List.length_append]; exact hT)
          rw [this]; simp only [bestF, List.foldl_cons, if_neg h]))) (by kernel_rfl)

theorem nan_any : lim cfg (.fn 42) [] H = some (.ret .nan, H) := by
  have h43 : lim cfg (.fn 43) [.int .u64 9221120237041090561] Heap.nil = some (.ret .nan, Heap.nil) := by rw [lim_ext rfl (g := frombitsE) rfl]; rfl
  rw [l42]
  exact go 60 [] trivial (.call h43 <| .done) (by kernel_rfl)
end Go.Aa.T
