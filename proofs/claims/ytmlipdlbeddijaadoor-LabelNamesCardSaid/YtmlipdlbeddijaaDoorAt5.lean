/-
  WHAT IS BORNE.
-/
import Derived.Test.YtmlipdlbeddijaaDoorAt4
set_option linter.unusedVariables false
set_option linter.unusedSimpArgs false
set_option maxRecDepth 100000
namespace Go.Aa.T
open Go.Aa Go.Proofs
variable {H : Heap}

structure Taint where
  key : List UInt8
  val : List UInt8
  hard : Bool
structure Tol where
  key : List UInt8
  val : List UInt8
  any : Bool
def Taint.cells (t : Taint) : List AV := [.str t.key, .str t.val, .bool t.hard]
def Tol.cells (t : Tol) : List AV := [.str t.key, .str t.val, .bool t.any]
def encT (t : Taint) : AV := .agg t.cells
def encL (t : Tol) : AV := .agg t.cells
instance (t : Taint) : Dat (encT t) := ⟨rfl, rfl⟩
instance (t : Tol) : Dat (encL t) := ⟨rfl, rfl⟩
def Tol.one (x : Tol) (t : Taint) : Prop := (x.key = [] ∨ x.key = t.key) ∧ (x.any = true ∨ x.val = t.val)
instance (x : Tol) (t : Taint) : Decidable (x.one t) := by unfold Tol.one; infer_instance
def H1 (t : Taint) : Heap := ⟨[t.cells], [], []⟩

theorem one_any (x : Tol) (t : Taint) : lim cfg (.fn 71) [encL x, .ptr 0 0] (H1 t) = some (.ret (.bool (decide (x.one t))), ⟨[t.cells, x.cells], [], []⟩) := by
  rw [l71]
  by_cases h : x.one t
  · rw [decide_eq_true h]
    refine go 60 [] trivial (.split (x.key = [])
      (fun h1 => .seqT h1 <| .tt <| .tt <| .split (x.any = true) (fun h3 => .yes h3 <| .done) (fun h3 => .no (by simpa using h3) <| .seqT (show x.val = t.val from h.2.resolve_left h3) <| .done))
      (fun h1 => .seqF h1 <| .ff <| .seqT (show x.key = t.key from h.1.resolve_left h1) <| .tt <| .split (x.any = true) (fun h3 => .yes h3 <| .done) (fun h3 => .no (by simpa using h3) <| .seqT (show x.val = t.val from h.2.resolve_left h3) <| .done))) (by kernel_rfl)
  · rw [decide_eq_false h]
    refine go 60 [] trivial (.split (x.key = [])
      (fun h1 => .seqT h1 <| .tt <| .tt <| .no (show x.any = false by have := mt (fun h3 => (⟨.inl h1, .inl h3⟩ : x.one t)) h; simpa using this) <| .seqF (show x.val ≠ t.val from fun h3 => h ⟨.inl h1, .inr h3⟩) <| .done)
      (fun h1 => .seqF h1 <| .ff <| .split (x.key = t.key)
        (fun h2 => .seqT h2 <| .tt <| .no (show x.any = false by have := mt (fun h3 => (⟨.inr h2, .inl h3⟩ : x.one t)) h; simpa using this) <| .seqF (show x.val ≠ t.val from fun h3 => h ⟨.inr h2, .inr h3⟩) <| .done)
        (fun h2 => .seqF h2 <| .ff <| .done))) (by kernel_rfl)

/-- The place of the first that is so, or -1. -/
def fidx {α : Type} (p : α → Prop) [DecidablePred p] : List α → Nat → Int
  | [], _ => -1
  | x :: l, i => if p x then i else fidx p l (i + 1)
theorem fidx_ge {α : Type} (p : α → Prop) [DecidablePred p] : ∀ (l : List α) (i : Nat), 0 ≤ fidx p l i ↔ ∃ x ∈ l, p x
  | [], i => by simp [fidx]
  | x :: l, i => by
    unfold fidx
    by_cases h : p x
    · rw [if_pos h]; simp [h]
    · rw [if_neg h, fidx_ge p l (i + 1)]; simp [h]

theorem index_loop (l : List Tol) (t : Taint) (hn : l.length < 9223372036854775807) : ∀ (post pre : List Tol) (T : Env), l = pre ++ post →
    Has T [(0, .sl .sh (l.map encL)), (1, .func 71 [.ptr 0 0]), (7, .int .i64 l.length), (8, .int .i64 pre.length)] →
    runL cfg a100 k100_0 T (H1 t) = some (.ret (.int .i64 (fidx (fun x => x.one t) post pre.length)), H1 t)
  | [], pre, T, e, hT => by
    exact go 60 _ hT (.ltF (show (l.length : Int) ≤ pre.length by rw [e]; simp) <| .ff <| .done) (by kernel_rfl)
  | x :: post, pre, T, e, hT => by
    have hlt : pre.length < l.length := by rw [e]; simp
    have hi : (l.map encL)[pre.length]? = some (encL x) := by rw [e]; simp
    by_cases h : x.one t
    · simp only [fidx, if_pos h]
      exact go 60 _ hT (.ltT (show (pre.length : Int) < l.length by omega) <| .tt <| .idx (idx_at (k := .sh) (q := .i64) (es := 3) hi rfl) <| .callH (xs := [encL x]) (one_any x t) rfl rfl <| .yes (decide_eq_true h) <| .done) (by kernel_rfl)
    · simp only [fidx, if_neg h]
      exact go 60 _ hT (.ltT (show (pre.length : Int) < l.length by omega) <| .tt <| .idx (idx_at (k := .sh) (q := .i64) (es := 3) hi rfl) <| .callH (xs := [encL x]) (one_any x t) rfl rfl <| .no (decide_eq_false h) <| .inc pre.length (by omega) <|
        .cut k100_0 [(0, .sl .sh (l.map encL)), (1, .func 71 [.ptr 0 0]), (7, .int .i64 l.length), (8, .int .i64 ((pre.length + 1 : Nat) : Int))] (H1 t) (fun T hT => by
          have := index_loop l t hn post (pre ++ [x]) T (by rw [e]; simp) (by rw [List.length_append]; exact hT)
          rw [List.length_append] at this
          exact this)) (by kernel_rfl)

theorem index_any {l : List Tol} (t : Taint) (hn : l.length < 9223372036854775807) : lim cfg (.fn 100) [.sl .sh (l.map encL), .func 71 [.ptr 0 0]] (H1 t) = some (.ret (.int .i64 (fidx (fun x => x.one t) l 0)), H1 t) := by
  rw [l100]
  exact go 60 [] trivial (.len (show lenA false (.sl .sh (l.map encL)) = some (.int .i64 l.length) by simp [lenA]) <| .cut k100_0 [(0, .sl .sh (l.map encL)), (1, .func 71 [.ptr 0 0]), (7, .int .i64 l.length), (8, .int .i64 0)] (H1 t) (fun T hT => index_loop l t hn l [] T rfl hT)) (by kernel_rfl)
def bears (l : List Tol) (t : Taint) : Prop := ∃ x ∈ l, x.one t
instance (l : List Tol) (t : Taint) : Decidable (bears l t) := by unfold bears; infer_instance
theorem contains_any {l : List Tol} (t : Taint) (hn : l.length < 9223372036854775807) : lim cfg (.fn 70) [.sl .sh (l.map encL), .func 71 [.ptr 0 0]] (H1 t) = some (.ret (.bool (decide (bears l t))), H1 t) := by
  rw [l70]
  have hg := fidx_ge (fun x : Tol => x.one t) l 0
  by_cases h : bears l t
  · rw [decide_eq_true h]
    exact go 60 [] trivial (.callH (xs := [.sl .sh (l.map encL), .func 71 [.ptr 0 0]]) (caps := []) (index_any t hn) rfl rfl <| .geT (hg.2 h) <| .done) (by kernel_rfl)
  · rw [decide_eq_false h]
    exact go 60 [] trivial (.callH (xs := [.sl .sh (l.map encL), .func 71 [.ptr 0 0]]) (caps := []) (index_any t hn) rfl rfl <| .geF (show fidx (fun x => x.one t) l 0 < 0 by have := mt hg.1 h; omega) <| .done) (by kernel_rfl)
theorem bears_any {l : List Tol} (t : Taint) (hn : l.length < 9223372036854775807) : lim cfg (.fn 30) [.sl .sh (l.map encL), encT t] Heap.nil = some (.ret (.bool (decide (bears l t))), H1 t) := by
  rw [l30]
  exact go 60 [] trivial (.callH (xs := [.sl .sh (l.map encL), .func 71 [.ptr 0 0]]) (caps := []) (contains_any t hn) rfl rfl <| .done) (by kernel_rfl)
end Go.Aa.T
