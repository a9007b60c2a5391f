/-
  EACH TAINT, each toleration of one key.
-/
import Derived.Test.YtmlipdlbeddijaaDoorAt5
set_option linter.unusedVariables false
set_option linter.unusedSimpArgs false
set_option maxRecDepth 100000
namespace Go.Aa.T
open Go.Aa Go.Proofs

def K : Nat → List UInt8
  | 0 => [103, 112, 117]
  | 1 => [111, 108, 100]
  | _ => []
def V : Nat → List UInt8
  | 0 => [121, 101, 115]
  | _ => [110, 111]
def KL : AV := .sl .full [.str [103, 112, 117], .str [111, 108, 100], .str []]
def VL : AV := .sl .full [.str [121, 101, 115], .str [110, 111]]
theorem idxK {n : Nat} (h : n < 3) : idxA 1 KL (.int .u8 (n : Int)) = some (.ref [.str (K n)]) := by
  have : n = 0 ∨ n = 1 ∨ n = 2 := by omega
  rcases this with rfl | rfl | rfl <;> rfl
theorem idxV {n : Nat} (h : n < 2) : idxA 1 VL (.int .u8 (n : Int)) = some (.ref [.str (V n)]) := by
  have : n = 0 ∨ n = 1 := by omega
  rcases this with rfl | rfl <;> rfl
theorem K_nil {n : Nat} (h : n < 3) : K n = [] ↔ n = 2 := by
  have : n = 0 ∨ n = 1 ∨ n = 2 := by omega
  rcases this with rfl | rfl | rfl <;> simp [K]
theorem K_inj {n m : Nat} (h : n < 3) (h' : m < 2) : K n = K m ↔ n = m := by
  have : n = 0 ∨ n = 1 ∨ n = 2 := by omega
  have : m = 0 ∨ m = 1 := by omega
  rcases ‹n = 0 ∨ n = 1 ∨ n = 2› with rfl | rfl | rfl <;> rcases ‹m = 0 ∨ m = 1› with rfl | rfl <;> simp [K]
theorem V_inj {n m : Nat} (h : n < 2) (h' : m < 2) : V n = V m ↔ n = m := by
  have : n = 0 ∨ n = 1 := by omega
  have : m = 0 ∨ m = 1 := by omega
  rcases ‹n = 0 ∨ n = 1› with rfl | rfl <;> rcases ‹m = 0 ∨ m = 1› with rfl | rfl <;> simp [V]
theorem remN {k : IntKind} {a m : Nat} (h : m ≠ 0) : binA .rem (.int k (a : Int)) (.int k (m : Int)) = some (.int k ((a % m : Nat) : Int)) := by
  have : (m : Int) ≠ 0 := by omega
  simp only [binA, if_true, intBin, if_neg this]
  rfl
theorem bears_one (l : Tol) (t : Taint) : bears [l] t ↔ l.one t := by simp [bears]
theorem bears_nil (t : Taint) : ¬ bears [] t := by simp [bears]

def tA (a x : Nat) : Taint := ⟨K a, V x, false⟩
def lA (b y : Nat) (any : Bool) : Tol := ⟨K b, if any = true then [] else V y, any⟩
theorem one_A {a b x y : Nat} {any : Bool} (ha : a < 2) (hb : b < 3) (hx : x < 2) (hy : y < 2) : (lA b y any).one (tA a x) ↔ (b = 2 ∨ b = a) ∧ (any = true ∨ x = y) := by
  unfold Tol.one lA tA
  simp only [K_nil hb, K_inj hb ha]
  cases any with
  | true => simp
  | false => simp [V_inj hy hx, eq_comm]

theorem bearsV {l : Tol} {t : Taint} {v : Bool} (h : decide (l.one t) = v) : lim cfg (.fn 30) [.sl .sh [encL l], encT t] Heap.nil = some (.ret (.bool v), H1 t) := by
  have := bears_any (l := [l]) t (by simp)
  rw [show decide (bears [l] t) = v by rw [← h]; exact decide_eq_decide.2 (bears_one l t)] at this
  exact this
theorem bears0 (t : Taint) : lim cfg (.fn 30) [.sl .sh [], encT t] Heap.nil = some (.ret (.bool false), H1 t) := by
  have := bears_any (l := []) t (by simp)
  rw [decide_eq_false (bears_nil t)] at this
  exact this

theorem taintEach {a b x y : Nat} (any : Bool) : lim cfg (.fn 7) [.int .u8 (a : Int), .int .u8 (b : Int), .int .u8 (x : Int), .int .u8 (y : Int), .bool any] Heap.nil = some (.ret (.bool true), ⟨[(tA (a % 2) (x % 2)).cells, (lA (b % 3) (y % 2) any).cells], [], []⟩) := by
  have ha : a % 2 < 2 := Nat.mod_lt _ (by omega)
  have hb : b % 3 < 3 := Nat.mod_lt _ (by omega)
  have hx : x % 2 < 2 := Nat.mod_lt _ (by omega)
  have hy : y % 2 < 2 := Nat.mod_lt _ (by omega)
  have ho := one_A (any := any) ha hb hx hy
  rw [l7]
  cases any with
  | true =>
    simp only [true_or, and_true] at ho
    by_cases c1 : b % 3 = 2
    · have hv : decide ((lA (b % 3) (y % 2) true).one (tA (a % 2) (x % 2))) = true := decide_eq_true (by rw [ho]; omega)
      exact go 80 [] trivial (.call known' <| .ff <| .bin (remN (k := .u8) (a := a) (m := 2) (by omega)) <| .idx (idxK (n := a % 2) (by omega)) <| .bin (remN (k := .u8) (a := x) (m := 2) (by omega)) <| .idx (idxV hx) <| .bin (remN (k := .u8) (a := b) (m := 3) (by omega)) <| .idx (idxK hb) <| .ff <| .callW [.sl .full [encL (lA (b % 3) (y % 2) true)], encT (tA (a % 2) (x % 2))] (bearsV (v := true) hv) <| .bin (remN (k := .u8) (a := b) (m := 3) (by omega)) <| .bin (eqlT (k := .u8) (show ((b % 3 : Nat) : Int) = 2 by omega)) <| .tt <| .tt <| .tt <| .tt <| .callW [.sl .full [], encT (tA (a % 2) (x % 2))] (bears0 _) <| .done) (by kernel_rfl)
    · by_cases c2 : b % 3 = a % 2
      · have hv : decide ((lA (b % 3) (y % 2) true).one (tA (a % 2) (x % 2))) = true := decide_eq_true (by rw [ho]; omega)
        exact go 80 [] trivial (.call known' <| .ff <| .bin (remN (k := .u8) (a := a) (m := 2) (by omega)) <| .idx (idxK (n := a % 2) (by omega)) <| .bin (remN (k := .u8) (a := x) (m := 2) (by omega)) <| .idx (idxV hx) <| .bin (remN (k := .u8) (a := b) (m := 3) (by omega)) <| .idx (idxK hb) <| .ff <| .callW [.sl .full [encL (lA (b % 3) (y % 2) true)], encT (tA (a % 2) (x % 2))] (bearsV (v := true) hv) <| .bin (remN (k := .u8) (a := b) (m := 3) (by omega)) <| .bin (eqlF (k := .u8) (show ((b % 3 : Nat) : Int) ≠ 2 by omega)) <| .ff <| .bin (remN (k := .u8) (a := b) (m := 3) (by omega)) <| .bin (remN (k := .u8) (a := a) (m := 2) (by omega)) <| .bin (eqlT (k := .u8) (show ((b % 3 : Nat) : Int) = ((a % 2 : Nat) : Int) by omega)) <| .tt <| .tt <| .tt <| .callW [.sl .full [], encT (tA (a % 2) (x % 2))] (bears0 _) <| .done) (by kernel_rfl)
      · have hv : decide ((lA (b % 3) (y % 2) true).one (tA (a % 2) (x % 2))) = false := decide_eq_false (by rw [ho]; omega)
        exact go 80 [] trivial (.call known' <| .ff <| .bin (remN (k := .u8) (a := a) (m := 2) (by omega)) <| .idx (idxK (n := a % 2) (by omega)) <| .bin (remN (k := .u8) (a := x) (m := 2) (by omega)) <| .idx (idxV hx) <| .bin (remN (k := .u8) (a := b) (m := 3) (by omega)) <| .idx (idxK hb) <| .ff <| .callW [.sl .full [encL (lA (b % 3) (y % 2) true)], encT (tA (a % 2) (x % 2))] (bearsV (v := false) hv) <| .bin (remN (k := .u8) (a := b) (m := 3) (by omega)) <| .bin (eqlF (k := .u8) (show ((b % 3 : Nat) : Int) ≠ 2 by omega)) <| .ff <| .bin (remN (k := .u8) (a := b) (m := 3) (by omega)) <| .bin (remN (k := .u8) (a := a) (m := 2) (by omega)) <| .bin (eqlF (k := .u8) (show ((b % 3 : Nat) : Int) ≠ ((a % 2 : Nat) : Int) by omega)) <| .ff <| .tt <| .callW [.sl .full [], encT (tA (a % 2) (x % 2))] (bears0 _) <| .done) (by kernel_rfl)
  | false =>
    simp only [Bool.false_eq_true, false_or] at ho
    by_cases c1 : b % 3 = 2
    · by_cases c4 : x % 2 = y % 2
      · have hv : decide ((lA (b % 3) (y % 2) false).one (tA (a % 2) (x % 2))) = true := decide_eq_true (by rw [ho]; omega)
        exact go 80 [] trivial (.call known' <| .ff <| .bin (remN (k := .u8) (a := a) (m := 2) (by omega)) <| .idx (idxK (n := a % 2) (by omega)) <| .bin (remN (k := .u8) (a := x) (m := 2) (by omega)) <| .idx (idxV hx) <| .bin (remN (k := .u8) (a := b) (m := 3) (by omega)) <| .idx (idxK hb) <| .tt <| .bin (remN (k := .u8) (a := y) (m := 2) (by omega)) <| .idx (idxV hy) <| .callW [.sl .full [encL (lA (b % 3) (y % 2) false)], encT (tA (a % 2) (x % 2))] (bearsV (v := true) hv) <| .bin (remN (k := .u8) (a := b) (m := 3) (by omega)) <| .bin (eqlT (k := .u8) (show ((b % 3 : Nat) : Int) = 2 by omega)) <| .tt <| .tt <| .ff <| .bin (remN (k := .u8) (a := x) (m := 2) (by omega)) <| .bin (remN (k := .u8) (a := y) (m := 2) (by omega)) <| .bin (eqlT (k := .u8) (show ((x % 2 : Nat) : Int) = ((y % 2 : Nat) : Int) by omega)) <| .tt <| .callW [.sl .full [], encT (tA (a % 2) (x % 2))] (bears0 _) <| .done) (by kernel_rfl)
      · have hv : decide ((lA (b % 3) (y % 2) false).one (tA (a % 2) (x % 2))) = false := decide_eq_false (by rw [ho]; omega)
        exact go 80 [] trivial (.call known' <| .ff <| .bin (remN (k := .u8) (a := a) (m := 2) (by omega)) <| .idx (idxK (n := a % 2) (by omega)) <| .bin (remN (k := .u8) (a := x) (m := 2) (by omega)) <| .idx (idxV hx) <| .bin (remN (k := .u8) (a := b) (m := 3) (by omega)) <| .idx (idxK hb) <| .tt <| .bin (remN (k := .u8) (a := y) (m := 2) (by omega)) <| .idx (idxV hy) <| .callW [.sl .full [encL (lA (b % 3) (y % 2) false)], encT (tA (a % 2) (x % 2))] (bearsV (v := false) hv) <| .bin (remN (k := .u8) (a := b) (m := 3) (by omega)) <| .bin (eqlT (k := .u8) (show ((b % 3 : Nat) : Int) = 2 by omega)) <| .tt <| .tt <| .ff <| .bin (remN (k := .u8) (a := x) (m := 2) (by omega)) <| .bin (remN (k := .u8) (a := y) (m := 2) (by omega)) <| .bin (eqlF (k := .u8) (show ((x % 2 : Nat) : Int) ≠ ((y % 2 : Nat) : Int) by omega)) <| .tt <| .callW [.sl .full [], encT (tA (a % 2) (x % 2))] (bears0 _) <| .done) (by kernel_rfl)
    · by_cases c2 : b % 3 = a % 2
      · by_cases c4 : x % 2 = y % 2
        · have hv : decide ((lA (b % 3) (y % 2) false).one (tA (a % 2) (x % 2))) = true := decide_eq_true (by rw [ho]; omega)
          exact go 80 [] trivial (.call known' <| .ff <| .bin (remN (k := .u8) (a := a) (m := 2) (by omega)) <| .idx (idxK (n := a % 2) (by omega)) <| .bin (remN (k := .u8) (a := x) (m := 2) (by omega)) <| .idx (idxV hx) <| .bin (remN (k := .u8) (a := b) (m := 3) (by omega)) <| .idx (idxK hb) <| .tt <| .bin (remN (k := .u8) (a := y) (m := 2) (by omega)) <| .idx (idxV hy) <| .callW [.sl .full [encL (lA (b % 3) (y % 2) false)], encT (tA (a % 2) (x % 2))] (bearsV (v := true) hv) <| .bin (remN (k := .u8) (a := b) (m := 3) (by omega)) <| .bin (eqlF (k := .u8) (show ((b % 3 : Nat) : Int) ≠ 2 by omega)) <| .ff <| .bin (remN (k := .u8) (a := b) (m := 3) (by omega)) <| .bin (remN (k := .u8) (a := a) (m := 2) (by omega)) <| .bin (eqlT (k := .u8) (show ((b % 3 : Nat) : Int) = ((a % 2 : Nat) : Int) by omega)) <| .tt <| .ff <| .bin (remN (k := .u8) (a := x) (m := 2) (by omega)) <| .bin (remN (k := .u8) (a := y) (m := 2) (by omega)) <| .bin (eqlT (k := .u8) (show ((x % 2 : Nat) : Int) = ((y % 2 : Nat) : Int) by omega)) <| .tt <| .callW [.sl .full [], encT (tA (a % 2) (x % 2))] (bears0 _) <| .done) (by kernel_rfl)
        · have hv : decide ((lA (b % 3) (y % 2) false).one (tA (a % 2) (x % 2))) = false := decide_eq_false (by rw [ho]; omega)
          exact go 80 [] trivial (.call known' <| .ff <| .bin (remN (k := .u8) (a := a) (m := 2) (by omega)) <| .idx (idxK (n := a % 2) (by omega)) <| .bin (remN (k := .u8) (a := x) (m := 2) (by omega)) <| .idx (idxV hx) <| .bin (remN (k := .u8) (a := b) (m := 3) (by omega)) <| .idx (idxK hb) <| .tt <| .bin (remN (k := .u8) (a := y) (m := 2) (by omega)) <| .idx (idxV hy) <| .callW [.sl .full [encL (lA (b % 3) (y % 2) false)], encT (tA (a % 2) (x % 2))] (bearsV (v := false) hv) <| .bin (remN (k := .u8) (a := b) (m := 3) (by omega)) <| .bin (eqlF (k := .u8) (show ((b % 3 : Nat) : Int) ≠ 2 by omega)) <| .ff <| .bin (remN (k := .u8) (a := b) (m := 3) (by omega)) <| .bin (remN (k := .u8) (a := a) (m := 2) (by omega)) <| .bin (eqlT (k := .u8) (show ((b % 3 : Nat) : Int) = ((a % 2 : Nat) : Int) by omega)) <| .tt <| .ff <| .bin (remN (k := .u8) (a := x) (m := 2) (by omega)) <| .bin (remN (k := .u8) (a := y) (m := 2) (by omega)) <| .bin (eqlF (k := .u8) (show ((x % 2 : Nat) : Int) ≠ ((y % 2 : Nat) : Int) by omega)) <| .tt <| .callW [.sl .full [], encT (tA (a % 2) (x % 2))] (bears0 _) <| .done) (by kernel_rfl)
      · have hv : decide ((lA (b % 3) (y % 2) false).one (tA (a % 2) (x % 2))) = false := decide_eq_false (by rw [ho]; omega)
        exact go 80 [] trivial (.call known' <| .ff <| .bin (remN (k := .u8) (a := a) (m := 2) (by omega)) <| .idx (idxK (n := a % 2) (by omega)) <| .bin (remN (k := .u8) (a := x) (m := 2) (by omega)) <| .idx (idxV hx) <| .bin (remN (k := .u8) (a := b) (m := 3) (by omega)) <| .idx (idxK hb) <| .tt <| .bin (remN (k := .u8) (a := y) (m := 2) (by omega)) <| .idx (idxV hy) <| .callW [.sl .full [encL (lA (b % 3) (y % 2) false)], encT (tA (a % 2) (x % 2))] (bearsV (v := false) hv) <| .bin (remN (k := .u8) (a := b) (m := 3) (by omega)) <| .bin (eqlF (k := .u8) (show ((b % 3 : Nat) : Int) ≠ 2 by omega)) <| .ff <| .bin (remN (k := .u8) (a := b) (m := 3) (by omega)) <| .bin (remN (k := .u8) (a := a) (m := 2) (by omega)) <| .bin (eqlF (k := .u8) (show ((b % 3 : Nat) : Int) ≠ ((a % 2 : Nat) : Int) by omega)) <| .ff <| .tt <| .callW [.sl .full [], encT (tA (a % 2) (x % 2))] (bears0 _) <| .done) (by kernel_rfl)
theorem law7 (xs : List AV) (h : TyAll Tryd.prog 5 [5, 5, 5, 5, 4] xs) : ∃ H', lim cfg (.fn 7) xs Heap.nil = some (.ret (.bool true), H') := by
  obtain ⟨x1, x2, x3, x4, x5, rfl, h1, h2, h3, h4, h5⟩ := tyall_5 h
  have key : ∀ x, TyV Tryd.prog 5 5 x → ∃ n : Nat, x = .int .u8 (n : Int) := fun x hx => by
    obtain ⟨m, rfl, hm⟩ := tyv_int Tryd.underlying5 hx
    have h' : IntKind.u8.min ≤ m ∧ m ≤ IntKind.u8.max := by simpa [Lit.wf, IntKind.has] using hm
    have e1 : IntKind.u8.min = 0 := rfl
    exact ⟨m.toNat, by congr 1; omega⟩
  obtain ⟨a, rfl⟩ := key _ h1
  obtain ⟨b, rfl⟩ := key _ h2
  obtain ⟨x, rfl⟩ := key _ h3
  obtain ⟨y, rfl⟩ := key _ h4
  obtain ⟨c, rfl⟩ := tyv_bool Tryd.underlying4 h5
  exact ⟨_, taintEach c⟩
end Go.Aa.T
