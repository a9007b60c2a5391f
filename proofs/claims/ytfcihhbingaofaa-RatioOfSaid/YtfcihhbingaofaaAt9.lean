/-
  ANY NUMBER BY ANY OTHER ONE.
-/
import Derived.Test.YtfcihhbingaofaaAt8
import Derived.Test.YtfcihhbingaofaaAaR
set_option linter.unusedVariables false
set_option linter.unusedSimpArgs false
set_option maxRecDepth 100000
namespace Go.Aa.T
open Go.Aa
variable {H : Heap} {b c : Nat}

def fltR (x : Option Nat) : AV := match x with
  | some z => .flt z
  | none => .nan
theorem fltR_fl {x : Option Nat} (h : ∀ z, x = some z → NN z ∧ z < 18446744073709551616) : Fl (fltR x) := by
  cases x with
  | none => exact .nan
  | some z => exact .flt z (h z rfl).1 (h z rfl).2
theorem divB (x y : Nat) : binA .quo (.flt x) (.flt y) = some (fltR (F64.div x y)) := by
  simp only [binA, fltBin, fltAr, fltR]
  cases F64.div x y <;> rfl
theorem addB (x y : Nat) : binA .add (.flt x) (.flt y) = some (fltR (F64.add x y)) := by
  simp only [binA, fltBin, fltAr, fltR]
  cases F64.add x y <;> rfl
theorem alike_self {x : AV} (hx : Fl x) : lim cfg (.fn 15) [x, x] H = some (.ret (.bool true), H) := by
  rw [alike_any hx hx, cmp_self]; rfl
def ofA (a b : Int) : AV := fltR (F64.div (FloatKind.f64.nearest a) (FloatKind.f64.nearest b))
theorem ofA_fl (a b : Int) : Fl (ofA a b) := fltR_fl fun z h => div_fl h

theorem of_any (a b : Int) : lim cfg (.fn 18) [.int .i64 a, .int .i64 b] H = some (.ret (ofA a b), H) := by
  rw [l18]
  exact go 60 [] trivial (.bin (divB (FloatKind.f64.nearest a) (FloatKind.f64.nearest b)) <| .done) (by kernel_rfl)
theorem rof_any (a b : Int) : lim cfg (.fn 19) [.int .i64 a, .int .i64 b] H = some (.ret (ofA a b), H) := by
  rw [l19]
  exact go 60 [] trivial (.bin (divB (FloatKind.f64.nearest a) (FloatKind.f64.nearest b)) <| .done) (by kernel_rfl)

theorem cls_wrd {s : Bool} {r : Nat} (h : r ≤ 9218868437227405312) : cls (.flt (wrd s r)) = if r = 0 then (if s then 2 else 3) else if r = 9218868437227405312 then (if s then 0 else 5) else if s then 1 else 4 := by
  simp only [cls, clsB]
  rw [wrd_rank (by omega)]
  have hs := wrd_sign (s := s) (r := r) (by omega)
  unfold top
  cases s
  · simp only [Bool.false_eq_true, if_false, iff_false] at hs ⊢
    rw [if_neg hs]
    (repeat' split) <;> omega
  · simp only [if_true, iff_true] at hs ⊢
    rw [if_pos hs]
    (repeat' split) <;> omega

theorem ofA_cls {a b : Int} (la : a.natAbs ≤ 9223372036854775808) (lb : b.natAbs ≤ 9223372036854775808) : cls (ofA a b) =
    if b = 0 then (if a = 0 then 6 else if 0 < a then 5 else 0) else if a = 0 then (if b < 0 then 2 else 3) else if (decide (a < 0) ^^ decide (b < 0)) then 1 else 4 := by
  unfold ofA
  have z : FloatKind.f64.nearest 0 = 0 := rfl
  by_cases hb : b = 0
  · subst hb
    rw [z]
    by_cases ha : a = 0
    · subst ha
      rw [z, div_00]; rfl
    · rw [div_by0 ha la]
      simp only [fltR, cls_wrd (Nat.le_refl _)]
      by_cases h : a < 0
      · have : ¬ 0 < a := by omega
        simp [ha, h, this]
      · have : 0 < a := by omega
        simp [ha, h, this]
  · by_cases ha : a = 0
    · subst ha
      rw [z, div_of0 hb lb]
      simp only [fltR, cls_wrd (Nat.zero_le _)]
      simp [hb]
    · obtain ⟨R, h, h1, h2⟩ := div_int ha hb la lb
      rw [h]
      simp only [fltR, cls_wrd (Nat.le_of_lt h2)]
      have : R ≠ 0 := by omega
      have : R ≠ 9218868437227405312 := by omega
      simp [ha, hb, *]

theorem ratioOf {a b : Int} (la : a.natAbs ≤ 9223372036854775808) (lb : b.natAbs ≤ 9223372036854775808) : lim cfg (.fn 4) [.int .i64 a, .int .i64 b] H = some (.ret (.bool true), H) := by
  have hx := ofA_fl a b
  have := hx.dat
  have hc := ofA_cls la lb
  have c6 : b = 0 → a = 0 → cls (ofA a b) = 6 := fun hb ha => by rw [hc, if_pos hb, if_pos ha]
  have c5 : b = 0 → 0 < a → cls (ofA a b) = 5 := fun hb h => by rw [hc, if_pos hb, if_neg (by omega), if_pos h]
  have c0 : b = 0 → a ≠ 0 → ¬ 0 < a → cls (ofA a b) = 0 := fun hb ha h => by rw [hc, if_pos hb, if_neg ha, if_neg h]
  have c2 : b ≠ 0 → a = 0 → b < 0 → cls (ofA a b) = 2 := fun hb ha h => by rw [hc, if_neg hb, if_pos ha, if_pos h]
  have c3 : b ≠ 0 → a = 0 → ¬ b < 0 → cls (ofA a b) = 3 := fun hb ha h => by rw [hc, if_neg hb, if_pos ha, if_neg h]
  have c1 : b ≠ 0 → a ≠ 0 → (0 < a ↔ ¬ 0 < b) → cls (ofA a b) = 1 := fun hb ha h => by
    rw [hc, if_neg hb, if_neg ha]
    by_cases h1 : 0 < a
    · have h2 := h.1 h1
      have e1 : decide (a < 0) = false := by simp; omega
      have e2 : decide (b < 0) = true := by simp; omega
      rw [e1, e2]; rfl
    · have h2 : 0 < b := Decidable.not_not.1 fun x => h1 (h.2 x)
      have e1 : decide (a < 0) = true := by simp; omega
      have e2 : decide (b < 0) = false := by simp; omega
      rw [e1, e2]; rfl
  have c4 : b ≠ 0 → a ≠ 0 → (0 < a ↔ 0 < b) → cls (ofA a b) = 4 := fun hb ha h => by
    rw [hc, if_neg hb, if_neg ha]
    by_cases h1 : 0 < a
    · have h2 := h.1 h1
      have e1 : decide (a < 0) = false := by simp; omega
      have e2 : decide (b < 0) = false := by simp; omega
      rw [e1, e2]; rfl
    · have h2 : ¬ 0 < b := fun x => h1 (h.2 x)
      have e1 : decide (a < 0) = true := by simp; omega
      have e2 : decide (b < 0) = true := by simp; omega
      rw [e1, e2]; rfl
  rw [l4]
  refine go 60 [] trivial (.call known' <| .ff <| .call (of_any a b) <| .split (b = 0)
    (fun hb => .eqT hb <| .tt <| .split (a = 0)
      (fun ha => .eqT ha <| .tt <| .call (class_any hx) <| .eqT (c6 hb ha) <| .done)
      (fun ha => .eqF ha <| .ff <| .eqT hb <| .tt <| .split (0 < a)
        (fun h => .gtT h <| .tt <| .call (class_any hx) <| .eqT (c5 hb h) <| .done)
        (fun h => .gtF (show a ≤ 0 by omega) <| .ff <| .eqT hb <| .tt <| .call (class_any hx) <| .eqT (c0 hb ha h) <| .done)))
    (fun hb => .eqF hb <| .ff <| .ff <| .eqF hb <| .ff <| .ff <| .eqF hb <| .ff <| .split (a = 0)
      (fun ha => .eqT ha <| .tt <| .split (b < 0)
        (fun h => .ltT h <| .tt <| .call (class_any hx) <| .eqT (c2 hb ha h) <| .done)
        (fun h => .ltF (show 0 ≤ b by omega) <| .ff <| .eqT ha <| .tt <| .call (class_any hx) <| .eqT (c3 hb ha h) <| .done))
      (fun ha => .eqF ha <| .ff <| .ff <| .eqF ha <| .ff <| .split (0 < a)
        (fun h => .gtT h <| .split (0 < b)
          (fun h' => .gtT h' <| .ff <| .call (class_any hx) <| .eqT (c4 hb ha (by omega)) <| .tt <| .call (rof_any a b) <| .call (alike_self hx) <| .done)
          (fun h' => .gtF (show b ≤ 0 by omega) <| .tt <| .call (class_any hx) <| .eqT (c1 hb ha (by omega)) <| .tt <| .call (rof_any a b) <| .call (alike_self hx) <| .done))
        (fun h => .gtF (show a ≤ 0 by omega) <| .split (0 < b)
          (fun h' => .gtT h' <| .tt <| .call (class_any hx) <| .eqT (c1 hb ha (by omega)) <| .tt <| .call (rof_any a b) <| .call (alike_self hx) <| .done)
          (fun h' => .gtF (show b ≤ 0 by omega) <| .ff <| .call (class_any hx) <| .eqT (c4 hb ha (by omega)) <| .tt <| .call (rof_any a b) <| .call (alike_self hx) <| .done))))) (by kernel_rfl)
end Go.Aa.T
