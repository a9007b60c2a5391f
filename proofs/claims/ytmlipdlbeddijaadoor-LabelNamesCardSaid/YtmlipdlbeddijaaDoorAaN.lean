/-
  FLOATS BY THEIR PLACE AMONG ALL: the order of two words that are no NaN is the order of their signed rungs.
-/
import Derived.Test.YtmlipdlbeddijaaDoorAaM
set_option linter.unusedVariables false
set_option linter.unusedSimpArgs false
namespace Go.Aa

/-- No NaN. -/
def NN (b : Nat) : Prop := (FloatKind.f64.format.read b).isNaN = false
/-- The rung, signed. -/
def rank (b : Nat) : Int := if b / 9223372036854775808 % 2 = 1 then -(b % 9223372036854775808 : Nat) else (b % 9223372036854775808 : Nat)

/-- What a rung stands for, in units of the least one. -/
def worth (r : Nat) : Nat := if r < 4503599627370496 then r else (4503599627370496 + r % 4503599627370496) * 2 ^ (r / 4503599627370496 - 1)

theorem worth_lt {r s : Nat} (h : r < s) : worth r < worth s := by
  unfold worth
  by_cases hr : r < 4503599627370496
  · rw [if_pos hr]
    by_cases hs : s < 4503599627370496
    · rw [if_pos hs]; exact h
    · rw [if_neg hs]
      have h1 : 0 < 2 ^ (s / 4503599627370496 - 1) := Nat.two_pow_pos _
      have h2 := Nat.mul_le_mul (Nat.le_refl (4503599627370496 + s % 4503599627370496)) (show 1 ≤ 2 ^ (s / 4503599627370496 - 1) from h1)
      omega
  · rw [if_neg hr, if_neg (show ¬ s < 4503599627370496 by omega)]
    have hq : r / 4503599627370496 ≤ s / 4503599627370496 := Nat.div_le_div_right (by omega)
    have hr1 : 1 ≤ r / 4503599627370496 := by omega
    rcases Nat.lt_or_ge (r / 4503599627370496) (s / 4503599627370496) with hlt | hge
    · have e1 : (4503599627370496 + r % 4503599627370496) * 2 ^ (r / 4503599627370496 - 1) < 9007199254740992 * 2 ^ (r / 4503599627370496 - 1) :=
        Nat.mul_lt_mul_of_pos_right (by omega) (Nat.two_pow_pos _)
      have e2 : 9007199254740992 * 2 ^ (r / 4503599627370496 - 1) = 4503599627370496 * 2 ^ (r / 4503599627370496) := by
        obtain ⟨q, hq'⟩ : ∃ q, r / 4503599627370496 = q + 1 := ⟨r / 4503599627370496 - 1, by omega⟩
        rw [hq', Nat.add_sub_cancel, Nat.pow_succ]
        omega
      have e3 : 2 ^ (r / 4503599627370496) ≤ 2 ^ (s / 4503599627370496 - 1) := Nat.pow_le_pow_right (by omega) (by omega)
      have e4 : 4503599627370496 * 2 ^ (r / 4503599627370496) ≤ (4503599627370496 + s % 4503599627370496) * 2 ^ (s / 4503599627370496 - 1) := Nat.mul_le_mul (by omega) e3
      omega
    · have he : s / 4503599627370496 = r / 4503599627370496 := by omega
      rw [he]
      exact Nat.mul_lt_mul_of_pos_right (by omega) (Nat.two_pow_pos _)

theorem compare_worth (s t : Bool) (a b : Nat) : compare (if s then -(worth a : Int) else worth a) (if t then -(worth b : Int) else worth b) = compare (if s then -(a : Int) else a) (if t then -(b : Int) else b) := by
  have w0 : worth 0 = 0 := rfl
  have wp : ∀ x, 0 < x → 0 < worth x := fun x hx => by have := worth_lt hx; rw [w0] at this; exact this
  have key : ∀ x y u v : Int, (x < y ↔ u < v) → (y < x ↔ v < u) → compare x y = compare u v := by
    intro x y u v h1 h2
    simp only [compare, compareOfLessAndEq]
    by_cases hxy : x < y
    · rw [if_pos hxy, if_pos (h1.1 hxy)]
    · rw [if_neg hxy, if_neg (fun h => hxy (h1.2 h))]
      by_cases he : x = y
      · rw [if_pos he, if_pos (by
          have a1 : ¬ u < v := fun h => hxy (h1.2 h)
          have a2 : ¬ v < u := fun h => by have := h2.2 h; omega
          omega)]
      · rw [if_neg he, if_neg (fun h => by
          have a1 : y < x := by omega
          have := h2.1 a1
          omega)]
  rcases Nat.lt_trichotomy a b with h | h | h
  · have hw := worth_lt h
    rcases Nat.eq_zero_or_pos a with ha | ha
    · subst ha
      have := wp b h
      rw [w0] at hw ⊢
      cases s <;> cases t <;> refine key _ _ _ _ ?_ ?_ <;> simp <;> omega
    · have h1 := wp a ha
      cases s <;> cases t <;> refine key _ _ _ _ ?_ ?_ <;> simp <;> omega
  · subst h
    rcases Nat.eq_zero_or_pos a with ha | ha
    · subst ha; rw [w0]
    · have h1 := wp a ha
      cases s <;> cases t <;> refine key _ _ _ _ ?_ ?_ <;> simp <;> omega
  · have hw := worth_lt h
    rcases Nat.eq_zero_or_pos b with hb | hb
    · subst hb
      have := wp a h
      rw [w0] at hw ⊢
      cases s <;> cases t <;> refine key _ _ _ _ ?_ ?_ <;> simp <;> omega
    · have h1 := wp b hb
      cases s <;> cases t <;> refine key _ _ _ _ ?_ ?_ <;> simp <;> omega

theorem signed_eq (s : Bool) (m k : Nat) : Ieee.signed s m k = if s then -((m * 2 ^ k : Nat) : Int) else ((m * 2 ^ k : Nat) : Int) := by
  unfold Ieee.signed
  rw [Nat.shiftLeft_eq]

theorem compare_scale (x y : Int) (k : Nat) : compare (x * 2 ^ k) (y * 2 ^ k) = compare x y := by
  have hp : (0 : Int) < 2 ^ k := by exact_mod_cast Nat.two_pow_pos k
  simp only [compare, compareOfLessAndEq]
  have h1 : x * 2 ^ k < y * 2 ^ k ↔ x < y := Int.mul_lt_mul_right hp
  have h2 : x * 2 ^ k = y * 2 ^ k ↔ x = y := ⟨fun h => Int.eq_of_mul_eq_mul_right (by omega) h, fun h => by rw [h]⟩
  simp only [h1, h2]

theorem compare_signed (s t : Bool) (m n i j : Nat) : compare (Ieee.signed s m (i - min i j)) (Ieee.signed t n (j - min i j)) =
    compare (if s then -((m * 2 ^ i : Nat) : Int) else ((m * 2 ^ i : Nat) : Int)) (if t then -((n * 2 ^ j : Nat) : Int) else ((n * 2 ^ j : Nat) : Int)) := by
  rw [← compare_scale _ _ (min i j), signed_eq, signed_eq]
  have e1 : ((m * 2 ^ (i - min i j) : Nat) : Int) * 2 ^ (min i j) = ((m * 2 ^ i : Nat) : Int) := by
    have : m * 2 ^ (i - min i j) * 2 ^ (min i j) = m * 2 ^ i := by
      rw [Nat.mul_assoc, ← Nat.pow_add, Nat.sub_add_cancel (Nat.min_le_left _ _)]
    rw [← this]; push_cast; rfl
  have e2 : ((n * 2 ^ (j - min i j) : Nat) : Int) * 2 ^ (min i j) = ((n * 2 ^ j : Nat) : Int) := by
    have : n * 2 ^ (j - min i j) * 2 ^ (min i j) = n * 2 ^ j := by
      rw [Nat.mul_assoc, ← Nat.pow_add, Nat.sub_add_cancel (Nat.min_le_right _ _)]
    rw [← this]; push_cast; rfl
  congr 1
  · cases s
    · simp only [Bool.false_eq_true, if_false]; exact e1
    · simp only [if_true]; rw [Int.neg_mul, e1]
  · cases t
    · simp only [Bool.false_eq_true, if_false]; exact e2
    · simp only [if_true]; rw [Int.neg_mul, e2]

/-- What a word reads as. -/
inductive Reads (b : Nat) : Prop
  | number (m k : Nat) (h : FloatKind.f64.format.read b = .number (decide (b / 9223372036854775808 % 2 = 1)) m (-1074 + (k : Int))) (hw : m * 2 ^ k = worth (b % 9223372036854775808)) (hlt : b % 9223372036854775808 < 9218868437227405312)
  | inf (h : FloatKind.f64.format.read b = .infinity (decide (b / 9223372036854775808 % 2 = 1))) (he : b % 9223372036854775808 = 9218868437227405312)
  | nan (s : Bool) (x : Nat) (h : FloatKind.f64.format.read b = .nan s x) (hgt : 9218868437227405312 < b % 9223372036854775808)

theorem reads (b : Nat) : Reads b := by
  have e1 : FloatKind.f64.format.signWeight = 9223372036854775808 := rfl
  have e2 : FloatKind.f64.format.binade = 4503599627370496 := rfl
  have e3 : FloatKind.f64.format.infRung = 9218868437227405312 := rfl
  have e4 : FloatKind.f64.format.leastPlace = -1074 := rfl
  have es : (b / 9223372036854775808 % 2 == 1) = decide (b / 9223372036854775808 % 2 = 1) := by
    by_cases h : b / 9223372036854775808 % 2 = 1 <;> simp [h]
  by_cases h1 : b % 9223372036854775808 < 4503599627370496
  · refine .number (b % 9223372036854775808) 0 ?_ ?_ (by omega)
    · unfold Ieee.Format.read
      simp only [e1, e2, e3, e4, es]
      rw [if_pos h1]
      simp
    · unfold worth; rw [if_pos h1]; simp
  · by_cases h2 : b % 9223372036854775808 < 9218868437227405312
    · refine .number (4503599627370496 + b % 9223372036854775808 % 4503599627370496) (b % 9223372036854775808 / 4503599627370496 - 1) ?_ ?_ h2
      · unfold Ieee.Format.read
        simp only [e1, e2, e3, e4, es]
        rw [if_neg h1, if_pos h2]
      · unfold worth; rw [if_neg h1]
    · by_cases h3 : b % 9223372036854775808 = 9218868437227405312
      · refine .inf ?_ h3
        unfold Ieee.Format.read
        simp only [e1, e2, e3, e4, es]
        rw [if_neg h1, if_neg h2, if_pos h3]
      · refine .nan (decide (b / 9223372036854775808 % 2 = 1)) (b % 9223372036854775808 - 9218868437227405312) ?_ (by omega)
        unfold Ieee.Format.read
        simp only [e1, e2, e3, e4, es]
        rw [if_neg h1, if_neg h2, if_neg h3]

theorem NN_iff (b : Nat) : NN b ↔ b % 9223372036854775808 ≤ 9218868437227405312 := by
  unfold NN
  rcases reads b with ⟨m, k, h, hw, hlt⟩ | ⟨h, he⟩ | ⟨s, x, h, hgt⟩
  · rw [h]; simp [Ieee.Datum.isNaN]; omega
  · rw [h]; simp [Ieee.Datum.isNaN]; omega
  · rw [h]; simp [Ieee.Datum.isNaN]; omega

theorem rank_eq (b : Nat) : rank b = if decide (b / 9223372036854775808 % 2 = 1) then -((b % 9223372036854775808 : Nat) : Int) else ((b % 9223372036854775808 : Nat) : Int) := by
  unfold rank
  by_cases h : b / 9223372036854775808 % 2 = 1 <;> simp [h]

theorem ord_rank {a b : Nat} (ha : NN a) (hb : NN b) : fltOrd (some a) (some b) = some (compare (rank a) (rank b)) := by
  rw [NN_iff] at ha hb
  unfold fltOrd Ieee.Format.order
  simp only
  have cl : ∀ x y : Int, x < y → compare x y = .lt := fun x y h => by simp [compare, compareOfLessAndEq, h]
  have cg : ∀ x y : Int, y < x → compare x y = .gt := fun x y h => by
    have h1 : ¬ x < y := by omega
    have h2 : ¬ x = y := by omega
    simp [compare, compareOfLessAndEq, h1, h2]
  rcases reads a with ⟨m, i, h, hw, hlt⟩ | ⟨h, he⟩ | ⟨s, x, h, hgt⟩
  · rcases reads b with ⟨n, j, h', hw', hlt'⟩ | ⟨h', he'⟩ | ⟨s', x', h', hgt'⟩
    · rw [h, h']
      simp only [Ieee.Datum.order]
      have e1 : ((-1074 + (i : Int)) - min (-1074 + (i : Int)) (-1074 + (j : Int))).toNat = i - min i j := by omega
      have e2 : ((-1074 + (j : Int)) - min (-1074 + (i : Int)) (-1074 + (j : Int))).toNat = j - min i j := by omega
      rw [e1, e2, compare_signed, hw, hw', compare_worth, rank_eq, rank_eq]
    · rw [h, h', rank_eq, rank_eq, he']
      simp only [Ieee.Datum.order]
      by_cases ht : b / 9223372036854775808 % 2 = 1
      · simp only [ht, decide_true, if_true]
        rw [cg]
        split <;> omega
      · simp only [ht, decide_false, Bool.false_eq_true, if_false]
        rw [cl]
        split <;> omega
    · omega
  · rcases reads b with ⟨n, j, h', hw', hlt'⟩ | ⟨h', he'⟩ | ⟨s', x', h', hgt'⟩
    · rw [h, h', rank_eq, rank_eq, he]
      simp only [Ieee.Datum.order]
      by_cases ht : a / 9223372036854775808 % 2 = 1
      · simp only [ht, decide_true, if_true]
        rw [cl]
        split <;> omega
      · simp only [ht, decide_false, Bool.false_eq_true, if_false]
        rw [cg]
        split <;> omega
    · rw [h, h', rank_eq, rank_eq, he, he']
      simp only [Ieee.Datum.order]
      by_cases hs : a / 9223372036854775808 % 2 = 1 <;> by_cases ht : b / 9223372036854775808 % 2 = 1 <;> simp [hs, ht, compare, compareOfLessAndEq]
    · omega
  · omega

theorem ord_none (b : Option Nat) : fltOrd none b = none := rfl
theorem ord_none' (b : Option Nat) : fltOrd b none = none := by cases b <;> rfl
theorem cmp_lt (x y : Int) : (compare x y == Ordering.lt) = decide (x < y) := by
  simp only [compare, compareOfLessAndEq]
  by_cases h : x < y
  · simp [h]
  · by_cases h2 : x = y <;> simp [h, h2]
theorem cmp_gt (x y : Int) : (compare x y == Ordering.gt) = decide (y < x) := by
  simp only [compare, compareOfLessAndEq]
  by_cases h : x < y
  · have : ¬ y < x := by omega
    simp [h, this]
  · by_cases h2 : x = y
    · subst h2; simp
    · have : y < x := by omega
      simp [h, h2, this]
theorem cmp_eq (x y : Int) : (compare x y == Ordering.eq) = decide (x = y) := by
  simp only [compare, compareOfLessAndEq]
  by_cases h : x < y
  · have : ¬ x = y := by omega
    simp [h, this]
  · by_cases h2 : x = y <;> simp [h, h2]
theorem cmp_ne (x y : Int) : (compare x y != Ordering.eq) = decide (x ≠ y) := by
  rw [bne, cmp_eq]; simp

/-- The sign bit. -/
theorem sign_rank {b : Nat} (h : b < 18446744073709551616) : (IntKind.i64.wrap (b : Int) < 0) ↔ b / 9223372036854775808 % 2 = 1 := by
  have : IntKind.i64.wrap (b : Int) = if b < 9223372036854775808 then (b : Int) else (b : Int) - 18446744073709551616 := by
    have e : ((b : Int) % 18446744073709551616) = b := Int.emod_eq_of_lt (by omega) (by omega)
    simp only [IntKind.wrap, IntKind.bits, IntKind.signed, Bool.true_and, show (2 : Int) ^ 64 = 18446744073709551616 from rfl, show (2 : Int) ^ (64 - 1) = 9223372036854775808 from rfl, e, decide_eq_true_eq]
    split <;> split <;> omega
  rw [this]
  split <;> omega

/-- The sign bit turned. -/
theorem neg_mod (b : Nat) : Op.negFloat .f64 b % 9223372036854775808 = b % 9223372036854775808 := by
  have e : Op.negFloat .f64 b = b ^^^ 2 ^ 63 := rfl
  rw [e]
  have h := Nat.xor_mod_two_pow (a := b) (b := 2 ^ 63) (n := 63)
  rw [Nat.mod_self, Nat.xor_zero] at h
  exact h
theorem neg_div (b : Nat) : Op.negFloat .f64 b / 9223372036854775808 % 2 = 1 - b / 9223372036854775808 % 2 := by
  have e : Op.negFloat .f64 b = b ^^^ 2 ^ 63 := rfl
  rw [e]
  have h : (b ^^^ 2 ^ 63) / 2 ^ 63 = (b / 2 ^ 63) ^^^ 1 := by
    rw [← Nat.shiftRight_eq_div_pow, ← Nat.shiftRight_eq_div_pow, Nat.shiftRight_xor_distrib]
    rfl
  have h2 : (b ^^^ 2 ^ 63) / 9223372036854775808 = (b / 9223372036854775808) ^^^ 1 := h
  rw [h2]
  generalize b / 9223372036854775808 = q
  have h3 := Nat.xor_mod_two_pow (a := q) (b := 1) (n := 1)
  simp only [Nat.pow_one] at h3
  rw [h3]
  have : q % 2 = 0 ∨ q % 2 = 1 := by omega
  rcases this with h | h <;> rw [h] <;> rfl
theorem rank_neg (b : Nat) : rank (Op.negFloat .f64 b) = - rank b := by
  unfold rank
  rw [neg_mod, neg_div]
  have : b / 9223372036854775808 % 2 = 0 ∨ b / 9223372036854775808 % 2 = 1 := by omega
  rcases this with h | h <;> rw [h] <;> simp
theorem nn_neg {b : Nat} (h : NN b) : NN (Op.negFloat .f64 b) := by
  rw [NN_iff] at h ⊢
  rw [neg_mod]; exact h

end Go.Aa
