/-
  ROUNDING: the word nearest to a number, its size, its error; whole numbers as floats.
-/
import Derived.Test.YtfcihhbingaofaaAaN
set_option linter.unusedVariables false
set_option linter.unusedSimpArgs false
namespace Go.Aa

/-- Powers of two, kept whole. -/
def pw (k : Nat) : Nat := 2 ^ k
theorem pw_eq (k : Nat) : pw k = 2 ^ k := rfl
theorem pw_pos (k : Nat) : 0 < pw k := Nat.two_pow_pos k
theorem pw_add (a b : Nat) : pw a * pw b = pw (a + b) := (Nat.pow_add 2 a b).symm
theorem pw_le {a b : Nat} (h : a ≤ b) : pw a ≤ pw b := Nat.pow_le_pow_right (by omega) h
theorem lt_log {n k : Nat} (h : n ≠ 0) (h2 : n < pw k) : n.log2 < k := (Nat.log2_lt h).2 h2
theorem le_log {n k : Nat} (h : n ≠ 0) (h2 : pw k ≤ n) : k ≤ n.log2 := (Nat.le_log2 h).2 h2
theorem pw_log2 (k : Nat) : (pw k).log2 = k := Nat.log2_two_pow

abbrev F64 : Ieee.Format := FloatKind.f64.format
def cutE (n g : Nat) : Nat := n / g + (decide (g < 2 * (n % g)) || (g == 2 * (n % g) && n / g % 2 == 1)).toNat
theorem cut_eq (neg : Bool) (n drop : Nat) : Ieee.Toward.even.cut neg n drop = cutE n (2 ^ (min drop (n.log2 + 2))) := by
  unfold Ieee.Toward.cut cutE
  simp only [Nat.shiftLeft_eq, Nat.one_mul]
theorem cutE_one (n : Nat) : cutE n 1 = n := by
  unfold cutE
  simp [Nat.mod_one]
theorem cutE_scale (n g c : Nat) (hc : 0 < c) : cutE (n * c) (g * c) = cutE n g := by
  unfold cutE
  rw [Nat.mul_div_mul_right _ _ hc, Nat.mul_mod_mul_right]
  have e1 : (decide (g * c < 2 * (n % g * c))) = decide (g < 2 * (n % g)) := by
    rw [← Nat.mul_assoc]
    congr 1
    exact propext (Nat.mul_lt_mul_right hc)
  have e2 : (g * c == 2 * (n % g * c)) = (g == 2 * (n % g)) := by
    rw [← Nat.mul_assoc]
    by_cases h : g = 2 * (n % g)
    · rw [← h]; simp
    · have : ¬ g * c = 2 * (n % g) * c := fun e => h (Nat.eq_of_mul_eq_mul_right hc e)
      rw [beq_eq_false_iff_ne.2 h, beq_eq_false_iff_ne.2 this]
  rw [e1, e2]
theorem cutE_ge {n g K : Nat} (hg : 0 < g) (h : K * g ≤ n) : K ≤ cutE n g := by
  unfold cutE
  have := (Nat.le_div_iff_mul_le hg).2 h
  omega
theorem cutE_le {n g K : Nat} (hg : 0 < g) (h : n ≤ K * g) : cutE n g ≤ K := by
  unfold cutE
  have h1 : n / g ≤ K := by
    have := Nat.div_le_div_right (c := g) h
    rwa [Nat.mul_div_cancel _ hg] at this
  rcases Nat.lt_or_ge (n / g) K with h2 | h2
  · have : (decide (g < 2 * (n % g)) || (g == 2 * (n % g) && n / g % 2 == 1)).toNat ≤ 1 := Bool.toNat_le _
    omega
  · have e : n / g = K := by omega
    have h3 : n % g = 0 := by
      have := Nat.div_add_mod n g
      rw [e, Nat.mul_comm] at this
      omega
    have e1 : decide (g < 2 * (n % g)) = false := by rw [h3]; simp
    have e2 : (g == 2 * (n % g)) = false := by rw [h3]; simp; omega
    rw [e1, e2, e]
    simp
theorem cutE_err {n g : Nat} (hg : 0 < g) : 2 * (cutE n g * g) ≤ 2 * n + g ∧ 2 * n ≤ 2 * (cutE n g * g) + g := by
  unfold cutE
  have h1 := Nat.div_add_mod n g
  have h2 := Nat.mod_lt n hg
  have hm : n / g * g = g * (n / g) := Nat.mul_comm _ _
  rcases Nat.lt_trichotomy g (2 * (n % g)) with h | h | h
  · simp only [h, decide_true, Bool.true_or, Bool.toNat_true, Nat.add_mul, Nat.one_mul]
    omega
  · have e1 : decide (g < 2 * (n % g)) = false := by simp; omega
    rw [e1, Bool.false_or]
    generalize (g == 2 * (n % g) && n / g % 2 == 1) = b
    cases b
    · simp only [Bool.toNat_false, Nat.add_zero]; omega
    · simp only [Bool.toNat_true, Nat.add_mul, Nat.one_mul]; omega
  · have e1 : decide (g < 2 * (n % g)) = false := by simp; omega
    have e2 : (g == 2 * (n % g)) = false := by simp; omega
    rw [e1, e2]
    simp only [Bool.false_and, Bool.or_self, Bool.toNat_false, Nat.add_zero]
    omega

/-- The word of a sign and a rung. -/
def wrd (s : Bool) (r : Nat) : Nat := if s then 9223372036854775808 + r else r
theorem wrd_rank {s : Bool} {r : Nat} (h : r < 9223372036854775808) : rank (wrd s r) = if s then -(r : Int) else r := by
  unfold rank wrd
  cases s
  · simp only [Bool.false_eq_true, if_false]
    rw [if_neg (by omega)]
    omega
  · simp only [if_true]
    rw [if_pos (by omega)]
    omega
theorem wrd_nn {s : Bool} {r : Nat} (h : r ≤ 9218868437227405312) : NN (wrd s r) ∧ wrd s r < 18446744073709551616 := by
  rw [NN_iff]
  unfold wrd
  split <;> omega
theorem wrd_sign {s : Bool} {r : Nat} (h : r < 9223372036854775808) : (wrd s r / 9223372036854775808 % 2 = 1) ↔ s = true := by
  unfold wrd
  cases s
  · simp only [Bool.false_eq_true, if_false, iff_false]; omega
  · simp only [if_true, iff_true]; omega
theorem wrd_mod {s : Bool} {r : Nat} (h : r < 9223372036854775808) : wrd s r % 9223372036854775808 = r := by
  unfold wrd
  split <;> omega

/-- The rung nearest to 'm * 2 ^ p'. -/
def rung (m : Nat) (p : Int) : Nat :=
  if m = 0 then 0 else
  let last := max (p + m.log2 - 52) (-1074)
  min ((last + 1074).toNat * 4503599627370496 + cutE (m * 2 ^ (p - last).toNat) (2 ^ (min (last - p).toNat ((m * 2 ^ (p - last).toNat).log2 + 2)))) 9218868437227405312
theorem nearest_rung (s : Bool) (m : Nat) (p : Int) : F64.nearest s m p = wrd s (rung m p) := by
  have e1 : F64.fractionBits = 52 := rfl
  have e2 : F64.binade = 4503599627370496 := rfl
  have e3 : F64.infRung = 9218868437227405312 := rfl
  have e4 : F64.leastPlace = -1074 := rfl
  unfold Ieee.Format.nearest rung
  by_cases h : m = 0
  · rw [if_pos h, if_pos h]; rfl
  · rw [if_neg h, if_neg h]
    simp only [e1, e2, e3, e4, cut_eq, Nat.shiftLeft_eq]
    rfl
theorem rung_le (m : Nat) (p : Int) : rung m p ≤ 9218868437227405312 := by
  unfold rung
  split
  · omega
  · exact Nat.min_le_right _ _
theorem log2_mul_pow {m : Nat} (h : m ≠ 0) (k : Nat) : (m * 2 ^ k).log2 = m.log2 + k := by
  have h1 := Nat.log2_self_le h
  have h2 := @Nat.lt_log2_self m
  refine (Nat.log2_eq_iff (by have := Nat.two_pow_pos k; exact Nat.mul_ne_zero h (by omega))).2 ⟨?_, ?_⟩
  · rw [Nat.pow_add]; exact Nat.mul_le_mul_right _ h1
  · rw [show m.log2 + k + 1 = (m.log2 + 1) + k by omega, Nat.pow_add]; exact Nat.mul_lt_mul_of_pos_right h2 (Nat.two_pow_pos k)
theorem rung_scale (m k : Nat) (p : Int) : rung (m * 2 ^ k) p = rung m (p + k) := by
  unfold rung
  by_cases h : m = 0
  · subst h; simp
  · have h' : m * 2 ^ k ≠ 0 := Nat.mul_ne_zero h (by have := Nat.two_pow_pos k; omega)
    rw [if_neg h, if_neg h']
    simp only [log2_mul_pow h]
    have el : p + ((m.log2 + k : Nat) : Int) - 52 = p + k + m.log2 - 52 := by omega
    rw [el]
    generalize max (p + k + m.log2 - 52) (-1074) = last
    congr 2
    rcases Int.lt_or_le p last with h1 | h1
    · rw [show (p - last).toNat = 0 by omega, Nat.pow_zero, Nat.mul_one, log2_mul_pow h]
      rcases Int.lt_or_le (p + k) last with h2 | h2
      · rw [show (p + k - last).toNat = 0 by omega, Nat.pow_zero, Nat.mul_one]
        rw [show min (last - p).toNat (m.log2 + k + 2) = min (last - (p + k)).toNat (m.log2 + 2) + k by omega, Nat.pow_add]
        exact cutE_scale _ _ _ (Nat.two_pow_pos k)
      · obtain ⟨d, hd⟩ : ∃ d : Nat, last - p = d := ⟨(last - p).toNat, by omega⟩
        rw [hd, show (p + k - last).toNat = k - d by omega, show (last - (p + k)).toNat = 0 by omega]
        simp only [Int.toNat_natCast, Nat.zero_min, Nat.pow_zero, cutE_one]
        rw [show min d (m.log2 + k + 2) = d by omega, show (2 : Nat) ^ k = 2 ^ (k - d) * 2 ^ d by rw [← Nat.pow_add]; congr 1; omega, ← Nat.mul_assoc]
        conv => lhs; rw [show 2 ^ d = 1 * 2 ^ d by omega]
        conv => lhs; arg 1; rw [show 1 * 2 ^ d = 2 ^ d by omega]
        rw [cutE_scale _ _ _ (Nat.two_pow_pos d), cutE_one]
    · rw [show (last - p).toNat = 0 by omega, show (last - (p + k)).toNat = 0 by omega]
      simp only [Nat.zero_min, Nat.pow_zero, cutE_one]
      rw [show (p + k - last).toNat = k + (p - last).toNat by omega, Nat.pow_add, Nat.mul_assoc]
/-- Of equal numbers the same rung. -/
theorem rung_congr {m m' k k' : Nat} {p : Int} (h : m * 2 ^ k = m' * 2 ^ k') : rung m (p + k) = rung m' (p + k') := by
  rw [← rung_scale, ← rung_scale, h]

theorem min_l {a b : Nat} (h : a ≤ b) : min a b = a := Nat.min_eq_left h
theorem fits (L K : Nat) (h : L < 2046) (hk : K ≤ 9007199254740992) : min (L * 4503599627370496 + K) 9218868437227405312 = L * 4503599627370496 + K := by
  have h2 : L * 4503599627370496 + K ≤ 9218868437227405312 := by omega
  exact min_l h2
/-- A normal number's rung. -/
theorem rung_normal {m : Nat} {p : Int} (h : m ≠ 0) {L : Nat} (hL : (L : Int) = p + m.log2 - 52 + 1074) (hL2 : L < 2046) :
    ∃ k, rung m p = L * 4503599627370496 + k ∧ 4503599627370496 ≤ k ∧ k ≤ 9007199254740992 ∧
      (m.log2 ≤ 52 → k = m * 2 ^ (52 - m.log2)) ∧ (52 ≤ m.log2 → k = cutE m (2 ^ (m.log2 - 52))) := by
  have h1 := Nat.log2_self_le h
  have h2 := @Nat.lt_log2_self m
  unfold rung
  rw [if_neg h]
  have el : max (p + m.log2 - 52) (-1074) = p + m.log2 - 52 := by omega
  simp only [el]
  have eL : (p + m.log2 - 52 + 1074).toNat = L := by omega
  rw [eL]
  rcases Nat.le_total m.log2 52 with hm | hm
  · have e1 : (p - (p + m.log2 - 52)).toNat = 52 - m.log2 := by omega
    have e2 : (p + m.log2 - 52 - p).toNat = 0 := by omega
    simp only [e1, e2, Nat.zero_min, Nat.pow_zero, cutE_one]
    have a1 : 4503599627370496 ≤ m * 2 ^ (52 - m.log2) := by
      have : 2 ^ m.log2 * 2 ^ (52 - m.log2) = 4503599627370496 := by rw [← Nat.pow_add, show m.log2 + (52 - m.log2) = 52 by omega]
      have := Nat.mul_le_mul_right (2 ^ (52 - m.log2)) h1
      omega
    have a2 : m * 2 ^ (52 - m.log2) < 9007199254740992 := by
      have : 2 ^ (m.log2 + 1) * 2 ^ (52 - m.log2) = 9007199254740992 := by rw [← Nat.pow_add, show m.log2 + 1 + (52 - m.log2) = 53 by omega]
      have := Nat.mul_lt_mul_of_pos_right h2 (Nat.two_pow_pos (52 - m.log2))
      omega
    refine ⟨m * 2 ^ (52 - m.log2), fits L _ hL2 (by omega), a1, Nat.le_of_lt a2, fun _ => rfl, fun hh => ?_⟩
    have : m.log2 = 52 := by omega
    rw [this]
    simp [cutE_one]
  · have e1 : (p - (p + m.log2 - 52)).toNat = 0 := by omega
    have e2 : (p + m.log2 - 52 - p).toNat = m.log2 - 52 := by omega
    simp only [e1, e2, Nat.pow_zero, Nat.mul_one, show min (m.log2 - 52) (m.log2 + 2) = m.log2 - 52 by omega]
    have hg := Nat.two_pow_pos (m.log2 - 52)
    have a1 : 4503599627370496 ≤ cutE m (2 ^ (m.log2 - 52)) := cutE_ge hg (by
      have : 2 ^ m.log2 = 4503599627370496 * 2 ^ (m.log2 - 52) := by
        rw [show (4503599627370496 : Nat) = 2 ^ 52 from rfl, ← Nat.pow_add, show 52 + (m.log2 - 52) = m.log2 by omega]
      omega)
    have a2 : cutE m (2 ^ (m.log2 - 52)) ≤ 9007199254740992 := cutE_le hg (by
      have : 2 ^ (m.log2 + 1) = 9007199254740992 * 2 ^ (m.log2 - 52) := by
        rw [show (9007199254740992 : Nat) = 2 ^ 53 from rfl, ← Nat.pow_add, show 53 + (m.log2 - 52) = m.log2 + 1 by omega]
      omega)
    refine ⟨_, fits L _ hL2 a2, a1, a2, fun hh => ?_, fun _ => rfl⟩
    have : m.log2 = 52 := by omega
    rw [this]
    simp [cutE_one]

theorem worth_normal {L k : Nat} (h1 : 4503599627370496 ≤ k) (h2 : k ≤ 9007199254740992) : worth (L * 4503599627370496 + k) = k * 2 ^ L := by
  unfold worth
  rw [if_neg (by omega)]
  rcases Nat.lt_or_ge k 9007199254740992 with h | h
  · rw [show (L * 4503599627370496 + k) / 4503599627370496 - 1 = L by omega, show 4503599627370496 + (L * 4503599627370496 + k) % 4503599627370496 = k by omega]
  · have : k = 9007199254740992 := by omega
    subst this
    rw [show (L * 4503599627370496 + 9007199254740992) / 4503599627370496 - 1 = L + 1 by omega, show 4503599627370496 + (L * 4503599627370496 + 9007199254740992) % 4503599627370496 = 4503599627370496 by omega, Nat.pow_succ]
    omega

/-- What a word of a rung reads as. -/
theorem read_wrd {s : Bool} {r : Nat} (h : r < 9218868437227405312) : ∃ m k : Nat, F64.read (wrd s r) = .number s m (-1074 + (k : Int)) ∧ m * 2 ^ k = worth r := by
  have h' : r < 9223372036854775808 := by omega
  rcases reads (wrd s r) with ⟨m, k, e, hw, hlt⟩ | ⟨e, he⟩ | ⟨s', x, e, hgt⟩
  · refine ⟨m, k, ?_, by rw [wrd_mod h'] at hw; exact hw⟩
    rw [e]
    congr 1
    have := wrd_sign (s := s) h'
    cases s
    · simp only [Bool.false_eq_true, iff_false] at this; simp [this]
    · simp only [iff_true] at this; simp [this]
  · rw [wrd_mod h'] at he; omega
  · rw [wrd_mod h'] at hgt; omega

/-- What has a word has that word. -/
theorem rung_worth {r : Nat} (h : r < 9218868437227405312) : rung (worth r) (-1074) = r := by
  unfold worth
  by_cases hr : r < 4503599627370496
  · rw [if_pos hr]
    unfold rung
    by_cases h0 : r = 0
    · rw [if_pos h0, h0]
    · rw [if_neg h0]
      have h1 := Nat.log2_self_le h0
      have hl : r.log2 < 52 := (Nat.log2_lt h0).2 (by omega)
      have el : max (-1074 + (r.log2 : Int) - 52) (-1074) = -1074 := by omega
      simp only [el]
      simp [cutE_one]
      omega
  · rw [if_neg hr, rung_scale]
    have hm : 4503599627370496 + r % 4503599627370496 ≠ 0 := by omega
    have hl : (4503599627370496 + r % 4503599627370496).log2 = 52 := (Nat.log2_eq_iff hm).2 ⟨by omega, by omega⟩
    obtain ⟨k, e1, e2, e3, e4, e5⟩ := rung_normal (p := -1074 + ((r / 4503599627370496 - 1 : Nat) : Int)) hm (L := r / 4503599627370496 - 1) (by rw [hl]; omega) (by omega)
    rw [e1, e4 (by omega), hl]
    simp only [Nat.sub_self, Nat.pow_zero, Nat.mul_one]
    omega

end Go.Aa
