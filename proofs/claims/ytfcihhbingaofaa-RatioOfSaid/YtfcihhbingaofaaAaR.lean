/-
  ARITHMETIC OF FLOATS: whole numbers, sums of them, quotients.
-/
import Derived.Test.YtfcihhbingaofaaAaQ
set_option linter.unusedVariables false
set_option linter.unusedSimpArgs false
namespace Go.Aa

theorem read_lt {b : Nat} {s : Bool} {m : Nat} {p : Int} (h : F64.read b = .number s m p) : m < 9007199254740992 := by
  have e1 : F64.signWeight = 9223372036854775808 := rfl
  have e2 : F64.binade = 4503599627370496 := rfl
  have e3 : F64.infRung = 9218868437227405312 := rfl
  unfold Ieee.Format.read at h
  simp only [e1, e2, e3] at h
  split at h
  · injection h with h1 h2 h3; omega
  · split at h
    · injection h with h1 h2 h3; omega
    · split at h <;> cases h

theorem fi_eq (n : Int) : FloatKind.f64.nearest n = wrd (decide (n < 0)) (rung n.natAbs 0) := nearest_rung _ _ _

/-- A number of at most 53 digits is met. -/
theorem worth_short {m : Nat} (h : m ≠ 0) (hl : m.log2 ≤ 52) {k : Nat} (hk : 52 ≤ m.log2 + k) (hk2 : m.log2 + k < 2046 + 52) : worth (rung m (-1074 + (k : Int))) = m * 2 ^ k ∧ rung m (-1074 + (k : Int)) ≠ 0 := by
  obtain ⟨q, e1, e2, e3, e4, _⟩ := rung_normal (p := -1074 + (k : Int)) h (L := m.log2 + k - 52) (by omega) (by omega)
  rw [e1, worth_normal e2 e3, e4 hl]
  refine ⟨?_, by omega⟩
  rw [Nat.mul_assoc, ← Nat.pow_add]
  congr 2; omega
theorem log2_mul_pw {m k : Nat} (h : m ≠ 0) : (m * pw k).log2 = m.log2 + k := log2_mul_pow h k
theorem rung_pw {m k : Nat} (h : k = 1074) : rung (m * pw k) (-1074) = rung m 0 := by
  rw [pw_eq, rung_scale, show -1074 + (k : Int) = 0 by omega]
theorem worth_at {m k : Nat} (h : m ≠ 0) (hl : m.log2 ≤ 52) (hk : 52 ≤ m.log2 + k) (hk2 : m.log2 + k < 2046 + 52) (he : k = 1074) : worth (rung m 0) = m * pw k := by
  have := (worth_short h hl hk hk2).1
  rw [show -1074 + (k : Int) = 0 by omega] at this
  exact this
theorem worth_int {n : Nat} (h : n < 9007199254740992) : worth (rung n 0) = n * pw 1074 := by
  by_cases h0 : n = 0
  · subst h0
    rw [Nat.zero_mul]; rfl
  · have hlog := (Nat.log2_lt h0 (k := 53)).2 h
    exact worth_at h0 (by omega) (by omega) (by omega) (by omega)
theorem rung_log {n : Nat} (h : n ≠ 0) (hl : n.log2 < 1000) : rung n 0 < 9218868437227405312 ∧ rung n 0 ≠ 0 ∧ n.log2 + 1074 ≤ (worth (rung n 0)).log2 ∧ (worth (rung n 0)).log2 ≤ n.log2 + 1075 := by
  obtain ⟨q, e1, e2, e3, _⟩ := rung_normal (p := 0) h (L := n.log2 + 1022) (by omega) (by omega)
  rw [e1]
  refine ⟨by omega, by omega, ?_⟩
  rw [worth_normal e2 e3, log2_mul_pow (by omega)]
  have h1 : 52 ≤ q.log2 := (Nat.le_log2 (by omega)).2 (by omega)
  have h2 : q.log2 < 54 := (Nat.log2_lt (by omega)).2 (by omega)
  omega

theorem ac1 (K l n j t : Nat) : K * l * (n * j) * t = K * n * (l * j * t) := by ac_rfl
theorem ac2 (K n u v : Nat) : K * n * (u * v) = K * u * n * v := by ac_rfl
theorem ac3 (m a b c : Nat) : m * a * b * (c * 2) = 2 * (m * c) * (a * b) := by ac_rfl
theorem worth_le {a b : Nat} (h : a ≤ b) : worth a ≤ worth b := by
  rcases Nat.lt_or_ge a b with h1 | h1
  · exact Nat.le_of_lt (worth_lt h1)
  · rw [show a = b by omega]; exact Nat.le_refl _
theorem worth_succ {L k : Nat} (h1 : 4503599627370496 ≤ k) (h2 : k ≤ 9007199254740992) : (k + 1) * 2 ^ L ≤ worth (L * 4503599627370496 + (k + 1)) := by
  rcases Nat.lt_or_ge k 9007199254740992 with h | h
  · rw [worth_normal (by omega) (by omega)]; exact Nat.le_refl _
  · have : k = 9007199254740992 := by omega
    subst this
    rw [show L * 4503599627370496 + (9007199254740992 + 1) = (L + 1) * 4503599627370496 + 4503599627370497 by omega, worth_normal (by omega) (by omega), Nat.pow_succ, Nat.mul_comm (2 ^ L) 2, ← Nat.mul_assoc]
    exact Nat.mul_le_mul_right _ (by omega)

/-- THE QUOTIENT: of finite numbers that are not nought, in the middle of the range. -/
theorem div_spec {s t : Bool} {r1 r2 : Nat} (h1 : r1 < 9218868437227405312) (h2 : r2 < 9218868437227405312) (n1 : worth r1 ≠ 0) (n2 : worth r2 ≠ 0)
    (hlo : (worth r2).log2 < (worth r1).log2 + 1000) (hhi : (worth r1).log2 < (worth r2).log2 + 1000) :
    ∃ R, F64.div (wrd s r1) (wrd t r2) = some (wrd (s ^^ t) R) ∧ 0 < R ∧ R < 9218868437227405312 ∧
      (∀ c, worth c * worth r2 ≤ worth r1 * pw 1074 → c ≤ R) ∧ (∀ c, worth r1 * pw 1074 ≤ worth c * worth r2 → R ≤ c) ∧
      worth R * worth r2 * 4503599627370496 ≤ worth r1 * pw 1074 * 4503599627370497 ∧ worth r1 * pw 1074 * 4503599627370495 ≤ worth R * worth r2 * 4503599627370496 := by
  obtain ⟨m, i, ea, wa⟩ := read_wrd (s := s) h1
  obtain ⟨n, j, eb, wb⟩ := read_wrd (s := t) h2
  have lm := read_lt ea
  have ln := read_lt eb
  have hm : m ≠ 0 := by rintro rfl; rw [Nat.zero_mul] at wa; exact n1 wa.symm
  have hn : n ≠ 0 := by rintro rfl; rw [Nat.zero_mul] at wb; exact n2 wb.symm
  rw [← wa, log2_mul_pow hm] at hlo hhi
  rw [← wb, log2_mul_pow hn] at hlo hhi
  have gm : m.log2 ≤ 52 := by have := (Nat.log2_lt hm (k := 53)).2 lm; omega
  have gn : n.log2 ≤ 52 := by have := (Nat.log2_lt hn (k := 53)).2 ln; omega
  have a1 := Nat.log2_self_le hm
  have a2 := @Nat.lt_log2_self m
  have b1 := Nat.log2_self_le hn
  have b2 := @Nat.lt_log2_self n
  have hd : F64.div (wrd s r1) (wrd t r2) = some (wrd (s ^^ t) (rung (2 * (m * 2 ^ (54 + n.log2 - m.log2) / n) + (m * 2 ^ (54 + n.log2 - m.log2) % n != 0).toNat) ((-1074 + (i : Int)) - (-1074 + (j : Int)) - ((54 + n.log2 - m.log2 : Nat) : Int) - 1))) := by
    unfold Ieee.Format.div
    rw [ea, eb]
    simp only [Ieee.Datum.quotient, if_neg hn, Option.map_some, Ieee.Format.write, Nat.shiftLeft_eq, nearest_rung]
    rfl
  generalize hmore : 54 + n.log2 - m.log2 = more at hd
  have hD1 : 2 ^ (54 + n.log2) ≤ m * 2 ^ more := by
    have := Nat.mul_le_mul_right (2 ^ more) a1
    rwa [← Nat.pow_add, show m.log2 + more = 54 + n.log2 by omega] at this
  have hD2 : m * 2 ^ more < 2 ^ (55 + n.log2) := by
    have := Nat.mul_lt_mul_of_pos_right a2 (Nat.two_pow_pos more)
    rwa [← Nat.pow_add, show m.log2 + 1 + more = 55 + n.log2 by omega] at this
  generalize hDD : m * 2 ^ more = D at hd hD1 hD2
  have hq1 : 9007199254740992 ≤ D / n := by
    refine (Nat.le_div_iff_mul_le (by omega)).2 ?_
    have : 9007199254740992 * n ≤ 9007199254740992 * 2 ^ (n.log2 + 1) := Nat.mul_le_mul_left _ (Nat.le_of_lt b2)
    have e : 9007199254740992 * 2 ^ (n.log2 + 1) = 2 ^ (54 + n.log2) := by
      rw [show (9007199254740992 : Nat) = 2 ^ 53 from rfl, ← Nat.pow_add]; congr 1; omega
    omega
  have hq2 : D / n < 36028797018963968 := by
    refine (Nat.div_lt_iff_lt_mul (by omega)).2 ?_
    have : 36028797018963968 * 2 ^ n.log2 ≤ 36028797018963968 * n := Nat.mul_le_mul_left _ b1
    have e : 36028797018963968 * 2 ^ n.log2 = 2 ^ (55 + n.log2) := by
      rw [show (36028797018963968 : Nat) = 2 ^ 55 from rfl, ← Nat.pow_add]
    omega
  have hqr := Nat.div_add_mod D n
  have hrl := Nat.mod_lt D (show n > 0 by omega)
  generalize hq : D / n = q at hd hq1 hq2 hqr
  generalize hr : D % n = rest at hd hqr hrl
  obtain ⟨sb, hsb, hsb0, hsb1⟩ : ∃ sb, (rest != 0).toNat = sb ∧ (rest = 0 → sb = 0) ∧ (rest ≠ 0 → sb = 1) := ⟨_, rfl, fun h => by rw [h]; rfl, fun h => by simp [h]⟩
  rw [hsb] at hd
  have hsb2 : sb ≤ 1 := by rw [← hsb]; exact Bool.toNat_le _
  have hmag : 2 * q + sb ≠ 0 := by omega
  have l1 : 54 ≤ (2 * q + sb).log2 := (Nat.le_log2 hmag).2 (by omega)
  have l2 : (2 * q + sb).log2 < 56 := (Nat.log2_lt hmag).2 (by omega)
  generalize hplace : ((-1074 + (i : Int)) - (-1074 + (j : Int)) - ((more : Nat) : Int) - 1) = place at hd
  obtain ⟨L, hL⟩ : ∃ L : Nat, (L : Int) = place + (2 * q + sb).log2 - 52 + 1074 := ⟨(place + (2 * q + sb).log2 - 52 + 1074).toNat, by omega⟩
  obtain ⟨k, e1, e2, e3, _, e5⟩ := rung_normal hmag hL (by omega)
  have e5 := e5 (by omega)
  have s1 := Nat.log2_self_le hmag
  obtain ⟨d, hdd⟩ : ∃ d, (2 * q + sb).log2 - 52 = d + 1 := ⟨(2 * q + sb).log2 - 53, by omega⟩
  rw [hdd] at e5
  rw [show (2 * q + sb).log2 = 52 + (d + 1) by omega, Nat.pow_add] at s1
  have hg : 0 < 2 ^ (d + 1) := Nat.two_pow_pos _
  have gd : 2 ^ (d + 1) = 2 * 2 ^ d := by rw [Nat.pow_succ, Nat.mul_comm]
  have gd0 : 0 < 2 ^ d := Nat.two_pow_pos _
  -- the exact quotient against whole numbers of units
  have lower : ∀ K, K * 2 ^ (d + 1) * n ≤ 2 * D → K ≤ k := fun K hK => by
    rw [e5]
    refine cutE_ge hg ?_
    have h3 : K * 2 ^ d * n ≤ D := by
      have : K * 2 ^ (d + 1) * n = 2 * (K * 2 ^ d * n) := by rw [gd, Nat.mul_left_comm K 2, Nat.mul_assoc]
      omega
    have h4 : K * 2 ^ d ≤ q := by rw [← hq]; exact (Nat.le_div_iff_mul_le (by omega)).2 h3
    have : K * 2 ^ (d + 1) = 2 * (K * 2 ^ d) := by rw [gd, Nat.mul_left_comm]
    omega
  have upper : ∀ K, 2 * D ≤ K * 2 ^ (d + 1) * n → k ≤ K := fun K hK => by
    rw [e5]
    refine cutE_le hg ?_
    have h3 : D ≤ K * 2 ^ d * n := by
      have : K * 2 ^ (d + 1) * n = 2 * (K * 2 ^ d * n) := by rw [gd, Nat.mul_left_comm K 2, Nat.mul_assoc]
      omega
    have e : K * 2 ^ (d + 1) = 2 * (K * 2 ^ d) := by rw [gd, Nat.mul_left_comm]
    generalize K * 2 ^ d = M at h3 e
    rw [e]
    have h4 : q ≤ M := by
      have := Nat.div_le_div_right (c := n) h3
      rwa [hq, Nat.mul_div_cancel _ (by omega)] at this
    rcases Nat.lt_or_ge q M with h5 | h5
    · omega
    · have : q = M := by omega
      subst this
      have : rest = 0 := by
        have := Nat.mul_comm n q
        omega
      have := hsb0 this
      omega
  -- worths and units
  have x1 : ∀ K, K * 2 ^ L * worth r2 * 2 ^ (more + 1) = K * 2 ^ (d + 1) * n * 2 ^ (i + 1074) := fun K => by
    rw [← wb]
    have : L + j + (more + 1) = (d + 1) + (i + 1074) := by omega
    rw [ac1, ← Nat.pow_add, ← Nat.pow_add, this, Nat.pow_add 2 (d + 1), ac2]
  have x2 : worth r1 * pw 1074 * 2 ^ (more + 1) = 2 * D * 2 ^ (i + 1074) := by
    rw [← wa, ← hDD, Nat.pow_add 2 i, ← pw_eq 1074, show 2 ^ (more + 1) = 2 ^ more * 2 from Nat.pow_succ 2 more, ac3]
  have p1 := Nat.two_pow_pos (more + 1)
  have p2 := Nat.two_pow_pos (i + 1074)
  have unit : ∀ K, K * 2 ^ L * worth r2 ≤ worth r1 * pw 1074 ↔ K * 2 ^ (d + 1) * n ≤ 2 * D := fun K => by
    constructor
    · intro h
      have := Nat.mul_le_mul_right (2 ^ (more + 1)) h
      rw [x1, x2] at this
      exact Nat.le_of_mul_le_mul_right this p2
    · intro h
      have := Nat.mul_le_mul_right (2 ^ (i + 1074)) h
      rw [← x1, ← x2] at this
      exact Nat.le_of_mul_le_mul_right this p1
  have unit' : ∀ K, worth r1 * pw 1074 ≤ K * 2 ^ L * worth r2 ↔ 2 * D ≤ K * 2 ^ (d + 1) * n := fun K => by
    constructor
    · intro h
      have := Nat.mul_le_mul_right (2 ^ (more + 1)) h
      rw [x1, x2] at this
      exact Nat.le_of_mul_le_mul_right this p2
    · intro h
      have := Nat.mul_le_mul_right (2 ^ (i + 1074)) h
      rw [← x1, ← x2] at this
      exact Nat.le_of_mul_le_mul_right this p1
  -- the least that it is
  have f0 : 4503599627370496 * 2 ^ d ≤ q := by
    have e : (2 : Nat) ^ 52 * 2 ^ (d + 1) = 2 * (4503599627370496 * 2 ^ d) := by
      rw [gd, show (2 : Nat) ^ 52 = 4503599627370496 from rfl]; omega
    rw [e] at s1
    omega
  have f5 : 4503599627370496 * (2 * (2 ^ d * n)) ≤ 2 * D := by
    have := Nat.mul_le_mul_right n f0
    have e : 4503599627370496 * 2 ^ d * n = 4503599627370496 * (2 ^ d * n) := Nat.mul_assoc _ _ _
    have e2 := Nat.mul_comm n q
    omega
  refine ⟨_, hd, ?_, ?_, ?_, ?_, ?_⟩
  · rw [e1]; omega
  · rw [e1]; omega
  · intro c hc
    rcases Nat.lt_or_ge (rung (2 * q + sb) place) c with h | h
    · exfalso
      have h3 : worth (rung (2 * q + sb) place + 1) ≤ worth c := worth_le h
      rw [e1, Nat.add_assoc] at h3
      have h4 := worth_succ (L := L) e2 e3
      have h5 : (k + 1) * 2 ^ L * worth r2 ≤ worth r1 * pw 1074 := Nat.le_trans (Nat.mul_le_mul_right _ (Nat.le_trans h4 h3)) hc
      have := lower _ ((unit _).1 h5)
      omega
    · exact h
  · intro c hc
    rcases Nat.lt_or_ge c (rung (2 * q + sb) place) with h | h
    · exfalso
      have h3 : worth c ≤ worth (L * 4503599627370496 + k - 1) := worth_le (by omega)
      rcases Nat.lt_or_ge 4503599627370496 k with h4 | h4
      · rw [show L * 4503599627370496 + k - 1 = L * 4503599627370496 + (k - 1) by omega, worth_normal (by omega) (by omega)] at h3
        have h5 := Nat.le_trans hc (Nat.mul_le_mul_right (worth r2) h3)
        have := upper _ ((unit' _).1 h5)
        omega
      · have hk : k = 4503599627370496 := by omega
        subst hk
        have h5 : 4503599627370496 * 2 ^ L * worth r2 ≤ worth r1 * pw 1074 := (unit _).2 (by rw [gd, Nat.mul_assoc, Nat.mul_assoc]; exact f5)
        rw [← worth_normal (L := L) (Nat.le_refl _) (by omega)] at h5
        have h6 : worth c < worth (L * 4503599627370496 + 4503599627370496) := worth_lt (by omega)
        have h7 := Nat.mul_lt_mul_of_pos_right h6 (show 0 < worth r2 by omega)
        omega
    · exact h
  · rw [e1, worth_normal e2 e3]
    have er := cutE_err (n := 2 * q + sb) hg
    rw [← e5] at er
    have hN := Nat.mul_le_mul_right n (show 1 ≤ 2 ^ d from gd0)
    have g1 : k * 2 ^ (d + 1) * n ≤ (2 * q + sb) * n + 2 ^ d * n := by
      rw [← Nat.add_mul]; exact Nat.mul_le_mul_right n (by omega)
    have g2 : (2 * q + sb) * n ≤ k * 2 ^ (d + 1) * n + 2 ^ d * n := by
      rw [← Nat.add_mul]; exact Nat.mul_le_mul_right n (by omega)
    have g3 : (2 * q + sb) * n = 2 * (n * q) + sb * n := by rw [Nat.add_mul, Nat.mul_assoc, Nat.mul_comm q n]
    have g4 : sb * n ≤ n ∧ 2 * rest ≤ sb * n + n := by
      by_cases h0 : rest = 0
      · have := hsb0 h0; subst this; omega
      · have := hsb1 h0; subst this; omega
    constructor
    · have : k * 2 ^ (d + 1) * n * 4503599627370496 ≤ 2 * D * 4503599627370497 := by
        rw [g3] at g1
        omega
      have := Nat.mul_le_mul_right (2 ^ (i + 1074)) this
      rw [Nat.mul_right_comm (k * 2 ^ (d + 1) * n), Nat.mul_right_comm (2 * D), ← x1, ← x2] at this
      refine Nat.le_of_mul_le_mul_right ?_ p1
      rw [Nat.mul_right_comm (k * 2 ^ L * worth r2), Nat.mul_right_comm (worth r1 * pw 1074)]
      exact this
    · have : 2 * D * 4503599627370495 ≤ k * 2 ^ (d + 1) * n * 4503599627370496 := by
        rw [g3] at g2
        omega
      have := Nat.mul_le_mul_right (2 ^ (i + 1074)) this
      rw [Nat.mul_right_comm (k * 2 ^ (d + 1) * n), Nat.mul_right_comm (2 * D), ← x1, ← x2] at this
      refine Nat.le_of_mul_le_mul_right ?_ p1
      rw [Nat.mul_right_comm (k * 2 ^ L * worth r2), Nat.mul_right_comm (worth r1 * pw 1074)]
      exact this

theorem write_fl {d : Ieee.Datum} (h : d.isNaN = false) : NN (F64.write d) ∧ F64.write d < 18446744073709551616 := by
  cases d with
  | number s m p =>
    have e : F64.write (.number s m p) = wrd s (rung m p) := nearest_rung s m p
    rw [e]; exact wrd_nn (rung_le m p)
  | infinity s => exact wrd_nn (s := s) (r := 9218868437227405312) (Nat.le_refl _)
  | nan s x => cases h
theorem div_fl {x y z : Nat} (h : F64.div x y = some z) : NN z ∧ z < 18446744073709551616 := by
  unfold Ieee.Format.div at h
  cases hq : (F64.read x).quotient (F64.fractionBits + 2) (F64.read y) with
  | none => rw [hq] at h; cases h
  | some d =>
    rw [hq] at h
    simp only [Option.map_some, Option.some.injEq] at h
    subst h
    refine write_fl ?_
    revert hq
    cases F64.read x <;> cases F64.read y <;> simp only [Ieee.Datum.quotient] <;> intro hq
    all_goals first
      | (cases hq; done)
      | (injection hq with hq; subst hq; rfl)
      | (split at hq
         · split at hq
           · cases hq
           · injection hq with hq; subst hq; rfl
         · injection hq with hq; subst hq; rfl)
theorem add_fl {x y z : Nat} (h : F64.add x y = some z) : NN z ∧ z < 18446744073709551616 := by
  unfold Ieee.Format.add at h
  cases hq : (F64.read x).sum (F64.read y) with
  | none => rw [hq] at h; cases h
  | some d =>
    rw [hq] at h
    simp only [Option.map_some, Option.some.injEq] at h
    subst h
    refine write_fl ?_
    revert hq
    cases F64.read x <;> cases F64.read y <;> simp only [Ieee.Datum.sum] <;> intro hq
    all_goals first
      | (cases hq; done)
      | (injection hq with hq; subst hq; rfl)
      | (split at hq
         · injection hq with hq; subst hq; rfl
         · cases hq)

/-- The quotient of whole numbers, none of them nought. -/
theorem div_int {a b : Int} (ha : a ≠ 0) (hb : b ≠ 0) (la : a.natAbs ≤ 9223372036854775808) (lb : b.natAbs ≤ 9223372036854775808) :
    ∃ R, F64.div (FloatKind.f64.nearest a) (FloatKind.f64.nearest b) = some (wrd (decide (a < 0) ^^ decide (b < 0)) R) ∧ 0 < R ∧ R < 9218868437227405312 := by
  have na : a.natAbs ≠ 0 := by omega
  have nb : b.natAbs ≠ 0 := by omega
  have ga : a.natAbs.log2 < 64 := (Nat.log2_lt na).2 (by omega)
  have gb : b.natAbs.log2 < 64 := (Nat.log2_lt nb).2 (by omega)
  obtain ⟨a1, a2, a3, a4⟩ := rung_log na (by omega)
  obtain ⟨b1, b2, b3, b4⟩ := rung_log nb (by omega)
  have w0 : ∀ r, r ≠ 0 → worth r ≠ 0 := fun r hr => by
    have := worth_lt (show 0 < r by omega)
    omega
  rw [fi_eq, fi_eq]
  obtain ⟨R, h, h1, h2, _⟩ := div_spec (s := decide (a < 0)) (t := decide (b < 0)) a1 b1 (w0 _ a2) (w0 _ b2) (by omega) (by omega)
  exact ⟨R, h, h1, h2⟩
theorem read_int {a : Int} (ha : a ≠ 0) (la : a.natAbs ≤ 9223372036854775808) : ∃ (m : Nat) (p : Int), F64.read (FloatKind.f64.nearest a) = .number (decide (a < 0)) m p ∧ m ≠ 0 := by
  have na : a.natAbs ≠ 0 := by omega
  have ga : a.natAbs.log2 < 64 := (Nat.log2_lt na).2 (by omega)
  obtain ⟨a1, a2, _⟩ := rung_log na (by omega)
  rw [fi_eq]
  obtain ⟨m, k, e, hw⟩ := read_wrd (s := decide (a < 0)) a1
  refine ⟨m, _, e, ?_⟩
  rintro rfl
  rw [Nat.zero_mul] at hw
  have := worth_lt (show 0 < rung a.natAbs 0 by omega)
  omega
theorem div_by0 {a : Int} (ha : a ≠ 0) (la : a.natAbs ≤ 9223372036854775808) : F64.div (FloatKind.f64.nearest a) 0 = some (wrd (decide (a < 0)) 9218868437227405312) := by
  obtain ⟨m, p, e, hm⟩ := read_int ha la
  unfold Ieee.Format.div
  rw [e, show F64.read 0 = .number false 0 (-1074) from rfl]
  simp only [Ieee.Datum.quotient, if_pos, if_neg hm, Option.map_some, Bool.xor_false]
  rfl
theorem div_of0 {b : Int} (hb : b ≠ 0) (lb : b.natAbs ≤ 9223372036854775808) : F64.div 0 (FloatKind.f64.nearest b) = some (wrd (decide (b < 0)) 0) := by
  obtain ⟨m, p, e, hm⟩ := read_int hb lb
  unfold Ieee.Format.div
  rw [e, show F64.read 0 = .number false 0 (-1074) from rfl]
  simp only [Ieee.Datum.quotient, if_neg hm, Option.map_some, Bool.false_xor, Nat.shiftLeft_eq, Nat.zero_mul, Nat.zero_div, Nat.zero_mod, Ieee.Format.write, nearest_rung]
  simp [rung]
theorem div_00 : F64.div 0 0 = none := rfl

/-- A finite word's number, in units. -/
def sv (s : Bool) (r : Nat) : Int := if s then -(worth r : Int) else worth r
theorem add_spec {s t : Bool} {r q : Nat} (h1 : r < 9218868437227405312) (h2 : q < 9218868437227405312) :
    F64.add (wrd s r) (wrd t q) = some (wrd (if sv s r + sv t q = 0 then s && t else decide (sv s r + sv t q < 0)) (rung (sv s r + sv t q).natAbs (-1074))) := by
  obtain ⟨m, i, ea, wa⟩ := read_wrd (s := s) h1
  obtain ⟨n, j, eb, wb⟩ := read_wrd (s := t) h2
  unfold Ieee.Format.add
  rw [ea, eb]
  simp only [Ieee.Datum.sum, Option.map_some, Ieee.Format.write, nearest_rung]
  have e1 : ((-1074 + (i : Int)) - min (-1074 + (i : Int)) (-1074 + (j : Int))).toNat = i - min i j := by omega
  have e2 : ((-1074 + (j : Int)) - min (-1074 + (i : Int)) (-1074 + (j : Int))).toNat = j - min i j := by omega
  have e3 : min (-1074 + (i : Int)) (-1074 + (j : Int)) = -1074 + ((min i j : Nat) : Int) := by omega
  rw [e1, e2, e3]
  generalize htot : Ieee.signed s m (i - min i j) + Ieee.signed t n (j - min i j) = total
  have hv : total * ((2 ^ (min i j) : Nat) : Int) = sv s r + sv t q := by
    rw [← htot, Int.add_mul, signed_eq, signed_eq]
    have f1 : ((m * 2 ^ (i - min i j) : Nat) : Int) * ((2 ^ (min i j) : Nat) : Int) = (worth r : Int) := by
      rw [← wa, ← Int.natCast_mul, Nat.mul_assoc, ← Nat.pow_add, Nat.sub_add_cancel (Nat.min_le_left _ _)]
    have f2 : ((n * 2 ^ (j - min i j) : Nat) : Int) * ((2 ^ (min i j) : Nat) : Int) = (worth q : Int) := by
      rw [← wb, ← Int.natCast_mul, Nat.mul_assoc, ← Nat.pow_add, Nat.sub_add_cancel (Nat.min_le_right _ _)]
    unfold sv
    congr 1
    · cases s
      · simp only [Bool.false_eq_true, if_false]; exact f1
      · simp only [if_true]; rw [Int.neg_mul, f1]
    · cases t
      · simp only [Bool.false_eq_true, if_false]; exact f2
      · simp only [if_true]; rw [Int.neg_mul, f2]
  have hp : 0 < ((2 ^ (min i j) : Nat) : Int) := by exact_mod_cast Nat.two_pow_pos (min i j)
  have hr : rung total.natAbs (-1074 + ((min i j : Nat) : Int)) = rung (sv s r + sv t q).natAbs (-1074) := by
    rw [← hv, Int.natAbs_mul, Int.natAbs_natCast, rung_scale]
  rw [hr]
  have hz : (total = 0) ↔ (sv s r + sv t q = 0) := by
    rw [← hv]
    constructor
    · intro h; rw [h, Int.zero_mul]
    · intro h
      rcases Int.mul_eq_zero.1 h with h | h
      · exact h
      · omega
  have hl : (total < 0) ↔ (sv s r + sv t q < 0) := by
    rw [← hv]
    constructor
    · intro h; exact Int.mul_neg_of_neg_of_pos h hp
    · intro h
      rcases Int.lt_or_le total 0 with h' | h'
      · exact h'
      · have := Int.mul_nonneg h' (Int.le_of_lt hp)
        omega
  by_cases h0 : total = 0
  · rw [if_pos h0, if_pos (hz.1 h0)]
  · rw [if_neg h0, if_neg (fun h => h0 (hz.2 h))]
    congr 2
    exact decide_eq_decide.2 hl

theorem int_fits {n : Nat} (h : n < 9007199254740992) : rung n 0 < 9218868437227405312 := by
  by_cases h0 : n = 0
  · subst h0; simp [rung]
  · exact (rung_log h0 (by have := (Nat.log2_lt h0 (k := 53)).2 h; omega)).1
theorem sv_int {a : Int} (h : a.natAbs < 9007199254740992) : sv (decide (a < 0)) (rung a.natAbs 0) = a * ((pw 1074 : Nat) : Int) := by
  unfold sv
  rw [worth_int h]
  by_cases h0 : a < 0
  · simp only [h0, decide_true, if_true]
    rw [Int.natCast_mul, ← Int.neg_mul]
    congr 1; omega
  · simp only [h0, decide_false, Bool.false_eq_true, if_false]
    rw [Int.natCast_mul]
    congr 1; omega
/-- Whole numbers add as whole numbers. -/
theorem fi_add {a b : Int} (ha : a.natAbs < 9007199254740992) (hb : b.natAbs < 9007199254740992) : F64.add (FloatKind.f64.nearest a) (FloatKind.f64.nearest b) = some (FloatKind.f64.nearest (a + b)) := by
  rw [fi_eq, fi_eq, fi_eq, add_spec (int_fits ha) (int_fits hb), sv_int ha, sv_int hb, ← Int.add_mul]
  have hp : 0 < ((pw 1074 : Nat) : Int) := by exact_mod_cast pw_pos 1074
  generalize hE : ((pw 1074 : Nat) : Int) = E at hp
  have hr : rung ((a + b) * E).natAbs (-1074) = rung (a + b).natAbs 0 := by
    rw [← hE, Int.natAbs_mul, Int.natAbs_natCast, rung_pw (by omega)]
  rw [hr]
  congr 2
  by_cases h0 : a + b = 0
  · rw [h0, Int.zero_mul, if_pos rfl]
    have : ¬ (a < 0 ∧ b < 0) := by omega
    by_cases h1 : a < 0
    · have : ¬ b < 0 := by omega
      simp [h1, this]
    · simp [h1]
  · have : (a + b) * E ≠ 0 := fun h => by
      rcases Int.mul_eq_zero.1 h with h | h
      · exact h0 h
      · omega
    rw [if_neg this]
    refine decide_eq_decide.2 ⟨fun h => ?_, fun h => Int.mul_neg_of_neg_of_pos h hp⟩
    rcases Int.lt_or_le (a + b) 0 with h' | h'
    · exact h'
    · have := Int.mul_nonneg h' (Int.le_of_lt hp)
      omega

/-- The quotient of whole numbers of at most 53 digits, against any word. -/
theorem quo_int {a : Int} {w : Nat} (ha : a ≠ 0) (hw : w ≠ 0) (la : a.natAbs < 9007199254740992) (lw : w < 9007199254740992) :
    ∃ R, F64.div (FloatKind.f64.nearest a) (FloatKind.f64.nearest w) = some (wrd (decide (a < 0)) R) ∧ 0 < R ∧ R < 9218868437227405312 ∧
      (∀ c, worth c * w ≤ a.natAbs * pw 1074 → c ≤ R) ∧ (∀ c, a.natAbs * pw 1074 ≤ worth c * w → R ≤ c) ∧
      worth R * w * 4503599627370496 ≤ a.natAbs * pw 1074 * 4503599627370497 ∧ a.natAbs * pw 1074 * 4503599627370495 ≤ worth R * w * 4503599627370496 := by
  have na : a.natAbs ≠ 0 := by omega
  have ga : a.natAbs.log2 < 53 := (Nat.log2_lt na).2 la
  have gw : w.log2 < 53 := (Nat.log2_lt hw).2 lw
  have w1 := worth_int la
  have w2 := worth_int lw
  have hE : 0 < pw 1074 := pw_pos 1074
  have l1 : (worth (rung a.natAbs 0)).log2 = a.natAbs.log2 + 1074 := by rw [w1, log2_mul_pw na]
  have l2 : (worth (rung w 0)).log2 = w.log2 + 1074 := by rw [w2, log2_mul_pw hw]
  rw [fi_eq, fi_eq, show decide ((w : Int) < 0) = false by simp]
  obtain ⟨R, h, h1, h2, h3, h4, h5, h6⟩ := div_spec (s := decide (a < 0)) (t := false) (int_fits la) (int_fits lw) (by rw [w1]; exact Nat.mul_ne_zero na (by omega)) (by rw [w2]; exact Nat.mul_ne_zero hw (by omega)) (by omega) (by omega)
  rw [Int.natAbs_natCast]
  rw [w1, w2] at h3 h4 h5 h6
  generalize pw 1074 = E at *
  refine ⟨R, by rw [h, Bool.xor_false], h1, h2, fun c hc => h3 c ?_, fun c hc => h4 c ?_, ?_, ?_⟩
  · rw [← Nat.mul_assoc]; exact Nat.mul_le_mul_right E hc
  · rw [← Nat.mul_assoc]; exact Nat.mul_le_mul_right E hc
  · refine Nat.le_of_mul_le_mul_right ?_ hE
    rw [Nat.mul_right_comm _ 4503599627370496, Nat.mul_right_comm _ 4503599627370497, Nat.mul_assoc (worth R)]
    exact h5
  · refine Nat.le_of_mul_le_mul_right ?_ hE
    rw [Nat.mul_right_comm _ 4503599627370496, Nat.mul_right_comm _ 4503599627370495, Nat.mul_assoc (worth R)]
    exact h6

end Go.Aa
