/-
  MEANS OF WHOLE NUMBERS.
-/
import Derived.Test.YtfcihhbingaofaaAtC
set_option linter.unusedVariables false
set_option linter.unusedSimpArgs false
set_option maxRecDepth 100000
namespace Go.Aa.T
open Go.Aa
variable {H : Heap} {b c : Nat}

def fiA (z : Int) : AV := .flt (FloatKind.f64.nearest z)
def Small (z : Int) : Prop := z.natAbs < 9007199254740992
theorem fi_rank {z : Int} (h : Small z) : rank (FloatKind.f64.nearest z) = if z < 0 then -(rung z.natAbs 0 : Int) else rung z.natAbs 0 := by
  have := int_fits h
  rw [fi_eq, wrd_rank (by omega)]
  by_cases h0 : z < 0 <;> simp [h0]
theorem rung_lt {a b : Nat} (ha : a < 9007199254740992) (hb : b < 9007199254740992) (h : a < b) : rung a 0 < rung b 0 := by
  rcases Nat.lt_or_ge (rung a 0) (rung b 0) with h1 | h1
  · exact h1
  · have := worth_le h1
    rw [worth_int ha, worth_int hb] at this
    have := Nat.le_of_mul_le_mul_right this (pw_pos 1074)
    omega
theorem rung_pos {a : Nat} (ha : a < 9007199254740992) (h : 0 < a) : 0 < rung a 0 := by
  have := rung_lt (a := 0) (by omega) ha h
  omega
theorem fi_rank_lt {a b : Int} (ha : Small a) (hb : Small b) (h : a < b) : rank (FloatKind.f64.nearest a) < rank (FloatKind.f64.nearest b) := by
  rw [fi_rank ha, fi_rank hb]
  unfold Small at ha hb
  by_cases h1 : a < 0
  · rw [if_pos h1]
    have p1 := rung_pos ha (by omega)
    by_cases h2 : b < 0
    · rw [if_pos h2]
      have := rung_lt hb ha (show b.natAbs < a.natAbs by omega)
      omega
    · rw [if_neg h2]; omega
  · rw [if_neg h1, if_neg (by omega)]
    have := rung_lt ha hb (show a.natAbs < b.natAbs by omega)
    omega
theorem clsB_cases {x : Nat} (h : NN x) : (rank x = -top ∧ clsB x = 0) ∨ (-top < rank x ∧ rank x < 0 ∧ clsB x = 1) ∨ (rank x = 0 ∧ (clsB x = 2 ∨ clsB x = 3)) ∨ (0 < rank x ∧ rank x < top ∧ clsB x = 4) ∨ (rank x = top ∧ clsB x = 5) := by
  have t := rank_top h
  have ht : top = 9218868437227405312 := rfl
  unfold clsB
  by_cases h1 : rank x = top
  · rw [if_pos h1]; omega
  · rw [if_neg h1]
    by_cases h2 : 0 < rank x
    · rw [if_pos h2]; omega
    · rw [if_neg h2]
      by_cases h3 : rank x = -top
      · rw [if_pos h3]; omega
      · rw [if_neg h3]
        by_cases h4 : rank x < 0
        · rw [if_pos h4]; omega
        · rw [if_neg h4]
          split <;> omega
theorem cmp_rank_lt {x y : Nat} (hx : NN x) (hy : NN y) (h : rank x < rank y) : cmp (.flt x) (.flt y) = -1 := by
  have c1 := clsB_cases hx
  have c2 := clsB_cases hy
  have ht : top = 9218868437227405312 := rfl
  show (if clsB x ≠ clsB y then sgn (clsB x) (clsB y) else if clsB x = 1 ∨ clsB x = 4 then sgn (rank x) (rank y) else 0) = -1
  by_cases hpq : clsB x = clsB y
  · rw [if_neg (fun hh => hh hpq), if_pos (by omega), sgn, if_pos h]
  · rw [if_pos hpq, sgn, if_pos (by omega)]
theorem cmp_rank_eq {x y : Nat} (hx : NN x) (hy : NN y) (h : rank x = rank y) (h0 : rank x ≠ 0) : cmp (.flt x) (.flt y) = 0 := by
  unfold cmp
  simp only [cls, clsB, rk, ← h, if_neg h0]
  unfold sgn
  (repeat' split) <;> first | omega | simp_all
theorem fi_nn (z : Int) : NN (FloatKind.f64.nearest z) := by rw [fi_eq]; exact (wrd_nn (rung_le _ _)).1
theorem cmp_int {a b : Int} (ha : Small a) (hb : Small b) : cmp (fiA a) (fiA b) = sgn a b := by
  unfold sgn
  rcases Int.lt_trichotomy a b with h | h | h
  · rw [if_pos h]; exact cmp_rank_lt (fi_nn _) (fi_nn _) (fi_rank_lt ha hb h)
  · subst h; rw [cmp_self]; simp
  · rw [if_neg (by omega), if_pos h, cmp_flip (fiA b) (fiA a), show cmp (fiA b) (fiA a) = -1 from cmp_rank_lt (fi_nn _) (fi_nn _) (fi_rank_lt hb ha h)]; rfl

/-! ### Sums, the least and the greatest -/
def sumZ (a : Int) (l : List Int) : Int := l.foldl (· + ·) a
theorem sum_int : ∀ (l : List Int) (a : Int), (∀ z ∈ l, z.natAbs ≤ 32768) → a.natAbs + 32768 * l.length < 9007199254740992 → sumF (fiA a) (l.map fiA) = fiA (sumZ a l)
  | [], a, _, _ => rfl
  | z :: l, a, hl, h => by
    have hz := hl z (by simp)
    simp only [List.length_cons] at h
    have e : addF (fiA a) (fiA z) = fiA (a + z) := by
      simp only [addF, fiA, fltOp, fi_add (show a.natAbs < 9007199254740992 by omega) (show z.natAbs < 9007199254740992 by omega), fltR]
    simp only [sumF, sumZ, List.map_cons, List.foldl_cons, e]
    exact sum_int l (a + z) (fun y hy => hl y (by simp [hy])) (by omega)
def bz (s m : Int) (l : List Int) : Int := l.foldl (fun m z => if sgn z m * s < 0 then z else m) m
theorem best_int (s : Int) : ∀ (l : List Int) (m : Int), (∀ z ∈ l, Small z) → Small m → bestF s (fiA m) (l.map fiA) = fiA (bz s m l)
  | [], m, _, _ => rfl
  | z :: l, m, hl, hm => by
    have hz := hl z (by simp)
    have hl' : ∀ y ∈ l, Small y := fun y hy => hl y (by simp [hy])
    simp only [bestF, bz, List.map_cons, List.foldl_cons, cmp_int hz hm]
    by_cases h : sgn z m * s < 0
    · rw [if_pos h, if_pos h]; exact best_int s l z hl' hz
    · rw [if_neg h, if_neg h]; exact best_int s l m hl' hm
theorem bz_min : ∀ (l : List Int) (m : Int), bz 1 m l ≤ m ∧ (∀ z ∈ l, bz 1 m l ≤ z) ∧ (bz 1 m l = m ∨ bz 1 m l ∈ l)
  | [], m => ⟨Int.le_refl _, fun z h => (by cases h), .inl rfl⟩
  | z :: l, m => by
    have e : bz 1 m (z :: l) = bz 1 (if sgn z m * 1 < 0 then z else m) l := rfl
    have h := bz_min l (if sgn z m * 1 < 0 then z else m)
    rw [← e] at h
    have hs : (sgn z m * 1 < 0) ↔ z < m := by unfold sgn; (repeat' split) <;> omega
    obtain ⟨h1, h2, h3⟩ := h
    by_cases hz : sgn z m * 1 < 0
    · rw [if_pos hz] at h1 h3
      have := hs.1 hz
      refine ⟨by omega, fun y hy => ?_, ?_⟩
      · rcases List.mem_cons.1 hy with rfl | hy
        · exact h1
        · exact h2 y hy
      · rcases h3 with h3 | h3
        · exact .inr (by rw [h3]; simp)
        · exact .inr (by simp [h3])
    · rw [if_neg hz] at h1 h3
      have : ¬ z < m := fun x => hz (hs.2 x)
      refine ⟨h1, fun y hy => ?_, ?_⟩
      · rcases List.mem_cons.1 hy with rfl | hy
        · omega
        · exact h2 y hy
      · rcases h3 with h3 | h3
        · exact .inl h3
        · exact .inr (by simp [h3])
theorem bz_max : ∀ (l : List Int) (m : Int), m ≤ bz (-1) m l ∧ (∀ z ∈ l, z ≤ bz (-1) m l) ∧ (bz (-1) m l = m ∨ bz (-1) m l ∈ l)
  | [], m => ⟨Int.le_refl _, fun z h => (by cases h), .inl rfl⟩
  | z :: l, m => by
    have e : bz (-1) m (z :: l) = bz (-1) (if sgn z m * -1 < 0 then z else m) l := rfl
    have h := bz_max l (if sgn z m * -1 < 0 then z else m)
    rw [← e] at h
    have hs : (sgn z m * -1 < 0) ↔ m < z := by unfold sgn; (repeat' split) <;> omega
    obtain ⟨h1, h2, h3⟩ := h
    by_cases hz : sgn z m * -1 < 0
    · rw [if_pos hz] at h1 h3
      have := hs.1 hz
      refine ⟨by omega, fun y hy => ?_, ?_⟩
      · rcases List.mem_cons.1 hy with rfl | hy
        · exact h1
        · exact h2 y hy
      · rcases h3 with h3 | h3
        · exact .inr (by rw [h3]; simp)
        · exact .inr (by simp [h3])
    · rw [if_neg hz] at h1 h3
      have : ¬ m < z := fun x => hz (hs.2 x)
      refine ⟨h1, fun y hy => ?_, ?_⟩
      · rcases List.mem_cons.1 hy with rfl | hy
        · omega
        · exact h2 y hy
      · rcases h3 with h3 | h3
        · exact .inl h3
        · exact .inr (by simp [h3])
theorem sumZ_lo (m : Int) : ∀ (l : List Int) (a : Int), (∀ z ∈ l, m ≤ z) → a + m * l.length ≤ sumZ a l
  | [], a, _ => by simp [sumZ]
  | z :: l, a, h => by
    have h1 := sumZ_lo m l (a + z) (fun y hy => h y (by simp [hy]))
    have h2 := h z (by simp)
    have e : sumZ a (z :: l) = sumZ (a + z) l := rfl
    rw [e]
    have : m * ((z :: l).length : Int) = m * l.length + m := by simp only [List.length_cons, Int.natCast_add, Int.mul_add, Int.natCast_one, Int.mul_one]
    omega
theorem sumZ_hi (m : Int) : ∀ (l : List Int) (a : Int), (∀ z ∈ l, z ≤ m) → sumZ a l ≤ a + m * l.length
  | [], a, _ => by simp [sumZ]
  | z :: l, a, h => by
    have h1 := sumZ_hi m l (a + z) (fun y hy => h y (by simp [hy]))
    have h2 := h z (by simp)
    have e : sumZ a (z :: l) = sumZ (a + z) l := rfl
    rw [e]
    have : m * ((z :: l).length : Int) = m * l.length + m := by simp only [List.length_cons, Int.natCast_add, Int.mul_add, Int.natCast_one, Int.mul_one]
    omega

/-- A mean that is not nought lies between. -/
theorem mean_ge {S m : Int} {n : Nat} (hS : S ≠ 0) (sS : Small S) (hn : 0 < n) (ln : n < 9007199254740992) (sm : Small m) (h : m * n ≤ S) : 0 ≤ cmp (divF (fiA S) (fiA n)) (fiA m) := by
  obtain ⟨R, e, r1, r2, r3, r4, _⟩ := quo_int hS (show n ≠ 0 by omega) sS ln
  have ed : divF (fiA S) (fiA n) = .flt (wrd (decide (S < 0)) R) := by simp only [divF, fiA, fltOp, e, fltR]
  rw [ed]
  have nnR : NN (wrd (decide (S < 0)) R) := (wrd_nn (by omega)).1
  have hrk : rank (wrd (decide (S < 0)) R) = if S < 0 then -(R : Int) else R := by
    rw [wrd_rank (by omega)]; by_cases h0 : S < 0 <;> simp [h0]
  have hm := fi_rank sm
  have key : rank (FloatKind.f64.nearest m) ≤ rank (wrd (decide (S < 0)) R) := by
    rw [hrk, hm]
    by_cases h0 : S < 0
    · rw [if_pos h0]
      have hm0 : m < 0 := by
        rcases Int.lt_or_le m 0 with h1 | h1
        · exact h1
        · have := Int.mul_nonneg h1 (Int.natCast_nonneg n); omega
      rw [if_pos hm0]
      have := r4 (rung m.natAbs 0) (by
        rw [worth_int sm, Nat.mul_right_comm]
        refine Nat.mul_le_mul_right _ ?_
        have e1 : (m.natAbs : Int) = -m := by omega
        have e2 : ((m.natAbs * n : Nat) : Int) = -(m * n) := by rw [Int.natCast_mul, e1, Int.neg_mul]
        omega)
      omega
    · rw [if_neg h0]
      by_cases hm0 : m < 0
      · rw [if_pos hm0]; omega
      · rw [if_neg hm0]
        have := r3 (rung m.natAbs 0) (by
          rw [worth_int sm, Nat.mul_right_comm]
          refine Nat.mul_le_mul_right _ ?_
          have e1 : (m.natAbs : Int) = m := by omega
          have e2 : ((m.natAbs * n : Nat) : Int) = (m * n) := by rw [Int.natCast_mul, e1]
          omega)
        omega
  rcases Int.lt_or_eq_of_le key with h1 | h1
  · rw [cmp_flip (fiA m), show cmp (fiA m) (.flt (wrd (decide (S < 0)) R)) = -1 from cmp_rank_lt (fi_nn m) nnR h1]; omega
  · rw [cmp_flip (fiA m), show cmp (fiA m) (.flt (wrd (decide (S < 0)) R)) = 0 from cmp_rank_eq (fi_nn m) nnR h1 (by rw [h1, hrk]; split <;> omega)]; omega
theorem mean_le {S m : Int} {n : Nat} (hS : S ≠ 0) (sS : Small S) (hn : 0 < n) (ln : n < 9007199254740992) (sm : Small m) (h : S ≤ m * n) : cmp (divF (fiA S) (fiA n)) (fiA m) ≤ 0 := by
  obtain ⟨R, e, r1, r2, r3, r4, _⟩ := quo_int hS (show n ≠ 0 by omega) sS ln
  have ed : divF (fiA S) (fiA n) = .flt (wrd (decide (S < 0)) R) := by simp only [divF, fiA, fltOp, e, fltR]
  rw [ed]
  have nnR : NN (wrd (decide (S < 0)) R) := (wrd_nn (by omega)).1
  have hrk : rank (wrd (decide (S < 0)) R) = if S < 0 then -(R : Int) else R := by
    rw [wrd_rank (by omega)]; by_cases h0 : S < 0 <;> simp [h0]
  have hm := fi_rank sm
  have key : rank (wrd (decide (S < 0)) R) ≤ rank (FloatKind.f64.nearest m) := by
    rw [hrk, hm]
    by_cases h0 : S < 0
    · rw [if_pos h0]
      by_cases hm0 : m < 0
      · rw [if_pos hm0]
        have := r3 (rung m.natAbs 0) (by
          rw [worth_int sm, Nat.mul_right_comm]
          refine Nat.mul_le_mul_right _ ?_
          have e1 : (m.natAbs : Int) = -m := by omega
          have e2 : ((m.natAbs * n : Nat) : Int) = -(m * n) := by rw [Int.natCast_mul, e1, Int.neg_mul]
          omega)
        omega
      · rw [if_neg hm0]; omega
    · rw [if_neg h0]
      have hm0 : ¬ m < 0 := fun h1 => by
        have h2 : m * n < 0 := Int.mul_neg_of_neg_of_pos h1 (by omega)
        omega
      rw [if_neg hm0]
      have := r4 (rung m.natAbs 0) (by
        rw [worth_int sm, Nat.mul_right_comm]
        refine Nat.mul_le_mul_right _ ?_
        have e1 : (m.natAbs : Int) = m := by omega
        have e2 : ((m.natAbs * n : Nat) : Int) = (m * n) := by rw [Int.natCast_mul, e1]
        omega)
      omega
  rcases Int.lt_or_eq_of_le key with h1 | h1
  · rw [show cmp (.flt (wrd (decide (S < 0)) R)) (fiA m) = -1 from cmp_rank_lt nnR (fi_nn m) h1]; omega
  · rw [show cmp (.flt (wrd (decide (S < 0)) R)) (fiA m) = 0 from cmp_rank_eq nnR (fi_nn m) h1 (by rw [hrk]; split <;> omega)]; omega

/-! ### With an edge -/
theorem read_nn {x : Nat} (h : NN x) : (∃ s m p, F64.read x = .number s m p) ∨ (∃ s, F64.read x = .infinity s) := by
  rcases reads x with ⟨m, k, e, _, _⟩ | ⟨e, _⟩ | ⟨s, y, e, hgt⟩
  · exact .inl ⟨_, _, _, e⟩
  · exact .inr ⟨_, e⟩
  · rw [NN_iff] at h; omega
theorem read_fin {z : Int} (h : Small z) : ∃ m p, F64.read (FloatKind.f64.nearest z) = .number (decide (z < 0)) m p := by
  rw [fi_eq]
  obtain ⟨m, k, e, _⟩ := read_wrd (s := decide (z < 0)) (int_fits h)
  exact ⟨m, _, e⟩
theorem div_ok {x : Nat} {n : Nat} (hx : NN x) (hn : 0 < n) (ln : n < 9007199254740992) : ∃ z, F64.div x (FloatKind.f64.nearest n) = some z := by
  obtain ⟨m, p, e, hm⟩ := read_int (a := (n : Int)) (by omega) (by simp; omega)
  unfold Ieee.Format.div
  rw [e]
  rcases read_nn hx with ⟨s, k, q, e2⟩ | ⟨s, e2⟩
  · rw [e2]; simp only [Ieee.Datum.quotient, if_neg hm, Option.map_some]; exact ⟨_, rfl⟩
  · rw [e2]; exact ⟨_, rfl⟩
theorem cls_inf {b : Nat} (hb : b < 18446744073709551616) (h : cls (.flt b) = 5 ∨ cls (.flt b) = 0) : ∃ s, b = wrd s 9218868437227405312 ∧ F64.read b = .infinity s ∧ cls (.flt b) = if s then 0 else 5 := by
  simp only [cls, clsB] at h
  unfold rank top at h
  have : b = 9218868437227405312 ∨ b = 18442240474082181120 := by
    (repeat' split at h) <;> omega
  rcases this with rfl | rfl
  · exact ⟨false, rfl, rfl, rfl⟩
  · exact ⟨true, rfl, rfl, rfl⟩
theorem edge_cls {S : Int} {n : Nat} {e : AV} (he : Fl e) (sS : Small S) (hn : 0 < n) (ln : n < 9007199254740992) : 
    (cls e = 6 → cls (divF (addF (fiA S) e) (fiA n)) = 6) ∧ (cls e = 5 → cls (divF (addF (fiA S) e) (fiA n)) = 5) ∧ (cls e = 0 → cls (divF (addF (fiA S) e) (fiA n)) = 0) ∧ (cls e ≠ 6 → cls (divF (addF (fiA S) e) (fiA n)) < 6) := by
  cases he with
  | nan => exact ⟨fun _ => rfl, fun h => (by cases h), fun h => (by cases h), fun h => absurd rfl h⟩
  | flt b hb hb' =>
    have h6 : cls (.flt b) ≠ 6 := by have := cls_lt6 b; simp only [cls]; omega
    obtain ⟨mS, pS, eS⟩ := read_fin sS
    have hinf : ∀ s, F64.read b = .infinity s → cls (divF (addF (fiA S) (.flt b)) (fiA n)) = if s then 0 else 5 := fun s hs => by
      have e1 : F64.add (FloatKind.f64.nearest S) b = some (wrd s 9218868437227405312) := by
        unfold Ieee.Format.add
        rw [eS, hs]; rfl
      obtain ⟨m, p, en⟩ := read_fin (z := (n : Int)) (by unfold Small; simpa using ln)
      have er : F64.read (wrd s 9218868437227405312) = .infinity s := by cases s <;> rfl
      have e2 : F64.div (wrd s 9218868437227405312) (FloatKind.f64.nearest n) = some (wrd s 9218868437227405312) := by
        unfold Ieee.Format.div
        rw [er, en, show decide ((n : Int) < 0) = false by simp]
        simp only [Ieee.Datum.quotient, Option.map_some, Bool.xor_false]
        rfl
      simp only [divF, addF, fiA, fltOp, e1, fltR, e2]
      cases s <;> rfl
    refine ⟨fun h => absurd h h6, fun h => ?_, fun h => ?_, fun _ => ?_⟩
    · obtain ⟨s, _, hs, hc⟩ := cls_inf hb' (.inl h)
      rw [hinf s hs, ← hc, h]
    · obtain ⟨s, _, hs, hc⟩ := cls_inf hb' (.inr h)
      rw [hinf s hs, ← hc, h]
    · rcases read_nn hb with ⟨s, k, q, e2⟩ | ⟨s, e2⟩
      · have e1 : ∃ z, F64.add (FloatKind.f64.nearest S) b = some z := by
          unfold Ieee.Format.add
          rw [eS, e2]; exact ⟨_, rfl⟩
        obtain ⟨z, e1⟩ := e1
        obtain ⟨y, e3⟩ := div_ok (add_fl e1).1 hn ln
        simp only [divF, addF, fiA, fltOp, e1, fltR, e3, cls]
        exact cls_lt6 y
      · rw [hinf s e2]; cases s <;> decide
end Go.Aa.T
