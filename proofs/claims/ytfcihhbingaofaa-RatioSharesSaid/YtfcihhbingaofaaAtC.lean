/-
  SHARES OF THE SAME WHOLE.
-/
import Derived.Test.YtfcihhbingaofaaAtB
set_option linter.unusedVariables false
set_option linter.unusedSimpArgs false
set_option maxRecDepth 100000
namespace Go.Aa.T
open Go.Aa
variable {H : Heap} {b c : Nat}

theorem one_eq : FloatKind.f64.nearest 1 = 4607182418800017408 := by kernel_rfl
theorem one_rung : rung 1 0 = 4607182418800017408 := by
  have := fi_eq 1
  rw [one_eq] at this
  simpa [wrd] using this.symm
theorem one_worth : worth 4607182418800017408 = pw 1074 := by
  have := worth_int (n := 1) (by omega)
  rw [one_rung, Nat.one_mul] at this
  exact this

/-- A number that is added to nothing, and parted by one, is what it was. -/
theorem add_zero {r : Nat} (h : r < 9218868437227405312) : F64.add 0 (wrd false r) = some (wrd false r) := by
  have h0 := add_spec (s := false) (t := false) (r := 0) (q := r) (by omega) h
  have e0 : wrd false 0 = 0 := rfl
  have w0 : worth 0 = 0 := rfl
  rw [e0] at h0
  rw [h0]
  simp only [sv, w0, Bool.false_eq_true, if_false, Int.natCast_zero, Int.zero_add, Int.natAbs_natCast, rung_worth h, Bool.and_self]
  congr 2
  split
  · rfl
  · simp
theorem div_one {r : Nat} (h : r < 9218868437227405312) (h0 : r ≠ 0) (l1 : (worth r).log2 < 2000) (l2 : 1000 < (worth r).log2) : F64.div (wrd false r) (FloatKind.f64.nearest 1) = some (wrd false r) := by
  have w0 : worth r ≠ 0 := by
    have := worth_lt (show 0 < r by omega)
    omega
  have hE : 0 < pw 1074 := pw_pos 1074
  have e1 : FloatKind.f64.nearest 1 = wrd false 4607182418800017408 := by rw [one_eq]; rfl
  have lE : (worth 4607182418800017408).log2 = 1074 := by rw [one_worth, pw_log2]
  rw [e1]
  obtain ⟨R, hh, h1, h2, h3, h4, _⟩ := div_spec (s := false) (t := false) (r1 := r) (r2 := 4607182418800017408) h (by omega) w0 (by rw [one_worth]; omega) (by rw [lE]; omega) (by rw [lE]; omega)
  rw [one_worth] at h3 h4
  have a := h3 r (Nat.le_refl _)
  have b := h4 r (Nat.le_refl _)
  have : R = r := by omega
  rw [hh, this]; rfl

theorem ofA_nat {a w : Nat} (ha : a ≠ 0) (hw : w ≠ 0) (la : a < 9007199254740992) (lw : w < 9007199254740992) :
    ∃ R, ofA a w = .flt (wrd false R) ∧ 0 < R ∧ R < 9218868437227405312 ∧
      (∀ c, worth c * w ≤ a * pw 1074 → c ≤ R) ∧ (∀ c, a * pw 1074 ≤ worth c * w → R ≤ c) ∧
      worth R * w * 4503599627370496 ≤ a * pw 1074 * 4503599627370497 ∧ a * pw 1074 * 4503599627370495 ≤ worth R * w * 4503599627370496 := by
  obtain ⟨R, h, h1, h2, h3, h4, h5, h6⟩ := quo_int (a := (a : Int)) (w := w) (by omega) hw (by simpa using la) lw
  simp only [Int.natAbs_natCast] at h3 h4 h5 h6
  refine ⟨R, ?_, h1, h2, h3, h4, h5, h6⟩
  unfold ofA
  rw [h, show decide ((a : Int) < 0) = false by simp]
  rfl

theorem cmp_pos {r q : Nat} (h1 : 0 < r) (h2 : r < 9218868437227405312) (h3 : 0 < q) (h4 : q < 9218868437227405312) : cmp (.flt (wrd false r)) (.flt (wrd false q)) = sgn r q := by
  unfold cmp
  rw [cls_wrd (by omega), cls_wrd (by omega)]
  have e1 : ¬ r = 0 := by omega
  have e2 : ¬ q = 0 := by omega
  have e3 : ¬ r = 9218868437227405312 := by omega
  have e4 : ¬ q = 9218868437227405312 := by omega
  simp only [e1, e2, e3, e4, if_false, Bool.false_eq_true, ne_eq, not_true, or_true, if_true, rk]
  rw [wrd_rank (by omega), wrd_rank (by omega)]
  rfl

/-- Of shares of the same whole the one of more is ahead. -/
theorem share_lt {a b w Ra Rb : Nat} (hab : a < b) (hb : b < 8589934592) (hw : 0 < w) (h1 : worth Ra * w * 4503599627370496 ≤ a * pw 1074 * 4503599627370497) (h2 : b * pw 1074 * 4503599627370495 ≤ worth Rb * w * 4503599627370496) : Ra < Rb := by
  rcases Nat.lt_or_ge Ra Rb with h | h
  · exact h
  · exfalso
    have h3 := Nat.mul_le_mul_right w (worth_le h)
    have hE : 0 < pw 1074 := pw_pos 1074
    generalize pw 1074 = E at *
    have h4 : (a + 1) * E ≤ b * E := Nat.mul_le_mul_right E hab
    have h5 : b * E ≤ 8589934592 * E := Nat.mul_le_mul_right E (by omega)
    rw [Nat.add_mul, Nat.one_mul] at h4
    generalize worth Ra * w = X at *
    generalize worth Rb * w = Y at *
    generalize a * E = P at *
    generalize b * E = Q at *
    omega

theorem share_cmp {a b w : Nat} (hw : 0 < w) (lw : w < 8589934592) (la : a < 8589934592) (lb : b < 8589934592) : cmp (ofA a w) (ofA b w) = sgn a b := by
  have wi : (w : Int) ≠ 0 := by omega
  have ca := ofA_cls (a := (a : Int)) (b := (w : Int)) (by simp; omega) (by simp; omega)
  have cb := ofA_cls (a := (b : Int)) (b := (w : Int)) (by simp; omega) (by simp; omega)
  rw [if_neg wi] at ca cb
  have wn : ¬ (w : Int) < 0 := by omega
  by_cases ha : a = 0
  · subst ha
    by_cases hb : b = 0
    · subst hb; rw [cmp_self, sgn_self]
    · have h1 : cls (ofA ((0 : Nat) : Int) w) = 3 := by rw [ca]; simp [wn]
      have h2 : cls (ofA (b : Int) w) = 4 := by
        have : ¬ (b : Int) < 0 := by omega
        rw [cb]; simp [hb, wn, this]
      unfold cmp
      rw [h1, h2]
      simp [sgn]; omega
  · by_cases hb : b = 0
    · subst hb
      have h1 : cls (ofA ((0 : Nat) : Int) w) = 3 := by rw [cb]; simp [wn]
      have h2 : cls (ofA (a : Int) w) = 4 := by
        have : ¬ (a : Int) < 0 := by omega
        rw [ca]; simp [ha, wn, this]
      unfold cmp
      rw [h1, h2]
      simp [sgn]; omega
    · obtain ⟨Ra, e1, p1, p2, p3, p4, p5, p6⟩ := ofA_nat ha (show w ≠ 0 by omega) (by omega) (by omega)
      obtain ⟨Rb, f1, q1, q2, q3, q4, q5, q6⟩ := ofA_nat hb (show w ≠ 0 by omega) (by omega) (by omega)
      rw [e1, f1, cmp_pos p1 p2 q1 q2]
      unfold sgn
      rcases Nat.lt_trichotomy a b with h | h | h
      · have := share_lt h lb hw p5 q6
        rw [if_pos (by omega), if_pos (by omega)]
      · subst h
        rw [e1] at f1
        have : Ra = Rb := by
          have g1 := congrArg rk f1
          simp only [rk] at g1
          rw [wrd_rank (by omega), wrd_rank (by omega)] at g1
          have g2 : (Ra : Int) = Rb := by simpa using g1
          omega
        subst this
        simp
      · have := share_lt h la hw q5 p6
        rw [if_neg (by omega), if_pos (by omega), if_neg (by omega), if_pos (by omega)]

theorem share_one {a w : Nat} (hw : 0 < w) (lw : w < 8589934592) (la : a < 8589934592) : cmp (ofA a w) (.flt 4607182418800017408) ≤ 0 ↔ a ≤ w := by
  have h1 : ofA w w = .flt 4607182418800017408 := by
    obtain ⟨R, e1, p1, p2, p3, p4, _⟩ := ofA_nat (show w ≠ 0 by omega) (show w ≠ 0 by omega) (by omega) (by omega)
    have a := p3 4607182418800017408 (by rw [one_worth, Nat.mul_comm]; exact Nat.le_refl _)
    have b := p4 4607182418800017408 (by rw [one_worth, Nat.mul_comm]; exact Nat.le_refl _)
    have : R = 4607182418800017408 := by omega
    rw [e1, this]; rfl
  rw [← h1, share_cmp hw lw la lw]
  unfold sgn
  (repeat' split) <;> omega

theorem share_mean {a w : Nat} (hw : 0 < w) (lw : w < 8589934592) (la : a < 8589934592) : meanF [ofA a w] = ofA a w := by
  unfold meanF sumF
  simp only [List.foldl_cons, List.foldl_nil, List.length_singleton]
  by_cases ha : a = 0
  · subst ha
    have : ofA ((0 : Nat) : Int) w = .flt 0 := by
      unfold ofA
      rw [show FloatKind.f64.nearest ((0 : Nat) : Int) = 0 from rfl, div_of0 (by omega) (by simp; omega), show decide ((w : Int) < 0) = false by simp]
      rfl
    rw [this]
    simp only [addF, divF, fltOp]
    have z : F64.add 0 0 = some 0 := add_zero (r := 0) (by omega)
    have z2 : F64.div 0 (FloatKind.f64.nearest ((1 : Nat) : Int)) = some 0 := div_of0 (b := 1) (by omega) (by simp)
    rw [z]
    simp only [fltR, z2]
  · obtain ⟨R, e1, p1, p2, p3, p4, p5, p6⟩ := ofA_nat ha (show w ≠ 0 by omega) (by omega) (by omega)
    rw [e1]
    simp only [addF, divF, fltOp, add_zero p2, fltR]
    have hE : 0 < pw 1074 := pw_pos 1074
    have hR : worth R ≠ 0 := by
      have := worth_lt p1
      omega
    have u1 : worth R < pw 2000 := by
      have h1 : worth R * 1 ≤ worth R * w := Nat.mul_le_mul_left _ hw
      have h2 : a * pw 1074 ≤ 8589934592 * pw 1074 := Nat.mul_le_mul_right _ (by omega)
      have h3 : pw 1074 * 34359738368 ≤ pw 2000 := by
        rw [show (34359738368 : Nat) = pw 35 from rfl, pw_add]
        exact pw_le (by omega)
      generalize pw 1074 = E at *
      generalize pw 2000 = F at *
      omega
    have u2 : pw 1001 ≤ worth R := by
      have h1 : worth R * w ≤ worth R * 8589934592 := Nat.mul_le_mul_left _ (by omega)
      have h2 : 1 * pw 1074 ≤ a * pw 1074 := Nat.mul_le_mul_right _ (by omega)
      have h3 : pw 1001 * 34359738368 ≤ pw 1074 := by
        rw [show (34359738368 : Nat) = pw 35 from rfl, pw_add]
        exact pw_le (by omega)
      generalize pw 1074 = E at *
      generalize pw 1001 = F at *
      omega
    rw [show ((1 : Nat) : Int) = 1 from rfl, div_one p2 (by omega) (lt_log hR u1) (by have := le_log hR u2; omega)]

end Go.Aa.T
namespace Go.Aa.T
open Go.Aa
variable {H : Heap}

theorem conv_u32 {n : Nat} (h : n < 4294967296) : convA (.int .i64) (.int .u32 (n : Int)) = some (.int .i64 (n : Int)) := by
  simp only [convA]; rw [wrap_i64 (by omega) (by omega)]
theorem addN {a b : Nat} (h : a + b < 9223372036854775808) : binA .add (.int .i64 (a : Int)) (.int .i64 (b : Int)) = some (.int .i64 ((a + b : Nat) : Int)) := by
  rw [addI (by omega) (by omega)]; rfl
theorem Fl.data0 {x : AV} (h : Fl x) : dataOk [x] = true := by cases h <;> rfl
theorem Fl.len1 {x : AV} (h : Fl x) : lenOk 1 [x] = true := by cases h <;> rfl
theorem Fl.shut2 {x : AV} (h : Fl x) : [x].map shut2 = [x] := by cases h <;> rfl
theorem ratioShares {a b n : Nat} (ha : a < 4294967296) (hb : b < 4294967296) (hn : n < 4294967296) : lim cfg (.fn 8) [.int .u32 (a : Int), .int .u32 (b : Int), .int .u32 (n : Int)] H = some (.ret (.bool true), H) := by
  have hx := ofA_fl (a : Int) ((1 + n : Nat) : Int)
  have hy := ofA_fl (b : Int) ((1 + n : Nat) : Int)
  have := hx.dat
  have := hy.dat
  have h1 : Fl (.flt 4607182418800017408) := .flt _ (by rw [NN_iff]; omega) (by omega)
  have hm := share_mean (a := a) (w := 1 + n) (by omega) (by omega) (by omega)
  have hmf := meanF_fl (l := [ofA (a : Int) ((1 + n : Nat) : Int)]) (fun z hz => by rw [List.mem_singleton] at hz; rw [hz]; exact hx)
  have := hmf.dat
  have hml : FlL [ofA (a : Int) ((1 + n : Nat) : Int)] := fun z hz => by rw [List.mem_singleton] at hz; rw [hz]; exact hx
  have hc := share_cmp (a := a) (b := b) (w := 1 + n) (by omega) (by omega) (by omega) (by omega)
  have ho := share_one (a := a) (w := 1 + n) (by omega) (by omega) (by omega)
  have hcls : 3 ≤ cls (ofA (a : Int) ((1 + n : Nat) : Int)) ∧ cls (ofA (a : Int) ((1 + n : Nat) : Int)) ≤ 4 := by
    rw [ofA_cls (by simp; omega) (by simp; omega), if_neg (by omega)]
    have e1 : decide ((a : Int) < 0) = false := by simp
    have e2 : decide (((1 + n : Nat) : Int) < 0) = false := decide_eq_false (by omega)
    rw [e1, e2]
    (repeat' split) <;> first | omega | (exfalso; omega) | simp_all
  have hr : cmp (meanF [ofA (a : Int) ((1 + n : Nat) : Int)]) (ofA (a : Int) ((1 + n : Nat) : Int)) = 0 := by rw [hm, cmp_self]
  let fin : Scr cfg a8 (.ret (.bool true), H) := .tt <| .bslice hx.shut2 hx.len1 hx.data0 <| .callW [.sl .full [ofA (a : Int) ((1 + n : Nat) : Int)]] (mean_any hml (by simp)) <| .call (rcompare_any hmf hx) <| .eqT hr <| .done
  let tail : ∀ c : Int, cmp (ofA (a : Int) ((1 + n : Nat) : Int)) (ofA (b : Int) ((1 + n : Nat) : Int)) = c → Scr cfg a8 (.ret (.bool true), H) := fun c h =>
    .call (compare_any hx hy) <| .eqT h <| .tt <| .call (class_any hx) <| .geT hcls.1 <| .tt <| .call (class_any hx) <| .leT hcls.2 <| .tt <| .call (compare_any hx h1) <| .split (a ≤ 1 + n)
      (fun h => .leT (ho.2 h) <| .conv (conv_u32 ha) <| .leT (show (a : Int) ≤ ((1 + n : Nat) : Int) by omega) <| fin)
      (fun h => .leF (show 0 < cmp (ofA (a : Int) ((1 + n : Nat) : Int)) (.flt 4607182418800017408) by
          have := mt ho.1 h
          omega) <| .conv (conv_u32 ha) <| .leF (show ((1 + n : Nat) : Int) < (a : Int) by omega) <| fin)
  rw [l8]
  exact go 60 [] trivial (.call known' <| .ff <| .conv (conv_u32 hn) <| .bin (addN (a := 1) (b := n) (by omega)) <| .conv (conv_u32 ha) <| .call (of_any (a : Int) ((1 + n : Nat) : Int)) <| .conv (conv_u32 hb) <| .call (of_any (b : Int) ((1 + n : Nat) : Int)) <| .split (a < b)
    (fun h => .bin (lssT (k := .u32) (show (a : Int) < b by omega)) <| .tt <| tail (-1) (by rw [hc, sgn, if_pos (by omega)]))
    (fun h => .bin (lssF (k := .u32) (show (b : Int) ≤ a by omega)) <| .ff <| .split (b < a)
      (fun h' => .bin (gtrT (k := .u32) (show (b : Int) < a by omega)) <| .tt <| tail 1 (by rw [hc, sgn, if_neg (by omega), if_pos (by omega)]))
      (fun h' => .bin (gtrF (k := .u32) (show (a : Int) ≤ b by omega)) <| .ff <| tail 0 (by rw [hc, sgn, if_neg (by omega), if_neg (by omega)])))) (by kernel_rfl)
end Go.Aa.T
