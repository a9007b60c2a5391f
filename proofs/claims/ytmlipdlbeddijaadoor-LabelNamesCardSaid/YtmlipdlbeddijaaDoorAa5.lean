/-
  WHAT THE ABSTRACT OPERATIONS ANSWER, THE MACHINE's ANSWER TOO: values.
-/
import Derived.Test.YtmlipdlbeddijaaDoorAa4
set_option linter.unusedVariables false
set_option linter.unusedSimpArgs false
namespace Go.Aa
open Go.RowKit

variable {P : Program} {G G' : Ghost} {w w' : World}

/-- Only new blocks have come. -/
structure Grow (G : Ghost) (w : World) (G' : Ghost) (w' : World) : Prop where
  g : G' = { G with lim := G'.lim }
  os : w'.os = w.os
  tape : w'.tape = w.tape
  output : w'.output = w.output
  size : w.heap.size ≤ w'.heap.size
  heap : ∀ b, b < w.heap.size → w'.heap[b]? = w.heap[b]? ∧ G'.lim b = G.lim b
  new : ∀ b, w'.heap.size ≤ b → G'.lim b = 0

/-- Of blocks that are still to come nothing is settled. -/
def Base (G : Ghost) (w : World) : Prop := ∀ b, w.heap.size ≤ b → G.lim b = 0

theorem Grow.refl (h : Base G w) : Grow G w G w := ⟨rfl, rfl, rfl, rfl, Nat.le_refl _, fun _ _ => ⟨rfl, rfl⟩, h⟩
theorem Grow.base (h : Grow G w G' w') : Base G' w' := h.new
theorem Grow.trans {G1 G2 G3 : Ghost} {w1 w2 w3 : World} (h : Grow G1 w1 G2 w2) (k : Grow G2 w2 G3 w3) : Grow G1 w1 G3 w3 where
  g := by rw [k.g, h.g]
  os := k.os.trans h.os
  tape := k.tape.trans h.tape
  output := k.output.trans h.output
  size := Nat.le_trans h.size k.size
  heap := fun b hb => ⟨(k.heap b (Nat.lt_of_lt_of_le hb h.size)).1.trans (h.heap b hb).1, (k.heap b (Nat.lt_of_lt_of_le hb h.size)).2.trans (h.heap b hb).2⟩
  new := k.new

theorem Grow.step (h : Grow G w G' w') (hb : Base G w) : Step G w G' w' := by
  have e := h.g
  refine ⟨h.os, h.tape, h.output, h.size, fun b => ?_, fun b off ho => ?_, by rw [e]; exact Nat.le_refl _, fun k _ => by rw [e], fun k h1 h2 => ?_, by rw [e]; exact Nat.le_refl _,
    fun t _ => by rw [e]; exact Nat.le_refl _, fun t _ _ => by rw [e]; exact ⟨rfl, rfl⟩, fun t _ => by rw [e], fun t ht => ?_, by rw [e]; exact Nat.le_refl _, fun k _ => by rw [e], fun k h1 h2 => ?_, fun b hb' _ _ _ => h.heap b hb'⟩
  · by_cases hlt : b < w.heap.size
    · rw [(h.heap b hlt).2]; exact Nat.le_refl _
    · rw [hb b (by omega)]; exact Nat.zero_le _
  · have hlt : b < w.heap.size := by
      rcases Nat.lt_or_ge b w.heap.size with h' | h'
      · exact h'
      · rw [hb b h'] at ho; omega
    unfold World.cell?
    rw [(h.heap b hlt).1]
  · rw [e] at h2; simp only at h2; omega
  · rw [e] at ht ⊢; exact .inl ⟨ht, rfl⟩
  · rw [e] at h2; simp only at h2; omega

theorem Grow.drew (hb : Base G w) : Grow G w G w.drew := ⟨rfl, rfl, rfl, rfl, Nat.le_refl _, fun _ _ => ⟨rfl, rfl⟩, hb⟩

/-- A new block, of which L cells are settled. -/
def Ghost.set (G : Ghost) (b L : Nat) : Ghost := { G with lim := fun x => if x = b then L else G.lim x }
theorem Grow.alloc (hb : Base G w) (o : Obj) (L : Nat) : Grow G w (G.set w.heap.size L) (w.alloc o) where
  g := rfl
  os := rfl
  tape := rfl
  output := rfl
  size := by simp
  heap := fun b h => ⟨Below.heap_alloc w o b h, by simp [Ghost.set]; omega⟩
  new := fun b h => by
    have : w.heap.size + 1 ≤ b := by simpa using h
    simp only [Ghost.set]
    rw [if_neg (by omega)]
    exact hb b (by omega)

/-- The slots read as the environment. -/
structure TRep (G : Ghost) (w : World) (n : Nat) (tmps : Array Value) (T : Env) : Prop where
  size : n ≤ tmps.size
  get : ∀ i, Rep G w (tmps.getD i undef) (T i)

theorem TRep.step {n : Nat} {tmps : Array Value} {T : Env} (h : TRep G w n tmps T) (hst : Step G w G' w') : TRep G' w' n tmps T := ⟨h.size, fun i => (h.get i).step hst⟩

theorem TRep.put {n d : Nat} {tmps : Array Value} {T : Env} {v : Value} {x : AV} (h : TRep G w n tmps T) (hd : d < n) (hr : Rep G w v x) : TRep G w n (tmps.setIfInBounds d v) (upd T d x) := by
  refine ⟨by simpa using h.size, fun i => ?_⟩
  have hs := h.size
  rw [upd_eq]
  split
  · rename_i e
    subst e
    have : (tmps.setIfInBounds i v).getD i undef = v := by simp [Array.getD, show i < tmps.size by omega]
    rw [this]; exact hr
  · rename_i e
    have : (tmps.setIfInBounds d v).getD i undef = tmps.getD i undef := by
      simp only [Array.getD_eq_getD_getElem?]
      rw [Array.getElem?_setIfInBounds_ne (by omega)]
    rw [this]; exact h.get i

theorem TRep.setD {n : Nat} {d : Option Nat} {tmps : Array Value} {df : List Deferred} {T : Env} {v : Value} {x : AV} (h : TRep G w n tmps T) (hd : d.all (fun d => decide (d < n)) = true) (hr : Rep G w v x) :
    TRep G w n ((⟨tmps, df⟩ : Act).put d v).tmps (setD T d x) := by
  cases d with
  | none => exact h
  | some d => exact h.put (by simpa using hd) hr

theorem ofV0_rep {v : Value} {x : AV} (h : ofV0 v = some x) : Rep G w v x := by
  unfold ofV0 at h
  split at h <;> simp only [Option.some.injEq, reduceCtorEq] at h <;> subst h
  · exact .bool _
  · exact .int _ _
  · exact .flt _
  · exact .str _
  · exact .nilptr
  · exact .sl0 _ _ _ (fun _ => rfl) (fun _ e => by cases e)
  · exact .nilFunc
  · exact .nilIface

theorem ofVs_rep : ∀ {vs : List Value} {xs : List AV}, ofVs vs = some xs → vs.length = xs.length ∧ ∀ i (h1 : i < vs.length) (h2 : i < xs.length), Rep G w vs[i] xs[i]
  | [], xs, h => by
    simp only [ofVs, Option.some.injEq] at h
    subst h
    exact ⟨rfl, fun i h1 => absurd h1 (by simp)⟩
  | v :: vs, xs, h => by
    simp only [ofVs] at h
    split at h
    · rename_i x ys h1 h2
      simp only [Option.some.injEq] at h
      subst h
      obtain ⟨hl, hr⟩ := ofVs_rep h2
      refine ⟨by simp [hl], fun i h3 h4 => ?_⟩
      cases i with
      | zero => exact ofV0_rep h1
      | succ i => simpa using hr i (by simpa using h3) (by simpa using h4)
    · cases h

theorem ofV_rep {v : Value} {x : AV} (h : ofV v = some x) : Rep G w v x := by
  unfold ofV at h
  split at h
  · rename_i cs
    simp only [Option.map_eq_some_iff] at h
    obtain ⟨xs, h1, rfl⟩ := h
    obtain ⟨hl, hr⟩ := ofVs_rep (G := G) (w := w) h1
    exact .agg _ _ (by simpa using hl) fun i h1 h2 => by
      have := hr i (by simpa using h1) h2
      rwa [Array.getElem_toList] at this
  · exact ofV0_rep h

theorem cOpd_rep {n : Nat} {a : Act} {T : Env} {o : Operand} {x : Opd} (hT : TRep G w n a.tmps T) (h : cOpd o = some x) : Rep G w (a.eval o) (ev T x) := by
  cases o with
  | tmp t => simp only [cOpd, Option.some.injEq] at h; subst h; exact hT.get t
  | const v =>
    simp only [cOpd, Option.map_eq_some_iff] at h
    obtain ⟨y, h1, rfl⟩ := h
    exact ofV_rep h1
  | global g => simp [cOpd] at h
  | func f => simp only [cOpd, Option.some.injEq] at h; subst h; exact .func f #[] [] rfl fun i h1 => absurd h1 (by simp)

theorem cOpds_rep {n : Nat} {a : Act} {T : Env} (hT : TRep G w n a.tmps T) : ∀ {os : List Operand} {xs : List Opd}, cOpds os = some xs → os.length = xs.length ∧ ∀ i (h1 : i < os.length) (h2 : i < xs.length), Rep G w (a.eval os[i]) (ev T xs[i])
  | [], xs, h => by
    simp only [cOpds, Option.some.injEq] at h
    subst h
    exact ⟨rfl, fun i h1 => absurd h1 (by simp)⟩
  | o :: os, xs, h => by
    simp only [cOpds] at h
    split at h
    · rename_i x ys h1 h2
      simp only [Option.some.injEq] at h
      subst h
      obtain ⟨hl, hr⟩ := cOpds_rep hT h2
      refine ⟨by simp [hl], fun i h3 h4 => ?_⟩
      cases i with
      | zero => exact cOpd_rep hT h1
      | succ i => simpa using hr i (by simpa using h3) (by simpa using h4)
    · cases h

/-! ### Operators -/
theorem eqGuard_int {op : BinOp} {t : TypeId} {x y : Operand} {k k' : IntKind} {a b : Int} : (eqGuard op t x y (.int k a) (.int k' b)).run P w = .ok () w := by cases op <;> rfl
theorem eqGuard_flt {op : BinOp} {t : TypeId} {x y : Operand} {a b : Nat} : (eqGuard op t x y (.float .f64 a) (.float .f64 b)).run P w = .ok () w := by cases op <;> rfl
theorem eqGuard_str {op : BinOp} {t : TypeId} {x y : Operand} {a b : ByteArray} : (eqGuard op t x y (.string a) (.string b)).run P w = .ok () w := by cases op <;> rfl
theorem eqGuard_bool {op : BinOp} {t : TypeId} {x y : Operand} {a b : Bool} : (eqGuard op t x y (.bool a) (.bool b)).run P w = .ok () w := by cases op <;> rfl
theorem eqGuard_agg {op : BinOp} {t : TypeId} {x y : Operand} {a b : Array Value} (h : P.eqGuardType P.depth t = false) : (eqGuard op t x y (.agg a) (.agg b)).run P w = .ok () w := by
  cases op <;> first | rfl | simp [eqGuard, h]

theorem run_intBin {op : BinOp} {k : IntKind} {a b : Int} {z : AV} {t : TypeId} (h : intBin op k a b = some z) : ∃ r, (binOp op t (.int k a) (.int k b)).run P w = .ok r w ∧ Rep G w r z := by
  cases op <;> simp only [intBin, Option.some.injEq, reduceCtorEq] at h
  all_goals first
    | (subst h; exact ⟨_, by simp only [binOp, Op.intArith, Op.intCmp, Op.intBits, ne_eq, not_true, if_false, not_false_eq_true]; rfl, by first | exact .int _ _ | exact .bool _⟩)
    | (split at h
       · cases h
       · rename_i hb
         simp only [Option.some.injEq] at h
         subst h
         exact ⟨_, by simp only [binOp, Op.intDiv, ne_eq, not_true, if_false, not_false_eq_true, hb]; rfl, .int _ _⟩)

theorem run_intShift {op : BinOp} {k k' : IntKind} {a b : Int} {z : AV} {t : TypeId} (h : intShift op k a b = some z) : ∃ r, (binOp op t (.int k a) (.int k' b)).run P w = .ok r w ∧ Rep G w r z := by
  cases op <;> simp only [intShift, reduceCtorEq] at h
  all_goals
    split at h
    · cases h
    · rename_i hb
      simp only [Option.some.injEq] at h
      subst h
      exact ⟨_, by simp only [binOp, Op.shift, hb, if_false]; rfl, .int _ _⟩

theorem toList_mk (s : List UInt8) : (⟨s.toArray⟩ : ByteArray).toList = s := by
  exact ByteArray.toList_mk s

theorem run_strBin {op : BinOp} {a b : List UInt8} {z : AV} {t : TypeId} (h : strBin op a b = some z) : ∃ r, (binOp op t (.string ⟨a.toArray⟩) (.string ⟨b.toArray⟩)).run P w = .ok r w ∧ Rep G w r z := by
  have sa : (⟨a.toArray⟩ : ByteArray).size = a.length := by simp [ByteArray.size]
  have sb : (⟨b.toArray⟩ : ByteArray).size = b.length := by simp [ByteArray.size]
  cases op <;> simp only [strBin, reduceCtorEq] at h
  case add =>
    split at h
    · rename_i hle
      simp only [Option.some.injEq] at h
      subst h
      have hx : ¬ ((((⟨a.toArray⟩ : ByteArray).size + (⟨b.toArray⟩ : ByteArray).size : Nat) : Int) > IntKind.i64.max) := by
        rw [sa, sb]; have : IntKind.i64.max = 9223372036854775807 := by decide
        rw [this]; omega
      refine ⟨.string (⟨a.toArray⟩ ++ ⟨b.toArray⟩), by simp only [binOp, Op.stringOp, hx, if_false]; rfl, ?_⟩
      have e : ((⟨a.toArray⟩ : ByteArray) ++ ⟨b.toArray⟩) = ⟨(a ++ b).toArray⟩ := by
        apply ByteArray.ext; simp
      rw [e]; exact .str _
    · cases h
  all_goals
    simp only [Option.some.injEq] at h
    subst h
    exact ⟨_, by simp only [binOp, Op.stringOp, toList_mk]; rfl, .bool _⟩

theorem forced_nanBits (x y : Nat) : (Question.nanBits .f64 x y).forced = false := rfl
theorem nanBits_nan (x y t : Nat) : (FloatKind.f64.format.read ((Question.nanBits .f64 x y).cut t)).isNaN = true := by
  have hc : (Question.nanBits .f64 x y).cut t = (t % 2) * 2 ^ 63 + 0x7ff0000000000000 + 1 + (t / 2) % (2 ^ 52 - 1) := rfl
  rw [hc]
  have h1 : (t / 2) % (2 ^ 52 - 1) < 2 ^ 52 - 1 := Nat.mod_lt _ (by decide)
  have h2 : t % 2 < 2 := Nat.mod_lt _ (by decide)
  generalize (t / 2) % (2 ^ 52 - 1) = m at *
  generalize t % 2 = s at *
  have hw : FloatKind.f64.format.signWeight = 2 ^ 63 := by decide
  have hbn : FloatKind.f64.format.binade = 2 ^ 52 := by decide
  have hir : FloatKind.f64.format.infRung = 0x7ff0000000000000 := by decide
  unfold Ieee.Format.read
  simp only [hw, hbn, hir]
  have hr : (s * 2 ^ 63 + 0x7ff0000000000000 + 1 + m) % 2 ^ 63 = 0x7ff0000000000000 + 1 + m := by omega
  rw [hr]
  rw [if_neg (by omega), if_neg (by omega), if_neg (by omega)]
  rfl

theorem order_nan_l {a b : Nat} (h : (FloatKind.f64.format.read a).isNaN = true) : FloatKind.f64.format.order a b = none := by
  unfold Ieee.Format.order
  cases hd : FloatKind.f64.format.read a <;> rw [hd] at h <;> simp [Ieee.Datum.isNaN] at h
  rfl
theorem order_nan_r {a b : Nat} (h : (FloatKind.f64.format.read b).isNaN = true) : FloatKind.f64.format.order a b = none := by
  unfold Ieee.Format.order
  cases hd : FloatKind.f64.format.read b <;> rw [hd] at h <;> simp [Ieee.Datum.isNaN] at h
  cases FloatKind.f64.format.read a <;> rfl
theorem sum_nan_l {x y : Ieee.Datum} (h : x.isNaN = true) : x.sum y = none := by
  cases x <;> simp [Ieee.Datum.isNaN] at h
  rfl
theorem sum_nan_r {x y : Ieee.Datum} (h : y.isNaN = true) : x.sum y = none := by
  cases y <;> simp [Ieee.Datum.isNaN] at h
  cases x <;> rfl
theorem prod_nan_l {x y : Ieee.Datum} (h : x.isNaN = true) : x.product y = none := by
  cases x <;> simp [Ieee.Datum.isNaN] at h
  rfl
theorem prod_nan_r {x y : Ieee.Datum} (h : y.isNaN = true) : x.product y = none := by
  cases y <;> simp [Ieee.Datum.isNaN] at h
  cases x <;> rfl
theorem quo_nan_l {n : Nat} {x y : Ieee.Datum} (h : x.isNaN = true) : Ieee.Datum.quotient n x y = none := by
  cases x <;> simp [Ieee.Datum.isNaN] at h
  rfl
theorem quo_nan_r {n : Nat} {x y : Ieee.Datum} (h : y.isNaN = true) : Ieee.Datum.quotient n x y = none := by
  cases y <;> simp [Ieee.Datum.isNaN] at h
  cases x <;> rfl
theorem opp_nan {x : Ieee.Datum} (h : x.isNaN = true) : x.opposite.isNaN = true := by
  cases x <;> simp [Ieee.Datum.isNaN] at h
  rfl

/-- A float as it is told: its bits, or that it is no number. -/
inductive FRep : Nat → Option Nat → Prop
  | bits (b : Nat) : FRep b (some b)
  | nan (b : Nat) (h : (FloatKind.f64.format.read b).isNaN = true) : FRep b none

theorem run_arith (f : Nat → Nat → Option Nat) (op : BinOp) (a b : Nat) (hf : ∀ w : World, (Op.floatArith op .f64 a b).run P w = (match f a b with
      | some r => Result.ok (Value.float .f64 r) w
      | none => .ok (.float .f64 ((Question.nanBits .f64 a b).cut (w.tape w.drawn (.nanBits .f64 a b)))) w.drew))
    (hb : Base G w) {z : AV} (hz : (match f a b with | some r => AV.flt r | none => AV.nan) = z) : ∃ r w', (Op.floatArith op .f64 a b).run P w = .ok r w' ∧ Grow G w G w' ∧ Rep G w' r z := by
  rw [hf]
  subst hz
  cases f a b with
  | some r => exact ⟨_, _, rfl, .refl hb, .flt r⟩
  | none => exact ⟨_, _, rfl, .drew hb, .nan _ (nanBits_nan _ _ _)⟩

theorem run_floatArith (op : BinOp) (f : Nat → Nat → Option Nat) (hop : (op = .add ∧ f = FloatKind.f64.format.add) ∨ (op = .sub ∧ f = FloatKind.f64.format.sub) ∨ (op = .mul ∧ f = FloatKind.f64.format.mul) ∨ (op = .quo ∧ f = FloatKind.f64.format.div)) (a b : Nat) (w : World) :
    (Op.floatArith op .f64 a b).run P w = (match f a b with
      | some r => Result.ok (Value.float .f64 r) w
      | none => .ok (.float .f64 ((Question.nanBits .f64 a b).cut (w.tape w.drawn (.nanBits .f64 a b)))) w.drew) := by
  rcases hop with ⟨rfl, rfl⟩ | ⟨rfl, rfl⟩ | ⟨rfl, rfl⟩ | ⟨rfl, rfl⟩ <;> simp only [Op.floatArith, Sem.run_bind, Sem.run_pure, Result.andThen]
  · cases FloatKind.f64.format.add a b <;> first | rfl | (simp [forced_nanBits]; done)
  · cases FloatKind.f64.format.sub a b <;> first | rfl | (simp [forced_nanBits]; done)
  · cases FloatKind.f64.format.mul a b <;> first | rfl | (simp [forced_nanBits]; done)
  · cases FloatKind.f64.format.div a b <;> first | rfl | (simp [forced_nanBits]; done)

theorem fnone {a b : Nat} {x y : Option Nat} (hx : FRep a x) (hy : FRep b y) (hn : x = none ∨ y = none) :
    FloatKind.f64.format.order a b = none ∧ FloatKind.f64.format.add a b = none ∧ FloatKind.f64.format.sub a b = none ∧ FloatKind.f64.format.mul a b = none ∧ FloatKind.f64.format.div a b = none := by
  rcases hn with rfl | rfl
  · cases hx with
    | nan h => exact ⟨order_nan_l h, by simp [Ieee.Format.add, sum_nan_l h], by simp [Ieee.Format.sub, sum_nan_l h], by simp [Ieee.Format.mul, prod_nan_l h], by simp [Ieee.Format.div, quo_nan_l h]⟩
  · cases hy with
    | nan h => exact ⟨order_nan_r h, by simp [Ieee.Format.add, sum_nan_r h], by simp [Ieee.Format.sub, sum_nan_r (opp_nan h)], by simp [Ieee.Format.mul, prod_nan_r h], by simp [Ieee.Format.div, quo_nan_r h]⟩

theorem run_fltBin {op : BinOp} {a b : Nat} {x y : Option Nat} {z : AV} {t : TypeId} (hb : Base G w) (hx : FRep a x) (hy : FRep b y) (h : fltBin op x y = some z) :
    ∃ r w', (binOp op t (.float .f64 a) (.float .f64 b)).run P w = .ok r w' ∧ Grow G w G w' ∧ Rep G w' r z := by
  have ho : fltOrd x y = FloatKind.f64.format.order a b := by
    cases hx with
    | bits =>
      cases hy with
      | bits => rfl
      | nan hn => exact (order_nan_r hn).symm
    | nan hn => exact (order_nan_l hn).symm
  have ha : ∀ f : Nat → Nat → Option Nat, (x = none ∨ y = none → f a b = none) → fltAr f x y = some (match f a b with | some r => AV.flt r | none => AV.nan) := by
    intro f hf
    cases hx with
    | bits =>
      cases hy with
      | bits => show (match f a b with | some z => some (AV.flt z) | none => some AV.nan) = _; cases f a b <;> rfl
      | nan hn => rw [hf (.inr rfl)]; rfl
    | nan hn => rw [hf (.inl rfl)]; unfold fltAr; rfl
  have hn := fun hh => fnone hx hy hh
  cases op <;> simp only [fltBin, reduceCtorEq] at h
  case add =>
    rw [ha _ (fun hh => (hn hh).2.1)] at h
    obtain ⟨r, w', h1, h2, h3⟩ := run_arith (P := P) FloatKind.f64.format.add .add a b (run_floatArith .add _ (.inl ⟨rfl, rfl⟩) a b) hb (Option.some.inj h)
    exact ⟨r, w', by simp only [binOp]; exact h1, h2, h3⟩
  case sub =>
    rw [ha _ (fun hh => (hn hh).2.2.1)] at h
    obtain ⟨r, w', h1, h2, h3⟩ := run_arith (P := P) FloatKind.f64.format.sub .sub a b (run_floatArith .sub _ (.inr (.inl ⟨rfl, rfl⟩)) a b) hb (Option.some.inj h)
    exact ⟨r, w', by simp only [binOp]; exact h1, h2, h3⟩
  case mul =>
    rw [ha _ (fun hh => (hn hh).2.2.2.1)] at h
    obtain ⟨r, w', h1, h2, h3⟩ := run_arith (P := P) FloatKind.f64.format.mul .mul a b (run_floatArith .mul _ (.inr (.inr (.inl ⟨rfl, rfl⟩))) a b) hb (Option.some.inj h)
    exact ⟨r, w', by simp only [binOp]; exact h1, h2, h3⟩
  case quo =>
    rw [ha _ (fun hh => (hn hh).2.2.2.2)] at h
    obtain ⟨r, w', h1, h2, h3⟩ := run_arith (P := P) FloatKind.f64.format.div .quo a b (run_floatArith .quo _ (.inr (.inr (.inr ⟨rfl, rfl⟩))) a b) hb (Option.some.inj h)
    exact ⟨r, w', by simp only [binOp]; exact h1, h2, h3⟩
  all_goals
    rw [ho] at h
    simp only [Option.some.injEq] at h
    subst h
    exact ⟨_, w, by simp only [binOp, Op.floatCmp]; rfl, .refl hb, .bool _⟩


/-! ### '==' on structs of plain cells -/
def aggD : TypeDesc → Bool
  | .struct _ => true
  | .array _ _ => true
  | _ => false

theorem run_part_plain {t : TypeId} {d : TypeDesc} {us : Array Value} {o : Nat} {v : Value} (ht : P.underlying t = some d) (hd : aggD d = false) (h : us[o]? = some v) :
    (part t us o).run P w = .ok v w := by
  unfold part
  have : (isAgg t).run P w = .ok false w := by
    unfold isAgg
    cases d <;> first | (simp [run_underlying ht]; done) | (simp [aggD] at hd; done)
  simp [this, h]

theorem eqFields_run {us vs : Array Value} {X Y : List AV} {d : Nat} (hu : us.size = X.length) (hv : vs.size = Y.length)
    (hx : ∀ i (h1 : i < us.size) (h2 : i < X.length), Rep G w us[i] X[i]) (hy : ∀ i (h1 : i < vs.size) (h2 : i < Y.length), Rep G w vs[i] Y[i]) :
    ∀ (fs : List Field) (ks : List FK) (i : Nat) (b : Bool), kindsOf P i fs = some ks → eqCells ks (X.drop i) (Y.drop i) = some b → (Op.eqFields (d + 1) us vs fs).run P w = .ok b w := by
  intro fs
  induction fs with
  | nil =>
    intro ks i b hk h
    simp only [kindsOf, Option.some.injEq] at hk
    subst hk
    generalize X.drop i = X' at h
    generalize Y.drop i = Y' at h
    cases X' <;> cases Y' <;> simp only [eqCells, reduceCtorEq, Option.some.injEq] at h
    subst h; rfl
  | cons f fs ih =>
    intro ks i b hk h
    simp only [kindsOf] at hk
    split at hk
    · rename_i hf
      obtain ⟨ho, hn⟩ := hf
      have key : ∀ (k : FK) (ks' : List FK), kindsOf P (i + 1) fs = some ks' → eqCells (k :: ks') (X.drop i) (Y.drop i) = some b →
          (∃ dd, P.underlying f.type = some dd ∧ aggD dd = false) →
          (∀ x y u v c, Rep G w u x → Rep G w v y → eqLeaf k x y = some c → (Op.equalIn (d + 1) f.type u v).run P w = .ok c w) →
          (Op.eqFields (d + 1) us vs (f :: fs)).run P w = .ok b w := by
        intro k ks' hks h ⟨dd, hdd, hagg⟩ hleaf
        generalize hX : X.drop i = X' at h
        generalize hY : Y.drop i = Y' at h
        cases X' with
        | nil => simp [eqCells] at h
        | cons x xs =>
          cases Y' with
          | nil => simp [eqCells] at h
          | cons y ys =>
            simp only [eqCells] at h
            split at h
            · rename_i a c hl hr
              simp only [Option.some.injEq] at h
              subst h
              have hix : i < X.length := by
                rcases Nat.lt_or_ge i X.length with h' | h'
                · exact h'
                · rw [List.drop_eq_nil_of_le h'] at hX; cases hX
              have hiy : i < Y.length := by
                rcases Nat.lt_or_ge i Y.length with h' | h'
                · exact h'
                · rw [List.drop_eq_nil_of_le h'] at hY; cases hY
              rw [List.drop_eq_getElem_cons hix] at hX
              rw [List.drop_eq_getElem_cons hiy] at hY
              obtain ⟨e1, e2⟩ := List.cons.inj hX
              obtain ⟨e3, e4⟩ := List.cons.inj hY
              have r1 := run_part_plain (P := P) (w := w) (us := us) (o := f.offset) (v := us[i]'(by omega)) hdd hagg (by rw [ho]; exact Array.getElem?_eq_getElem _)
              have r2 := run_part_plain (P := P) (w := w) (us := vs) (o := f.offset) (v := vs[i]'(by omega)) hdd hagg (by rw [ho]; exact Array.getElem?_eq_getElem _)
              have r3 := hleaf x y _ _ a (e1 ▸ hx i (by omega) hix) (e3 ▸ hy i (by omega) hiy) hl
              have r4 := ih ks' (i + 1) c hks (by rw [e2, e4]; exact hr)
              simp only [Op.eqFields, ne_eq, hn, not_false_eq_true, if_true, Sem.run_bind, r1, r2, r3, Result.andThen_ok]
              cases a
              · simp
              · simpa using r4
            · cases h
      split at hk
      · rename_i kk ks' hu' hks
        simp only [Option.some.injEq] at hk
        subst hk
        refine key _ _ hks h ⟨_, hu', rfl⟩ fun x y u v c rx ry hl => ?_
        cases x <;> cases y <;> simp only [eqLeaf, reduceCtorEq] at hl
        split at hl
        · rename_i hkk
          simp only [Option.some.injEq] at hl
          subst hl; subst hkk
          cases rx; cases ry
          exact run_equalIn_int w d f.type _ _ _ _ hu'
        · cases hl
      · rename_i ks' hu' hks
        simp only [Option.some.injEq] at hk
        subst hk
        refine key _ _ hks h ⟨_, hu', rfl⟩ fun x y u v c rx ry hl => ?_
        cases x <;> cases y <;> simp only [eqLeaf, reduceCtorEq, Option.some.injEq] at hl
        subst hl
        cases rx; cases ry
        exact run_equalIn_bool' w d f.type _ _ hu'
      · rename_i ks' hu' hks
        simp only [Option.some.injEq] at hk
        subst hk
        refine key _ _ hks h ⟨_, hu', rfl⟩ fun x y u v c rx ry hl => ?_
        cases x <;> cases y <;> simp only [eqLeaf, reduceCtorEq, Option.some.injEq] at hl
        subst hl
        cases rx; cases ry
        rw [run_equalIn_string w d f.type _ _ hu', ByteArray.toList_mk, ByteArray.toList_mk]
      · cases hk
    · cases hk

theorem run_eqst {neg : Bool} {ks : List FK} {x y z : AV} {u v : Value} {t : TypeId} {ox oy : Operand} (hk : eqKinds P t = some ks) (hx : Rep G w u x) (hy : Rep G w v y) (h : eqstA neg ks x y = some z) :
    ∃ r, (do eqGuard (if neg then .neq else .eql) t ox oy u v; binOp (if neg then .neq else .eql) t u v : Sem Value).run P w = .ok r w ∧ Rep G w r z := by
  unfold eqstA at h
  split at h
  · rename_i xs ys
    split at h
    · rename_i b hb
      simp only [Option.some.injEq] at h
      subst h
      cases hx with
      | agg us _ hu hrx =>
      cases hy with
      | agg vs _ hv hry =>
      unfold eqKinds at hk
      split at hk
      · rename_i fs hfs
        split at hk
        · rename_i hp
          have hfo : P.fieldsOf t = fs := by simp [Program.fieldsOf, hfs]
          have e1 := eqFields_run (P := P) (d := 9998) hu hv hrx hry fs.toList ks 0 b hk (by simpa using hb)
          have e2 := run_equalIn_agg (P := P) w 9999 t us vs (by rw [hfo]; exact hfs) hp.1
          rw [hfo, e1] at e2
          refine ⟨.bool (if neg then !b else b), ?_, .bool _⟩
          cases neg
          · simp only [Sem.run_bind, Bool.false_eq_true, if_false, run_eqGuard_agg w _ t ox oy us vs hp.2, Result.andThen_ok, run_eql_struct, e2]
          · simp only [Sem.run_bind, if_true, run_eqGuard_agg w _ t ox oy us vs hp.2, Result.andThen_ok, run_neq_struct, e2]
        · cases hk
      · cases hk
    · cases h
  · cases h

end Go.Aa
