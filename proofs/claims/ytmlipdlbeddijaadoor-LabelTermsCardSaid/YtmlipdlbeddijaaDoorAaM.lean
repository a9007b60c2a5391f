/-
  WITHOUT FUEL: what a call comes to, if it comes to anything; the equations by which it is worked out.
-/
import Derived.Test.YtmlipdlbeddijaaDoorAaL
set_option linter.unusedVariables false
set_option linter.unusedSimpArgs false
namespace Go.Aa
open Go.RowKit

open Classical in
noncomputable def limOpt {α : Type} (p : Nat → Option α) : Option α := if h : ∃ r n, p n = some r then some (Classical.choose h) else none

theorem limOpt_iff {α : Type} {p : Nat → Option α} (hm : ∀ n m r, n ≤ m → p n = some r → p m = some r) {r : α} : limOpt p = some r ↔ ∃ n, p n = some r := by
  unfold limOpt
  constructor
  · intro h
    split at h
    · rename_i hex
      simp only [Option.some.injEq] at h
      rw [← h]
      exact Classical.choose_spec hex
    · cases h
  · rintro ⟨n, h⟩
    have hex : ∃ r n, p n = some r := ⟨r, n, h⟩
    rw [dif_pos hex]
    obtain ⟨m, hs⟩ := Classical.choose_spec hex
    have h1 := hm n (max n m) _ (Nat.le_max_left _ _) h
    have h2 := hm m (max n m) _ (Nat.le_max_right _ _) hs
    rw [h1] at h2
    exact h2.symm

noncomputable def lim (cfg : Cfg) : CallF := fun k xs H => limOpt fun n => callN cfg n k xs H
theorem lim_iff {cfg : Cfg} {k : Key} {xs : List AV} {H : Heap} {r : ARes × Heap} : lim cfg k xs H = some r ↔ ∃ n, callN cfg n k xs H = some r :=
  limOpt_iff fun n m r hnm h => callN_le cfg hnm _ _ _ _ h
theorem le_lim (cfg : Cfg) (n : Nat) : Le (callN cfg n) (lim cfg) := fun k xs H r h => lim_iff.2 ⟨n, h⟩

noncomputable def runL (cfg : Cfg) (A : AFunc) (k : List AIt) (T : Env) (H : Heap) : Option (ARes × Heap) := limOpt fun n => run (lim cfg) A n k T H
theorem runL_iff {cfg : Cfg} {A : AFunc} {k : List AIt} {T : Env} {H : Heap} {r : ARes × Heap} : runL cfg A k T H = some r ↔ ∃ n, run (lim cfg) A n k T H = some r :=
  limOpt_iff fun n m r hnm h => run_mono (.refl _) A n m k T H r hnm h

/-! ### With enough fuel -/
section
variable {cfg : Cfg}

theorem callE_lim {g : FuncId} {xs : List AV} {H : Heap} {out : Out} (h : callE (lim cfg) g xs H = some out) : ∃ n, callE (callN cfg n) g xs H = some out := by
  unfold callE at h
  split at h
  · rename_i v H' hc; obtain ⟨n, hn⟩ := lim_iff.1 hc; exact ⟨n, by unfold callE; rw [hn]; exact h⟩
  · rename_i v H' hc; obtain ⟨n, hn⟩ := lim_iff.1 hc; exact ⟨n, by unfold callE; rw [hn]; exact h⟩
  · cases h

theorem callV_lim {fv : AV} {xs : List AV} {H : Heap} {out : Out} (h : callV (lim cfg) fv xs H = some out) : ∃ n, callV (callN cfg n) fv xs H = some out := by
  unfold callV at h
  split at h
  · rename_i g caps
    split at h
    · rename_i hd
      split at h
      · rename_i v _ hc
        obtain ⟨n, hn⟩ := lim_iff.1 hc
        split at h
        · rename_i hdd; exact ⟨n, by unfold callV; simp only [hd, if_true, hn, hdd]; exact h⟩
        · rename_i hdd
          obtain ⟨m, hm⟩ := callE_lim h
          refine ⟨max n m, ?_⟩
          unfold callV
          simp only [hd, if_true, callN_le cfg (Nat.le_max_left n m) _ _ _ _ hn]
          rw [if_neg hdd]
          exact callE_mono (callN_le cfg (Nat.le_max_right n m)) hm
      · rename_i v _ hc
        obtain ⟨n, hn⟩ := lim_iff.1 hc
        exact ⟨n, by unfold callV; simp only [hd, if_true, hn]; exact h⟩
      · cases h
    · rename_i hd
      obtain ⟨m, hm⟩ := callE_lim h
      exact ⟨m, by unfold callV; simp only [hd, if_false]; exact hm⟩
  · split at h
    · rename_i v H' hc; obtain ⟨n, hn⟩ := lim_iff.1 hc; exact ⟨n, by unfold callV; simp only [hn]; exact h⟩
    · rename_i v H' hc; obtain ⟨n, hn⟩ := lim_iff.1 hc; exact ⟨n, by unfold callV; simp only [hn]; exact h⟩
    · cases h
  · cases h

theorem opStep_lim {op : AOp} {T : Env} {H : Heap} {out : Out} (h : opStep (lim cfg) op T H = some out) : ∃ n, opStep (callN cfg n) op T H = some out := by
  cases op with
  | call f xs => exact callV_lim h
  | _ => exact ⟨0, h⟩

theorem runOps_lim : ∀ {ops : List AOper} {T : Env} {H : Heap} {out : OutE}, runOps (lim cfg) ops T H = some out → ∃ n, runOps (callN cfg n) ops T H = some out
  | [], T, H, out, h => ⟨0, h⟩
  | o :: ops, T, H, out, h => by
    simp only [runOps] at h
    split at h
    · rename_i hw
      split at h
      · rename_i v H' ho
        obtain ⟨n, hn⟩ := opStep_lim ho
        obtain ⟨m, hm⟩ := runOps_lim h
        refine ⟨max n m, ?_⟩
        simp only [runOps, hw, opStep_mono (callN_le cfg (Nat.le_max_left n m)) hn]
        exact runOps_mono (callN_le cfg (Nat.le_max_right n m)) hm
      · rename_i v H' ho
        obtain ⟨n, hn⟩ := opStep_lim ho
        exact ⟨n, by simp only [runOps, hw, hn]; exact h⟩
      · cases h
    · rename_i hw
      obtain ⟨m, hm⟩ := runOps_lim h
      exact ⟨m, by simp only [runOps, hw]; exact hm⟩
    · cases h

theorem callD_lim {fv : AV} {xs : List AV} {H : Heap} {out : Out} (h : callD (lim cfg) fv xs H = some out) : ∃ n, callD (callN cfg n) fv xs H = some out := by
  unfold callD at h
  split at h
  · split at h
    · rename_i hd
      split at h
      · rename_i v _ hc; obtain ⟨n, hn⟩ := lim_iff.1 hc; exact ⟨n, by unfold callD; simp only [hd, if_true, hn]; exact h⟩
      · rename_i v _ hc; obtain ⟨n, hn⟩ := lim_iff.1 hc; exact ⟨n, by unfold callD; simp only [hd, if_true, hn]; exact h⟩
      · cases h
    · cases h
  · cases h

theorem opStepD_lim {op : AOp} {T : Env} {H : Heap} {out : Out} (h : opStepD (lim cfg) op T H = some out) : ∃ n, opStepD (callN cfg n) op T H = some out := by
  cases op with
  | call f xs => exact callD_lim h
  | _ => exact ⟨0, h⟩

theorem runD_lim : ∀ {ops : List AOper} {i : Nat} {p : Option (Nat × AV)} {T : Env} {H : Heap} {out : OutE}, runD (lim cfg) i ops p T H = some out → ∃ n, runD (callN cfg n) i ops p T H = some out
  | [], i, none, T, H, out, h => ⟨0, h⟩
  | [], i, some _, T, H, out, h => ⟨0, h⟩
  | o :: ops, i, none, T, H, out, h => by
    simp only [runD] at h
    split at h
    · rename_i hw
      split at h
      · rename_i v H' ho
        obtain ⟨n, hn⟩ := opStepD_lim ho
        obtain ⟨m, hm⟩ := runD_lim h
        refine ⟨max n m, ?_⟩
        simp only [runD, hw, opStepD_mono (callN_le cfg (Nat.le_max_left n m)) hn]
        exact runD_mono (callN_le cfg (Nat.le_max_right n m)) hm
      · rename_i v H' ho
        obtain ⟨n, hn⟩ := opStepD_lim ho
        obtain ⟨m, hm⟩ := runD_lim h
        refine ⟨max n m, ?_⟩
        simp only [runD, hw, opStepD_mono (callN_le cfg (Nat.le_max_left n m)) hn]
        exact runD_mono (callN_le cfg (Nat.le_max_right n m)) hm
      · cases h
    · rename_i hw
      obtain ⟨m, hm⟩ := runD_lim h
      exact ⟨m, by simp only [runD, hw]; exact hm⟩
    · cases h
  | o :: ops, i, some (p, x), T, H, out, h => by
    simp only [runD] at h
    split at h
    · rename_i hd
      obtain ⟨m, hm⟩ := runD_lim h
      exact ⟨m, by simp only [runD, hd, if_true]; exact hm⟩
    · rename_i hd
      split at h
      · rename_i hw
        split at h
        · rename_i v H' ho
          obtain ⟨n, hn⟩ := opStepD_lim ho
          obtain ⟨m, hm⟩ := runD_lim h
          refine ⟨max n m, ?_⟩
          simp only [runD, hd, if_false, hw, opStepD_mono (callN_le cfg (Nat.le_max_left n m)) hn]
          exact runD_mono (callN_le cfg (Nat.le_max_right n m)) hm
        · cases h
      · rename_i hw
        obtain ⟨m, hm⟩ := runD_lim h
        exact ⟨m, by simp only [runD, hd, if_false, hw]; exact hm⟩
      · cases h

theorem regionA_lim {d : Bool} {ops : List AOper} {T : Env} {H : Heap} {out : OutE} (h : regionA (lim cfg) d ops T H = some out) : ∃ n, regionA (callN cfg n) d ops T H = some out := by
  cases d with
  | true => exact runD_lim h
  | false => exact runOps_lim h

theorem rangeA_lim {fv A T ps a b H r} (h : rangeA (lim cfg) fv A T ps a b H = some r) : ∃ n, rangeA (callN cfg n) fv A T ps a b H = some r := by
  obtain ⟨g, caps, rfl, ⟨v, H3, H4, h1, h2, rfl⟩ | ⟨v, H3, H4, h1, h2, h3, rfl⟩⟩ := rangeA_inv h
  · obtain ⟨n, hn⟩ := callV_lim h1; exact ⟨n, rangeA_val hn h2⟩
  · obtain ⟨n, hn⟩ := callV_lim h1; exact ⟨n, rangeA_pan hn h2 h3⟩

theorem run_lim {A : AFunc} : ∀ (n : Nat) (k : List AIt) (T : Env) (H : Heap) (r : ARes × Heap), run (lim cfg) A n k T H = some r → ∃ m, run (callN cfg m) A m k T H = some r := by
  intro n
  induction n with
  | zero => intro k T H r e; cases k <;> simp [run] at e
  | succ n ih =>
    intro k T H r e
    -- one step, and what is behind it
    have step : ∀ k' T' H', run (lim cfg) A n k' T' H' = some r → (∀ m, run (callN cfg m) A m k' T' H' = some r → ∃ j, m ≤ j ∧ run (callN cfg j) A (j + 1) k T H = some r) → ∃ m, run (callN cfg m) A m k T H = some r := by
      intro k' T' H' h1 h2
      obtain ⟨m, hm⟩ := ih _ _ _ _ h1
      obtain ⟨j, _, hj⟩ := h2 m hm
      exact ⟨j + 1, run_mono (callN_mono cfg j) A _ _ _ _ _ _ (Nat.le_refl _) hj⟩
    cases k with
    | nil => exact ⟨1, e⟩
    | cons it k =>
      cases it with
      | blk id => exact step _ _ _ e fun m hm => ⟨m, Nat.le_refl _, hm⟩
      | lp b => exact step _ _ _ e fun m hm => ⟨m, Nat.le_refl _, hm⟩
      | beg l =>
        simp only [run] at e
        split at e
        · rename_i r0 hr0
          split at e
          · cases e
          · rename_i hb
            exact step _ _ _ e fun m hm => ⟨m, Nat.le_refl _, by simp only [run, hr0, hb, Bool.false_eq_true, if_false]; exact hm⟩
        · cases e
      | c c0 =>
        cases c0 with
        | skip => exact step _ _ _ e fun m hm => ⟨m, Nat.le_refl _, hm⟩
        | seq a b => exact step _ _ _ e fun m hm => ⟨m, Nat.le_refl _, hm⟩
        | cond x a b =>
          simp only [run] at e
          split at e
          · rename_i t ht
            exact step _ _ _ e fun m hm => ⟨m, Nat.le_refl _, by simp only [run, ht]; exact hm⟩
          · cases e
        | block id b => exact step _ _ _ e fun m hm => ⟨m, Nat.le_refl _, hm⟩
        | loop b => exact step _ _ _ e fun m hm => ⟨m, Nat.le_refl _, hm⟩
        | exit id =>
          simp only [run] at e
          split at e
          · rename_i k' hk'
            exact step _ _ _ e fun m hm => ⟨m, Nat.le_refl _, by simp only [run, hk']; exact hm⟩
          · cases e
        | ret => exact ⟨1, e⟩
        | region ops d =>
          simp only [run] at e
          split at e
          · rename_i T' H' hr
            obtain ⟨q, hq⟩ := regionA_lim hr
            refine step _ _ _ e fun m hm => ⟨max m q, Nat.le_max_left _ _, ?_⟩
            simp only [run, regionA_mono (callN_le cfg (Nat.le_max_right m q)) hq]
            exact run_mono (callN_le cfg (Nat.le_max_left m q)) A _ _ _ _ _ _ (Nat.le_max_left m q) hm
          · rename_i v H' hr
            obtain ⟨q, hq⟩ := regionA_lim hr
            refine ⟨q + 1, ?_⟩
            simp only [run, regionA_mono (callN_mono cfg q) hq]
            exact e
          · cases e
        | range f ps a b =>
          simp only [run] at e
          split at e
          · cases e
          · rename_i hro
            split at e
            · rename_i H' hr
              obtain ⟨q, hq⟩ := rangeA_lim hr
              refine step _ _ _ e fun m hm => ⟨max m q, Nat.le_max_left _ _, ?_⟩
              simp only [run, hro, rangeA_mono (callN_le cfg (Nat.le_max_right m q)) hq]
              exact run_mono (callN_le cfg (Nat.le_max_left m q)) A _ _ _ _ _ _ (Nat.le_max_left m q) hm
            · rename_i v H' hr
              obtain ⟨q, hq⟩ := rangeA_lim hr
              refine ⟨q + 1, ?_⟩
              simp only [run, hro, rangeA_mono (callN_mono cfg q) hq]
              exact e
            · cases e

/-! ### The equations -/
theorem opt_ext {α : Type} {x y : Option α} (h : ∀ r, x = some r ↔ y = some r) : x = y := by
  cases x with
  | some a => exact ((h a).1 rfl).symm
  | none =>
    cases y with
    | none => rfl
    | some b => exact (h b).2 rfl

theorem lim_fn {f : FuncId} {A : AFunc} (ht : cfg.tryF f = false) (hx : cfg.ext f = none) (hA : cfg.F f = some A) (xs : List AV) (H : Heap) : lim cfg (.fn f) xs H = runL cfg A [.c A.body] (initEnv xs) H := by
  refine opt_ext fun r => ?_
  rw [lim_iff, runL_iff]
  constructor
  · rintro ⟨n, h⟩
    cases n with
    | zero => simp [callN] at h
    | succ n =>
      rw [callN] at h
      simp only [ht, Bool.false_eq_true, if_false, hx, hA] at h
      exact ⟨n, run_mono (le_lim cfg n) A _ _ _ _ _ _ (Nat.le_refl _) h⟩
  · rintro ⟨n, h⟩
    obtain ⟨m, hm⟩ := run_lim _ _ _ _ _ h
    refine ⟨m + 1, ?_⟩
    rw [callN]
    simp only [ht, Bool.false_eq_true, if_false, hx, hA]
    exact hm

theorem lim_ext {f : FuncId} {g : List AV → Heap → Option (AV × Heap)} (ht : cfg.tryF f = false) (hx : cfg.ext f = some g) (xs : List AV) (H : Heap) : lim cfg (.fn f) xs H = (g xs H).map fun r => (.ret r.1, r.2) := by
  refine opt_ext fun r => ?_
  rw [lim_iff]
  constructor
  · rintro ⟨n, h⟩
    cases n with
    | zero => simp [callN] at h
    | succ n =>
      rw [callN] at h
      simp only [ht, Bool.false_eq_true, if_false, hx] at h
      cases hg : g xs H with
      | none => rw [hg] at h; cases h
      | some x => rw [hg] at h; simpa using h
  · intro h
    refine ⟨1, ?_⟩
    rw [callN]
    simp only [ht, Bool.false_eq_true, if_false, hx]
    cases hg : g xs H with
    | none => rw [hg] at h; cases h
    | some x => rw [hg] at h; simpa using h

theorem lim_of {n : Nat} {k : Key} {xs : List AV} {H : Heap} {r : ARes × Heap} (h : callN cfg n k xs H = some r) : lim cfg k xs H = some r := lim_iff.2 ⟨n, h⟩

variable {A : AFunc} {k : List AIt} {T : Env} {H : Heap}
theorem runL_step {it : AIt} {k' : List AIt} {T' : Env} {H' : Heap} (h : ∀ n, run (lim cfg) A (n + 1) (it :: k) T H = run (lim cfg) A n k' T' H') : runL cfg A (it :: k) T H = runL cfg A k' T' H' := by
  refine opt_ext fun r => ?_
  rw [runL_iff, runL_iff]
  constructor
  · rintro ⟨n, e⟩
    cases n with
    | zero => simp [run] at e
    | succ n => exact ⟨n, by rw [← h]; exact e⟩
  · rintro ⟨n, e⟩
    exact ⟨n + 1, by rw [h]; exact e⟩
theorem runL_now {ks : List AIt} {x : Option (ARes × Heap)} (h : ∀ n, run (lim cfg) A (n + 1) ks T H = x) : runL cfg A ks T H = x := by
  refine opt_ext fun r => ?_
  rw [runL_iff]
  constructor
  · rintro ⟨n, e⟩
    cases n with
    | zero => cases ks <;> simp [run] at e
    | succ n => rw [h] at e; exact e
  · intro e; exact ⟨1, by rw [h]; exact e⟩

theorem runL_nil : runL cfg A [] T H = retA A T H := runL_now fun n => rfl
theorem runL_blk {id : Nat} : runL cfg A (.blk id :: k) T H = runL cfg A k T H := runL_step fun n => rfl
theorem runL_lp {b : ACode} : runL cfg A (.lp b :: k) T H = runL cfg A (.c b :: .lp b :: k) T H := runL_step fun n => rfl
theorem runL_skip : runL cfg A (.c .skip :: k) T H = runL cfg A k T H := runL_step fun n => rfl
theorem runL_seq {a b : ACode} : runL cfg A (.c (.seq a b) :: k) T H = runL cfg A (.c a :: .c b :: k) T H := runL_step fun n => rfl
theorem runL_block {id : Nat} {b : ACode} : runL cfg A (.c (.block id b) :: k) T H = runL cfg A (.c b :: .blk id :: k) T H := runL_step fun n => rfl
theorem runL_loop {b : ACode} : runL cfg A (.c (.loop b) :: k) T H = runL cfg A (.lp b :: k) T H := by
  rw [runL_lp]; exact runL_step fun n => rfl
theorem runL_ret : runL cfg A (.c .ret :: k) T H = if A.round then none else retA A T H := runL_now fun n => rfl
theorem runL_cond {x : Opd} {a b : ACode} : runL cfg A (.c (.cond x a b) :: k) T H = match ev T x with | .bool t => runL cfg A (.c (if t then a else b) :: k) T H | _ => none := by
  cases hx : ev T x with
  | bool t => exact runL_step fun n => by simp only [run, hx]
  | _ => exact runL_now fun n => by simp only [run, hx]
theorem runL_exit {id : Nat} : runL cfg A (.c (.exit id) :: k) T H = match exitA id k with | some k' => runL cfg A k' T H | none => none := by
  cases hx : exitA id k with
  | some k' => exact runL_step fun n => by simp only [run, hx]
  | none => exact runL_now fun n => by simp only [run, hx]
theorem runL_region {ops : List AOper} {d : Bool} : runL cfg A (.c (.region ops d) :: k) T H = match regionA (lim cfg) d ops T H with | some (.env T' H') => runL cfg A k T' H' | some (.pan v H') => some (.pan v, H') | none => none := by
  cases hx : regionA (lim cfg) d ops T H with
  | none => exact runL_now fun n => by simp only [run, hx]
  | some o =>
    cases o with
    | env T' H' => exact runL_step fun n => by simp only [run, hx]
    | pan v H' => exact runL_now fun n => by simp only [run, hx]
end

/-! ### The conditional ones, by Booleans -/
theorem callV_func {call : CallF} {g : FuncId} {caps args : List AV} {H : Heap} : callV call (.func g caps) args H = bif (args.all isData && caps.all data0) then (match call (.fn g) (args ++ caps) Heap.nil with
    | some (.ret v, _) => bif isData (shutA v) then some (.val (shutA v) H) else callE call g (args ++ caps) H
    | some (.pan v, _) => bif isData v then some (.pan v H) else none
    | none => none) else callE call g (args ++ caps) H := by
  simp only [callV]
  cases (args.all isData && caps.all data0) with
  | false => rfl
  | true =>
    simp only [if_true, cond_true]
    cases call (.fn g) (args ++ caps) Heap.nil with
    | none => rfl
    | some r =>
      obtain ⟨r1, r2⟩ := r
      cases r1 with
      | ret v => simp only; cases isData (shutA v) <;> rfl
      | pan v => simp only; cases isData v <;> rfl
theorem callD_func {call : CallF} {g : FuncId} {caps args : List AV} {H : Heap} : callD call (.func g caps) args H = bif (args.all isData && caps.all data0) then (match call (.fn g) (args ++ caps) Heap.nil with
    | some (.ret v, _) => bif isData (shutA v) then some (.val (shutA v) H) else none
    | some (.pan v, _) => bif isData v then some (.pan v H) else none
    | none => none) else none := by
  simp only [callD]
  cases (args.all isData && caps.all data0) with
  | false => rfl
  | true =>
    simp only [if_true, cond_true]
    cases call (.fn g) (args ++ caps) Heap.nil with
    | none => rfl
    | some r =>
      obtain ⟨r1, r2⟩ := r
      cases r1 with
      | ret v => simp only; cases isData (shutA v) <;> rfl
      | pan v => simp only; cases isData v <;> rfl
theorem binA_add (k : IntKind) (a b : Int) : binA .add (.int k a) (.int k b) = some (.int k (k.wrap (a + b))) := by simp [binA, intBin]
theorem binA_sub (k : IntKind) (a b : Int) : binA .sub (.int k a) (.int k b) = some (.int k (k.wrap (a - b))) := by simp [binA, intBin]
theorem binA_mul (k : IntKind) (a b : Int) : binA .mul (.int k a) (.int k b) = some (.int k (k.wrap (a * b))) := by simp [binA, intBin]
theorem binA_eql (k : IntKind) (a b : Int) : binA .eql (.int k a) (.int k b) = some (.bool (a == b)) := by simp [binA, intBin]
theorem binA_neq (k : IntKind) (a b : Int) : binA .neq (.int k a) (.int k b) = some (.bool (a != b)) := by simp [binA, intBin]
theorem binA_lss (k : IntKind) (a b : Int) : binA .lss (.int k a) (.int k b) = some (.bool (decide (a < b))) := by simp [binA, intBin]
theorem binA_leq (k : IntKind) (a b : Int) : binA .leq (.int k a) (.int k b) = some (.bool (decide (a ≤ b))) := by simp [binA, intBin]
theorem binA_gtr (k : IntKind) (a b : Int) : binA .gtr (.int k a) (.int k b) = some (.bool (decide (b < a))) := by simp [binA, intBin]
theorem binA_geq (k : IntKind) (a b : Int) : binA .geq (.int k a) (.int k b) = some (.bool (decide (b ≤ a))) := by simp [binA, intBin]
theorem binA_and (k : IntKind) (a b : Int) : binA .and (.int k a) (.int k b) = some (.int k (k.wrap (BitVec.ofInt k.bits a &&& BitVec.ofInt k.bits b).toNat)) := by simp [binA, intBin]
theorem binA_or (k : IntKind) (a b : Int) : binA .or (.int k a) (.int k b) = some (.int k (k.wrap (BitVec.ofInt k.bits a ||| BitVec.ofInt k.bits b).toNat)) := by simp [binA, intBin]
theorem binA_xor (k : IntKind) (a b : Int) : binA .xor (.int k a) (.int k b) = some (.int k (k.wrap (BitVec.ofInt k.bits a ^^^ BitVec.ofInt k.bits b).toNat)) := by simp [binA, intBin]
theorem binA_andNot (k : IntKind) (a b : Int) : binA .andNot (.int k a) (.int k b) = some (.int k (k.wrap (BitVec.ofInt k.bits a &&& ~~~BitVec.ofInt k.bits b).toNat)) := by simp [binA, intBin]
theorem binA_quo (k : IntKind) (a b : Int) : binA .quo (.int k a) (.int k b) = if b = 0 then none else some (.int k (k.wrap (a.tdiv b))) := by simp [binA, intBin]
theorem binA_rem (k : IntKind) (a b : Int) : binA .rem (.int k a) (.int k b) = if b = 0 then none else some (.int k (a.tmod b)) := by simp [binA, intBin]

/-! ### Shapes -/
theorem shut1_undef  : shut1 .undef = .undef := rfl
theorem shut1_bool (b : Bool) : shut1 (.bool b) = (.bool b) := rfl
theorem shut1_int (k : IntKind) (n : Int) : shut1 (.int k n) = (.int k n) := rfl
theorem shut1_flt (n : Nat) : shut1 (.flt n) = (.flt n) := rfl
theorem shut1_nan  : shut1 .nan = .nan := rfl
theorem shut1_str (s : List UInt8) : shut1 (.str s) = (.str s) := rfl
theorem shut1_slsh (l : List AV) : shut1 (.sl .sh l) = (.sl .sh l) := rfl
theorem shut1_nilptr  : shut1 .nilptr = .nilptr := rfl
theorem shut1_nilFunc  : shut1 .nilFunc = .nilFunc := rfl
theorem shut1_nilIface  : shut1 .nilIface = .nilIface := rfl
theorem shut1_ref (cs : List AV) : shut1 (.ref cs) = (.ref cs) := rfl
theorem shut1_ptr (k o : Nat) : shut1 (.ptr k o) = (.ptr k o) := rfl
theorem shut1_msl (k o n : Nat) : shut1 (.msl k o n) = (.msl k o n) := rfl
theorem shut1_func (f : FuncId) (cs : List AV) : shut1 (.func f cs) = (.func f cs) := rfl
theorem shut1_iface (t : TypeId) (v : AV) : shut1 (.iface t v) = (.iface t v) := rfl
theorem shut1_yield (l : Nat) : shut1 (.yield l) = (.yield l) := rfl
theorem shut1_slfull (l : List AV) : shut1 (.sl .full l) = .sl .sh l := rfl
theorem shut1_slown (t : Nat) (l : List AV) : shut1 (.sl (.own t) l) = .sl .sh l := rfl
theorem shut2_undef  : shut2 .undef = .undef := rfl
theorem shut2_bool (b : Bool) : shut2 (.bool b) = (.bool b) := rfl
theorem shut2_int (k : IntKind) (n : Int) : shut2 (.int k n) = (.int k n) := rfl
theorem shut2_flt (n : Nat) : shut2 (.flt n) = (.flt n) := rfl
theorem shut2_nan  : shut2 .nan = .nan := rfl
theorem shut2_str (s : List UInt8) : shut2 (.str s) = (.str s) := rfl
theorem shut2_slsh (l : List AV) : shut2 (.sl .sh l) = (.sl .sh l) := rfl
theorem shut2_nilptr  : shut2 .nilptr = .nilptr := rfl
theorem shut2_nilFunc  : shut2 .nilFunc = .nilFunc := rfl
theorem shut2_nilIface  : shut2 .nilIface = .nilIface := rfl
theorem shut2_ref (cs : List AV) : shut2 (.ref cs) = (.ref cs) := rfl
theorem shut2_ptr (k o : Nat) : shut2 (.ptr k o) = (.ptr k o) := rfl
theorem shut2_msl (k o n : Nat) : shut2 (.msl k o n) = (.msl k o n) := rfl
theorem shut2_func (f : FuncId) (cs : List AV) : shut2 (.func f cs) = (.func f cs) := rfl
theorem shut2_iface (t : TypeId) (v : AV) : shut2 (.iface t v) = (.iface t v) := rfl
theorem shut2_yield (l : Nat) : shut2 (.yield l) = (.yield l) := rfl
theorem shut2_slfull (l : List AV) : shut2 (.sl .full l) = .sl .sh l := rfl
theorem shut2_slown (t : Nat) (l : List AV) : shut2 (.sl (.own t) l) = .sl .sh l := rfl
theorem shutA_undef  : shutA .undef = .undef := rfl
theorem shutA_bool (b : Bool) : shutA (.bool b) = (.bool b) := rfl
theorem shutA_int (k : IntKind) (n : Int) : shutA (.int k n) = (.int k n) := rfl
theorem shutA_flt (n : Nat) : shutA (.flt n) = (.flt n) := rfl
theorem shutA_nan  : shutA .nan = .nan := rfl
theorem shutA_str (s : List UInt8) : shutA (.str s) = (.str s) := rfl
theorem shutA_slsh (l : List AV) : shutA (.sl .sh l) = (.sl .sh l) := rfl
theorem shutA_nilptr  : shutA .nilptr = .nilptr := rfl
theorem shutA_nilFunc  : shutA .nilFunc = .nilFunc := rfl
theorem shutA_nilIface  : shutA .nilIface = .nilIface := rfl
theorem shutA_ref (cs : List AV) : shutA (.ref cs) = (.ref cs) := rfl
theorem shutA_ptr (k o : Nat) : shutA (.ptr k o) = (.ptr k o) := rfl
theorem shutA_msl (k o n : Nat) : shutA (.msl k o n) = (.msl k o n) := rfl
theorem shutA_func (f : FuncId) (cs : List AV) : shutA (.func f cs) = (.func f cs) := rfl
theorem shutA_iface (t : TypeId) (v : AV) : shutA (.iface t v) = (.iface t v) := rfl
theorem shutA_yield (l : Nat) : shutA (.yield l) = (.yield l) := rfl
theorem shutA_slfull (l : List AV) : shutA (.sl .full l) = .sl .sh l := rfl
theorem shutA_slown (t : Nat) (l : List AV) : shutA (.sl (.own t) l) = .sl .sh l := rfl
theorem shut2_agg (cs : List AV) : shut2 (.agg cs) = .agg (cs.map shut1) := rfl
theorem shutA_agg (cs : List AV) : shutA (.agg cs) = .agg (cs.map shut1) := rfl
theorem shutA_tuple (cs : List AV) : shutA (.tuple cs) = .tuple (cs.map shut2) := rfl
theorem data0_undef  : data0 .undef = false := rfl
theorem data0_bool (b : Bool) : data0 (.bool b) = true := rfl
theorem data0_int (k : IntKind) (n : Int) : data0 (.int k n) = true := rfl
theorem data0_flt (n : Nat) : data0 (.flt n) = true := rfl
theorem data0_nan  : data0 .nan = true := rfl
theorem data0_str (s : List UInt8) : data0 (.str s) = true := rfl
theorem data0_slsh (l : List AV) : data0 (.sl .sh l) = true := rfl
theorem data0_nilptr  : data0 .nilptr = true := rfl
theorem data0_nilFunc  : data0 .nilFunc = true := rfl
theorem data0_nilIface  : data0 .nilIface = true := rfl
theorem data0_ref (cs : List AV) : data0 (.ref cs) = true := rfl
theorem data0_ptr (k o : Nat) : data0 (.ptr k o) = false := rfl
theorem data0_msl (k o n : Nat) : data0 (.msl k o n) = false := rfl
theorem data0_func (f : FuncId) (cs : List AV) : data0 (.func f cs) = false := rfl
theorem data0_iface (t : TypeId) (v : AV) : data0 (.iface t v) = false := rfl
theorem data0_yield (l : Nat) : data0 (.yield l) = false := rfl
theorem data0_slfull (l : List AV) : data0 (.sl .full l) = true := rfl
theorem data0_slown (t : Nat) (l : List AV) : data0 (.sl (.own t) l) = false := rfl
theorem data0_agg (cs : List AV) : data0 (.agg cs) = false := rfl
theorem data1_undef  : data1 .undef = false := rfl
theorem data1_bool (b : Bool) : data1 (.bool b) = true := rfl
theorem data1_int (k : IntKind) (n : Int) : data1 (.int k n) = true := rfl
theorem data1_flt (n : Nat) : data1 (.flt n) = true := rfl
theorem data1_nan  : data1 .nan = true := rfl
theorem data1_str (s : List UInt8) : data1 (.str s) = true := rfl
theorem data1_slsh (l : List AV) : data1 (.sl .sh l) = true := rfl
theorem data1_nilptr  : data1 .nilptr = true := rfl
theorem data1_nilFunc  : data1 .nilFunc = true := rfl
theorem data1_nilIface  : data1 .nilIface = true := rfl
theorem data1_ref (cs : List AV) : data1 (.ref cs) = true := rfl
theorem data1_ptr (k o : Nat) : data1 (.ptr k o) = false := rfl
theorem data1_msl (k o n : Nat) : data1 (.msl k o n) = false := rfl
theorem data1_func (f : FuncId) (cs : List AV) : data1 (.func f cs) = cs.all data0 := rfl
theorem data1_iface (t : TypeId) (v : AV) : data1 (.iface t v) = false := rfl
theorem data1_yield (l : Nat) : data1 (.yield l) = false := rfl
theorem data1_slfull (l : List AV) : data1 (.sl .full l) = true := rfl
theorem data1_slown (t : Nat) (l : List AV) : data1 (.sl (.own t) l) = false := rfl
theorem data1_agg (cs : List AV) : data1 (.agg cs) = cs.all data0 := rfl
theorem data2_undef  : data2 .undef = false := rfl
theorem data2_bool (b : Bool) : data2 (.bool b) = true := rfl
theorem data2_int (k : IntKind) (n : Int) : data2 (.int k n) = true := rfl
theorem data2_flt (n : Nat) : data2 (.flt n) = true := rfl
theorem data2_nan  : data2 .nan = true := rfl
theorem data2_str (s : List UInt8) : data2 (.str s) = true := rfl
theorem data2_slsh (l : List AV) : data2 (.sl .sh l) = true := rfl
theorem data2_nilptr  : data2 .nilptr = true := rfl
theorem data2_nilFunc  : data2 .nilFunc = true := rfl
theorem data2_nilIface  : data2 .nilIface = true := rfl
theorem data2_ref (cs : List AV) : data2 (.ref cs) = true := rfl
theorem data2_ptr (k o : Nat) : data2 (.ptr k o) = false := rfl
theorem data2_msl (k o n : Nat) : data2 (.msl k o n) = false := rfl
theorem data2_func (f : FuncId) (cs : List AV) : data2 (.func f cs) = cs.all data0 := rfl
theorem data2_iface (t : TypeId) (v : AV) : data2 (.iface t v) = data1 v := rfl
theorem data2_yield (l : Nat) : data2 (.yield l) = false := rfl
theorem data2_slfull (l : List AV) : data2 (.sl .full l) = true := rfl
theorem data2_slown (t : Nat) (l : List AV) : data2 (.sl (.own t) l) = false := rfl
theorem data2_agg (cs : List AV) : data2 (.agg cs) = cs.all data0 := rfl
theorem isData_undef  : isData .undef = false := rfl
theorem isData_bool (b : Bool) : isData (.bool b) = true := rfl
theorem isData_int (k : IntKind) (n : Int) : isData (.int k n) = true := rfl
theorem isData_flt (n : Nat) : isData (.flt n) = true := rfl
theorem isData_nan  : isData .nan = true := rfl
theorem isData_str (s : List UInt8) : isData (.str s) = true := rfl
theorem isData_slsh (l : List AV) : isData (.sl .sh l) = true := rfl
theorem isData_nilptr  : isData .nilptr = true := rfl
theorem isData_nilFunc  : isData .nilFunc = true := rfl
theorem isData_nilIface  : isData .nilIface = true := rfl
theorem isData_ref (cs : List AV) : isData (.ref cs) = true := rfl
theorem isData_ptr (k o : Nat) : isData (.ptr k o) = false := rfl
theorem isData_msl (k o n : Nat) : isData (.msl k o n) = false := rfl
theorem isData_func (f : FuncId) (cs : List AV) : isData (.func f cs) = cs.all data0 := rfl
theorem isData_iface (t : TypeId) (v : AV) : isData (.iface t v) = data1 v := rfl
theorem isData_yield (l : Nat) : isData (.yield l) = false := rfl
theorem isData_slfull (l : List AV) : isData (.sl .full l) = true := rfl
theorem isData_slown (t : Nat) (l : List AV) : isData (.sl (.own t) l) = false := rfl
theorem isData_agg (cs : List AV) : isData (.agg cs) = cs.all data0 := rfl
theorem isData_tuple (cs : List AV) : isData (.tuple cs) = cs.all data2 := rfl

end Go.Aa
