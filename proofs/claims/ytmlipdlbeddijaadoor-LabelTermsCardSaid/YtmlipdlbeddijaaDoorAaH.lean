/-
  A STATEMENT WHOSE ORDER IS OPEN: whichever operation is next, it might have been the text's first.
-/
import Derived.Test.YtmlipdlbeddijaaDoorAaG
set_option linter.unusedVariables false
set_option linter.unusedSimpArgs false
namespace Go.Aa
open Go.RowKit

variable {P : Program} {G G' : Ghost} {w w' : World}

/-! ### What an operation looks at, what it turns -/
def rdB : Cls → Bool | .read | .alloc | .store => true | _ => false
def rdT : Cls → Bool | .app => true | _ => false
def wrB : Cls → Bool | .alloc | .store => true | _ => false
def wrT : Cls → Bool | .app => true | _ => false

theorem compat_spec (c d : Cls) (h : compat c d = true) :
    (wrB c = true → rdB d = false) ∧ (wrT c = true → rdT d = false) ∧ (wrB d = true → rdB c = false ∨ (c = .read ∧ d = .alloc)) ∧ (wrT d = true → rdT c = false) ∧ c ≠ .pan ∧ d ≠ .pan ∧
      (c = .call → wrB d = false ∧ wrT d = false ∧ d ≠ .call) ∧ (d = .call → wrB c = false ∧ wrT c = false ∧ c ≠ .call) := by
  revert h; cases c <;> cases d <;> simp [compat, wrB, wrT, rdB, rdT]
theorem wrB_rdB {c : Cls} (h : wrB c = true) : rdB c = true := by revert h; cases c <;> simp [wrB, rdB]
theorem wrT_rdT {c : Cls} (h : wrT c = true) : rdT c = true := by revert h; cases c <;> simp [wrT, rdT]

def Out.heap : Out → Heap
  | .val _ H => H
  | .pan _ H => H
def Out.put : Out → Heap → Out
  | .val v _, H => .val v H
  | .pan v _, H => .pan v H

/-- The heap behind an operation of this class. -/
def mix (c : Cls) (B : List (List AV)) (K : List Nat) (H : Heap) : Heap := ⟨if wrB c = true then B else H.boxes, if wrT c = true then K else H.toks, H.loops⟩

theorem mix_same {c : Cls} {H : Heap} {B K} (hb : wrB c = true → B = H.boxes) (ht : wrT c = true → K = H.toks) : mix c B K H = H := by
  unfold mix
  have e1 : (if wrB c = true then B else H.boxes) = H.boxes := by split <;> simp_all
  have e2 : (if wrT c = true then K else H.toks) = H.toks := by split <;> simp_all
  rw [e1, e2]

theorem loadA_boxes {g : Bool} {n : Nat} {H H2 : Heap} {v : AV} (h : H2.boxes = H.boxes) : loadA g n H2 v = loadA g n H v := by
  cases v <;> simp [loadA, h]

theorem stepD_frame {call : CallF} {op : AOp} {T : Env} {H H2 : Heap} {out : Out} (h : opStepD call op T H = some out) (hb : rdB (clsOf op) = true → H2.boxes = H.boxes) (ht : rdT (clsOf op) = true → H2.toks = H.toks) :
    ∃ B K, out.heap = mix (clsOf op) B K H ∧ opStepD call op T H2 = some (out.put (mix (clsOf op) B K H2)) := by
  have pure : ∀ o : Option AV, (match o with | some v => some (Out.val v H) | none => none) = some out →
      out.heap = H ∧ (match o with | some v => some (Out.val v H2) | none => none) = some (out.put H2) := by
    intro o ho
    cases o with
    | none => cases ho
    | some v => simp only [Option.some.injEq] at ho; subst ho; exact ⟨rfl, rfl⟩
  cases op with
  | box x =>
    simp only [opStepD, opStep] at h ⊢
    have hb := hb rfl
    split at h <;> simp only [Option.some.injEq, reduceCtorEq] at h
    rename_i h1 h2
    subst h
    refine ⟨H.boxes ++ [(ev T x).cells], [], rfl, ?_⟩
    simp [clsOf, mix, wrB, wrT, Out.put, boxA, hb]
  | load g n x =>
    simp only [opStepD, opStep] at h ⊢
    rw [loadA_boxes (hb rfl)]
    cases hl : loadA g n H (ev T x) with
    | none => rw [hl] at h; cases h
    | some v =>
      rw [hl] at h
      simp only [Option.some.injEq] at h
      subst h
      exact ⟨[], [], rfl, rfl⟩
  | store n x v =>
    simp only [opStepD, opStep] at h ⊢
    have hb := hb rfl
    unfold storeA at h ⊢
    cases hx : ev T x with
    | ptr k off =>
      rw [hx] at h
      simp only at h ⊢
      rw [hb]
      cases hk : H.boxes[k]? with
      | none => rw [hk] at h; cases h
      | some cs =>
        rw [hk] at h
        simp only at h ⊢
        by_cases hc : off + n ≤ cs.length ∧ cellsN n (ev T v) = true ∧ (ev T v).cells.all cellOk = true
        · rw [if_pos hc] at h ⊢
          simp only [Option.some.injEq] at h
          subst h
          exact ⟨H.boxes.set k (paste cs off (ev T v).cells), [], rfl, by simp [clsOf, mix, wrB, wrT, Out.put]⟩
        · rw [if_neg hc] at h; cases h
    | _ => rw [hx] at h; cases h
  | append es b x y =>
    simp only [opStepD, opStep] at h ⊢
    have ht := ht rfl
    unfold appendA at h ⊢
    cases hx : ev T x with
    | sl k l =>
      cases hy : ev T y with
      | sl k2 m =>
        rw [hx, hy] at h
        simp only at h ⊢
        cases m with
        | nil =>
          simp only [Option.some.injEq] at h ⊢
          subst h
          refine ⟨[], H.toks, rfl, ?_⟩
          simp [clsOf, mix, wrB, wrT, Out.put, ← ht]
        | cons m0 m' =>
          simp only at h ⊢
          by_cases hc : (l.length + (m0 :: m').length) * b ≤ 140737488355328 ∧ lenOk es l = true ∧ lenOk es (m0 :: m') = true ∧ dataOk (m0 :: m') = true
          · rw [if_pos hc] at h ⊢
            cases k with
            | sh => cases h
            | full =>
              simp only [Option.some.injEq] at h
              subst h
              refine ⟨[], H.toks ++ [l.length + (m0 :: m').length], rfl, ?_⟩
              simp [clsOf, mix, wrB, wrT, Out.put, ht]
            | own t =>
              simp only [ht] at h ⊢
              by_cases hc2 : H.toks[t]? = some l.length
              · rw [if_pos hc2] at h ⊢
                simp only [Option.some.injEq] at h
                subst h
                refine ⟨[], H.toks.set t (l.length + (m0 :: m').length), rfl, ?_⟩
                simp [clsOf, mix, wrB, wrT, Out.put]
              · rw [if_neg hc2] at h; cases h
          · rw [if_neg hc] at h; cases h
      | _ => rw [hx, hy] at h; cases h
    | _ => rw [hx] at h; cases h
  | panic x =>
    simp only [opStepD, opStep] at h ⊢
    split at h <;> simp only [Option.some.injEq, reduceCtorEq] at h
    subst h
    exact ⟨[], [], rfl, rfl⟩
  | call f as =>
    refine ⟨[], [], ?_⟩
    simp only [opStepD, callD] at h ⊢
    split at h
    · split at h
      · rename_i hd
        rw [if_pos hd]
        split at h
        · rename_i hcc
          split at h <;> simp only [Option.some.injEq, reduceCtorEq] at h
          rename_i hdd
          subst h
          rw [if_pos hdd]
          exact ⟨rfl, rfl⟩
        · rename_i hcc
          split at h <;> simp only [Option.some.injEq, reduceCtorEq] at h
          rename_i hdd
          subst h
          rw [if_pos hdd]
          exact ⟨rfl, rfl⟩
        · cases h
      · cases h
    · cases h
  | mov x => obtain ⟨h1, h2⟩ := pure (some (ev T x)) h; exact ⟨[], [], h1, h2⟩
  | mkiface t x => obtain ⟨h1, h2⟩ := pure (some (.iface t (ev T x))) h; exact ⟨[], [], h1, h2⟩
  | mkfunc f caps => obtain ⟨h1, h2⟩ := pure (some (.func f (caps.map (ev T)))) h; exact ⟨[], [], h1, h2⟩
  | _ => obtain ⟨h1, h2⟩ := pure _ h; exact ⟨[], [], h1, h2⟩

/-- Where the order is open less is taken in, and nothing else. -/
theorem stepD_step {call : CallF} {op : AOp} {T : Env} {H : Heap} {out : Out} (h : opStepD call op T H = some out) : opStep call op T H = some out := by
  cases op with
  | call f as =>
    simp only [opStepD, callD] at h
    simp only [opStep, callV]
    cases hf : ev T f with
    | func g caps =>
      rw [hf] at h
      simp only at h ⊢
      split at h
      · rename_i hd
        rw [if_pos hd]
        split at h
        · split at h
          · rename_i hdd; rw [if_pos hdd]; exact h
          · cases h
        · exact h
        · cases h
      · cases h
    | _ => rw [hf] at h; cases h
  | _ => simpa only [opStepD] using h

theorem exec_step {call : CallF} {o : AOper} {T : Env} {H : Heap} {out : Out} (h : exec (opStepD call) o T H = some out) : exec (opStep call) o T H = some out := by
  unfold exec at h ⊢
  cases hw : wantedA o T with
  | none => rw [hw] at h; cases h
  | some b =>
    rw [hw] at h
    cases b with
    | true => exact stepD_step h
    | false => exact h

theorem exec_frame {call : CallF} {o : AOper} {T : Env} {H H2 : Heap} {out : Out} (h : exec (opStepD call) o T H = some out) (hb : rdB (clsOf o.op) = true → H2.boxes = H.boxes) (ht : rdT (clsOf o.op) = true → H2.toks = H.toks) :
    ∃ B K, out.heap = mix (clsOf o.op) B K H ∧ exec (opStepD call) o T H2 = some (out.put (mix (clsOf o.op) B K H2)) := by
  unfold exec at h ⊢
  cases hw : wantedA o T with
  | none => rw [hw] at h; cases h
  | some b =>
    rw [hw] at h
    cases b with
    | true => exact stepD_frame h hb ht
    | false =>
      simp only [Option.some.injEq] at h
      subst h
      refine ⟨H.boxes, H.toks, (mix_same (fun _ => rfl) (fun _ => rfl)).symm, ?_⟩
      rw [mix_same (fun hw => (hb (wrB_rdB hw)).symm) (fun hw => (ht (wrT_rdT hw)).symm)]
      rfl

theorem exec_pan {call : CallF} {o : AOper} {T : Env} {H H' : Heap} {v : AV} (h : exec (opStepD call) o T H = some (.pan v H')) : (clsOf o.op = .call ∨ clsOf o.op = .pan) ∧ H' = H := by
  have hcls : clsOf o.op = .call ∨ clsOf o.op = .pan := by
    unfold exec at h
    split at h
    · cases hop : o.op with
      | call f as => exact .inl rfl
      | panic x => exact .inr rfl
      | _ =>
        rw [hop] at h
        simp only [opStepD] at h
        rcases opStep_pan h with h | ⟨x, _, _, hx, _⟩
        · exact .inl h
        · cases hx
    · cases h
    · cases h
  obtain ⟨B, K, h1, _⟩ := exec_frame (H2 := H) h (fun _ => rfl) (fun _ => rfl)
  refine ⟨hcls, ?_⟩
  rcases hcls with hc | hc <;> rw [hc] at h1 <;> exact h1

theorem exec_quiet {call : CallF} {o : AOper} {T : Env} {H H' : Heap} {v : AV} (h : exec (opStepD call) o T H = some (.val v H')) (h1 : wrB (clsOf o.op) = false) (h2 : wrT (clsOf o.op) = false) : H' = H := by
  obtain ⟨B, K, e, _⟩ := exec_frame (H2 := H) h (fun _ => rfl) (fun _ => rfl)
  have e : H' = mix (clsOf o.op) B K H := e
  rw [e, mix_same (by simp [h1]) (by simp [h2])]

/-! ### What an operation looks at in the slots -/
theorem ev_congr {T T' : Env} {x : Opd} (h : ∀ n ∈ opdUse x, T n = T' n) : ev T x = ev T' x := by
  cases x with
  | t n => exact h n (by simp [opdUse])
  | c v => rfl
theorem map_ev_congr {T T' : Env} {xs : List Opd} (h : ∀ n ∈ xs.flatMap opdUse, T n = T' n) : xs.map (ev T) = xs.map (ev T') :=
  List.map_congr_left fun x hx => ev_congr fun n hn => h n (List.mem_flatMap.2 ⟨x, hx, hn⟩)
theorem opt_ev_congr {T T' : Env} {x : Option Opd} (h : ∀ n ∈ optUse x, T n = T' n) : x.map (ev T) = x.map (ev T') := by
  cases x with
  | none => rfl
  | some x => simp only [Option.map_some]; rw [ev_congr h]

theorem stepD_congr {call : CallF} {op : AOp} {T T' : Env} {H : Heap} (h : ∀ n ∈ opUse op, T n = T' n) : opStepD call op T H = opStepD call op T' H := by
  cases op with
  | mov x => simp only [opStepD, opStep, pureOp]; rw [ev_congr (T' := T') h]
  | pick c a b =>
    simp only [opStepD, opStep, pureOp]
    rw [ev_congr (T' := T') (x := c) fun n hn => h n (by simp [opUse, hn]), ev_congr (T' := T') (x := a) fun n hn => h n (by simp [opUse, hn]), ev_congr (T' := T') (x := b) fun n hn => h n (by simp [opUse, hn])]
  | box x => simp only [opStepD, opStep]; rw [ev_congr (T' := T') h]
  | build z ps =>
    simp only [opStepD, opStep, pureOp]
    have : (ps.map fun p => (p.1, p.2.1, ev T p.2.2)) = ps.map fun p => (p.1, p.2.1, ev T' p.2.2) :=
      List.map_congr_left fun p hp => by rw [ev_congr (T' := T') fun n hn => h n (List.mem_flatMap.2 ⟨p, hp, hn⟩)]
    rw [this]
  | bslice es xs =>
    simp only [opStepD, opStep, pureOp]
    have : (xs.map fun x => shut2 (ev T x)) = xs.map fun x => shut2 (ev T' x) :=
      List.map_congr_left fun p hp => by rw [ev_congr (T' := T') fun n hn => h n (List.mem_flatMap.2 ⟨p, hp, hn⟩)]
    rw [this]
  | load g n x => simp only [opStepD, opStep]; rw [ev_congr (T' := T') h]
  | store n x v =>
    simp only [opStepD, opStep]
    rw [ev_congr (T' := T') (x := x) fun n hn => h n (by simp [opUse, hn]), ev_congr (T' := T') (x := v) fun n hn => h n (by simp [opUse, hn])]
  | nilchk x => simp only [opStepD, opStep, pureOp]; rw [ev_congr (T' := T') h]
  | bin b x y =>
    simp only [opStepD, opStep, pureOp]
    rw [ev_congr (T' := T') (x := x) fun n hn => h n (by simp [opUse, hn]), ev_congr (T' := T') (x := y) fun n hn => h n (by simp [opUse, hn])]
  | eqst b ks x y =>
    simp only [opStepD, opStep, pureOp]
    rw [ev_congr (T' := T') (x := x) fun n hn => h n (by simp [opUse, hn]), ev_congr (T' := T') (x := y) fun n hn => h n (by simp [opUse, hn])]
  | eqb b x y =>
    simp only [opStepD, opStep, pureOp]
    rw [ev_congr (T' := T') (x := x) fun n hn => h n (by simp [opUse, hn]), ev_congr (T' := T') (x := y) fun n hn => h n (by simp [opUse, hn])]
  | un b x => simp only [opStepD, opStep, pureOp]; rw [ev_congr (T' := T') h]
  | eqnil b k x => simp only [opStepD, opStep, pureOp]; rw [ev_congr (T' := T') h]
  | conv b x => simp only [opStepD, opStep, pureOp]; rw [ev_congr (T' := T') h]
  | mkiface b x => simp only [opStepD, opStep, pureOp]; rw [ev_congr (T' := T') h]
  | mkfunc f xs => simp only [opStepD, opStep, pureOp]; rw [map_ev_congr (T' := T') h]
  | slice es x lo hi mx =>
    simp only [opStepD, opStep, pureOp]
    rw [ev_congr (T' := T') (x := x) fun n hn => h n (by simp [opUse, hn]), opt_ev_congr (T' := T') (x := lo) fun n hn => h n (by simp [opUse, hn]),
      opt_ev_congr (T' := T') (x := hi) fun n hn => h n (by simp [opUse, hn]), opt_ev_congr (T' := T') (x := mx) fun n hn => h n (by simp [opUse, hn])]
  | fld o n x => simp only [opStepD, opStep, pureOp]; rw [ev_congr (T' := T') h]
  | fldv g o n x => simp only [opStepD, opStep, pureOp]; rw [ev_congr (T' := T') h]
  | idx b x y =>
    simp only [opStepD, opStep, pureOp]
    rw [ev_congr (T' := T') (x := x) fun n hn => h n (by simp [opUse, hn]), ev_congr (T' := T') (x := y) fun n hn => h n (by simp [opUse, hn])]
  | idxs x y =>
    simp only [opStepD, opStep, pureOp]
    rw [ev_congr (T' := T') (x := x) fun n hn => h n (by simp [opUse, hn]), ev_congr (T' := T') (x := y) fun n hn => h n (by simp [opUse, hn])]
  | extract x i => simp only [opStepD, opStep, pureOp]; rw [ev_congr (T' := T') h]
  | call f xs =>
    simp only [opStepD]
    have : (xs.map fun x => shutA (ev T x)) = xs.map fun x => shutA (ev T' x) :=
      List.map_congr_left fun p hp => by rw [ev_congr (T' := T') fun n hn => h n (by simp only [opUse, List.mem_append]; exact .inr (List.mem_flatMap.2 ⟨p, hp, hn⟩))]
    rw [this, ev_congr (T' := T') (x := f) fun n hn => h n (by simp [opUse, hn])]
  | len s x => simp only [opStepD, opStep, pureOp]; rw [ev_congr (T' := T') h]
  | append es b x y =>
    simp only [opStepD, opStep]
    rw [ev_congr (T' := T') (x := x) fun n hn => h n (by simp [opUse, hn]), ev_congr (T' := T') (x := y) fun n hn => h n (by simp [opUse, hn])]
  | mm b x y =>
    simp only [opStepD, opStep, pureOp]
    rw [ev_congr (T' := T') (x := x) fun n hn => h n (by simp [opUse, hn]), ev_congr (T' := T') (x := y) fun n hn => h n (by simp [opUse, hn])]
  | panic x => simp only [opStepD, opStep]; rw [ev_congr (T' := T') h]

theorem exec_congr {call : CallF} {o : AOper} {T T' : Env} {H : Heap} (h : ∀ n ∈ o.use, T n = T' n) : exec (opStepD call) o T H = exec (opStepD call) o T' H := by
  unfold exec
  have hw : wantedA o T = wantedA o T' := by
    unfold wantedA
    cases hg : o.guard with
    | none => rfl
    | some g => simp only; rw [h g.1 (by simp [AOper.use, hg])]
  rw [hw, stepD_congr (T' := T') fun n hn => h n (by simp [AOper.use, hn])]

theorem setD_use {T : Env} {d : Option Nat} {v : AV} {us : List Nat} (h : ∀ x, d = some x → x ∉ us) : ∀ n ∈ us, setD T d v n = T n := by
  intro n hn
  cases d with
  | none => rfl
  | some d =>
    have hne : n ≠ d := fun e => h d rfl (e ▸ hn)
    simp [setD, upd_eq, hne]

theorem setD_comm {T : Env} {d e : Option Nat} {v u : AV} (h : ∀ x, d = some x → e ≠ some x) : setD (setD T d v) e u = setD (setD T e u) d v := by
  cases d with
  | none => rfl
  | some d =>
    cases e with
    | none => rfl
    | some e =>
      have hne : e ≠ d := fun he => h d rfl (by rw [he])
      funext n
      simp only [setD, upd_eq]
      by_cases h1 : n = e
      · subst h1; simp [hne]
      · simp [h1]

theorem apart_spec {a b : AOper} (h : apartA a b = true) : compat (clsOf a.op) (clsOf b.op) = true ∧ (∀ d, a.dst = some d → d ∉ b.use) ∧ (∀ d, a.dst = some d → b.dst ≠ some d) ∧ (∀ d, b.dst = some d → d ∉ a.use) := by
  simp only [apartA, Bool.and_eq_true] at h
  obtain ⟨⟨h1, h2⟩, h3⟩ := h
  refine ⟨h1, fun d hd => ?_, fun d hd => ?_, fun d hd => ?_⟩
  · rw [hd] at h2; simp at h2; exact h2.1
  · rw [hd] at h2; simp at h2; exact h2.2
  · rw [hd] at h3; simpa using h3

/-! ### The text's order, by number -/
def runP (call : CallF) : List (AOper × Nat) → Option (Nat × AV) → Env → Heap → Option OutE
  | [], none, T, H => some (.env T H)
  | [], some (_, v), _, H => some (.pan v H)
  | o :: r, none, T, H =>
    match exec (opStepD call) o.1 T H with
    | some (.val v H') => runP call r none (setD T o.1.dst v) H'
    | some (.pan v H') => runP call r (some (o.2, v)) T H'
    | none => none
  | o :: r, some (p, x), T, H =>
    if o.1.deps.contains p then runP call r (some (p, x)) T H else
    match exec (opStepD call) o.1 T H with
    | some (.val v H') => runP call r (some (p, x)) (setD T o.1.dst v) H'
    | _ => none

theorem runD_runP {call : CallF} : ∀ (ops : List AOper) (i : Nat) (p : Option (Nat × AV)) (T : Env) (H : Heap), runD call i ops p T H = runP call (ops.zipIdx i) p T H
  | [], i, none, T, H => rfl
  | [], i, some _, T, H => rfl
  | o :: r, i, none, T, H => by
    rw [List.zipIdx_cons, runD, runP]
    unfold exec
    cases wantedA o T with
    | none => rfl
    | some b =>
      cases b with
      | true =>
        simp only
        cases opStepD call o.op T H with
        | none => rfl
        | some x => cases x <;> exact runD_runP r _ _ _ _
      | false => exact runD_runP r _ _ _ _
  | o :: r, i, some (p, x), T, H => by
    rw [List.zipIdx_cons, runD, runP]
    simp only
    split
    · exact runD_runP r _ _ _ _
    · unfold exec
      cases wantedA o T with
      | none => rfl
      | some b =>
        cases b with
        | true =>
          simp only
          cases opStepD call o.op T H with
          | none => rfl
          | some x =>
            cases x with
            | val v H' => exact runD_runP r _ _ _ _
            | pan v H' => rfl
        | false => exact runD_runP r _ _ _ _

/-- Behind a panic, nothing more is turned. -/
def Calm (p : Nat) (y : AOper × Nat) : Prop := y.1.deps.contains p = true ∨ (wrB (clsOf y.1.op) = false ∧ wrT (clsOf y.1.op) = false)

theorem pending_out {call : CallF} {p : Nat} {x : AV} : ∀ {R : List (AOper × Nat)} {T : Env} {H : Heap} {out : OutE}, (∀ y ∈ R, Calm p y) → runP call R (some (p, x)) T H = some out → out = .pan x H
  | [], T, H, out, _, h => by simp only [runP, Option.some.injEq] at h; exact h.symm
  | o :: r, T, H, out, hc, h => by
    simp only [runP] at h
    split at h
    · exact pending_out (fun y hy => hc y (List.mem_cons_of_mem _ hy)) h
    · rename_i hd
      split at h
      · rename_i v H' he
        have hq := (hc o (by simp)).resolve_left hd
        have := exec_quiet he hq.1 hq.2
        subst this
        exact pending_out (fun y hy => hc y (List.mem_cons_of_mem _ hy)) h
      · cases h

theorem pending_front {call : CallF} {i : AOper × Nat} {p : Nat} {x : AV} (hip : i.1.deps.contains p = false) (hqi : wrB (clsOf i.1.op) = false ∧ wrT (clsOf i.1.op) = false) :
    ∀ {A B : List (AOper × Nat)} {T : Env} {H : Heap} {out : OutE}, (∀ a ∈ A, apartA a.1 i.1 = true ∧ Calm p a) → runP call (A ++ i :: B) (some (p, x)) T H = some out →
      ∃ v, exec (opStepD call) i.1 T H = some (.val v H) ∧ runP call (A ++ B) (some (p, x)) (setD T i.1.dst v) H = some out
  | [], B, T, H, out, _, h => by
    simp only [List.nil_append, runP, hip, Bool.false_eq_true, if_false] at h
    split at h
    · rename_i v H' he
      have := exec_quiet he hqi.1 hqi.2
      subst this
      exact ⟨v, he, h⟩
    · cases h
  | a :: A, B, T, H, out, hA, h => by
    obtain ⟨hap, hca⟩ := hA a (by simp)
    have hA' : ∀ a ∈ A, apartA a.1 i.1 = true ∧ Calm p a := fun b hb => hA b (List.mem_cons_of_mem _ hb)
    obtain ⟨_, s1, s2, s3⟩ := apart_spec hap
    simp only [List.cons_append, runP] at h ⊢
    by_cases hd : a.1.deps.contains p = true
    · rw [if_pos hd] at h
      obtain ⟨v, h1, h2⟩ := pending_front hip hqi hA' h
      exact ⟨v, h1, by rw [if_pos hd]; exact h2⟩
    · rw [if_neg hd] at h
      split at h
      · rename_i va H' he
        have hq := hca.resolve_left hd
        have := exec_quiet he hq.1 hq.2
        subst this
        obtain ⟨v, h1, h2⟩ := pending_front hip hqi hA' h
        rw [exec_congr (T' := T) (setD_use s1)] at h1
        refine ⟨v, h1, ?_⟩
        rw [if_neg hd, exec_congr (T' := T) (setD_use s3), he]
        simp only
        rw [← setD_comm (T := T) (d := a.1.dst) (e := i.1.dst) s2]
        exact h2
      · cases h

theorem alloc_grows {call : CallF} {o : AOper} {T : Env} {H H' : Heap} {v : AV} (h : exec (opStepD call) o T H = some (.val v H')) (hc : clsOf o.op = .alloc) : ∃ B, H'.boxes = H.boxes ++ B := by
  unfold exec at h
  split at h
  · cases hop : o.op with
    | box x =>
      rw [hop] at h
      simp only [opStepD, opStep] at h
      split at h <;> simp only [Option.some.injEq, reduceCtorEq, Out.val.injEq] at h
      exact ⟨_, by rw [← h.2]; rfl⟩
    | _ => rw [hop] at hc; cases hc
  · simp only [Option.some.injEq, Out.val.injEq] at h
    exact ⟨[], by rw [← h.2]; simp⟩
  · cases h
theorem loadA_grows {g : Bool} {n : Nat} {H H2 : Heap} {B : List (List AV)} {x v : AV} (h : loadA g n H x = some v) (hB : H2.boxes = H.boxes ++ B) : loadA g n H2 x = some v := by
  cases x with
  | ptr k off =>
    simp only [loadA] at h ⊢
    cases hk : H.boxes[k]? with
    | none => rw [hk] at h; cases h
    | some cs =>
      have : H2.boxes[k]? = some cs := by
        rw [hB, List.getElem?_append_left (List.getElem?_eq_some_iff.1 hk).1]; exact hk
      rw [hk] at h
      rw [this]; exact h
  | ref cs => exact h
  | _ => cases h
theorem read_grows {call : CallF} {o : AOper} {T : Env} {H H1 H2 : Heap} {B : List (List AV)} {v : AV} (h : exec (opStepD call) o T H = some (.val v H1)) (hc : clsOf o.op = .read) (hB : H2.boxes = H.boxes ++ B) : exec (opStepD call) o T H2 = some (.val v H2) := by
  unfold exec at h ⊢
  split at h
  · cases hop : o.op with
    | load g n x =>
      rw [hop] at h
      simp only [opStepD, opStep] at h ⊢
      split at h
      · rename_i u hl
        simp only [Option.some.injEq, Out.val.injEq] at h
        rw [loadA_grows hl hB, h.1]
      · cases h
    | _ => rw [hop] at hc; cases hc
  · simp only [Option.some.injEq, Out.val.injEq] at h
    rw [h.1]
  · cases h

/-- THE NEXT ONE, WHICHEVER, MIGHT HAVE BEEN THE FIRST. -/
theorem front {call : CallF} {i : AOper × Nat} : ∀ {A B : List (AOper × Nat)} {T : Env} {H : Heap} {out : OutE},
    (A ++ i :: B).Pairwise (fun x y => y.1.deps.contains x.2 = true ∨ apartA x.1 y.1 = true) → (∀ a ∈ A, i.1.deps.contains a.2 = false) → runP call (A ++ i :: B) none T H = some out →
      ∃ oi, exec (opStepD call) i.1 T H = some oi ∧ (match oi with
        | .val v Hi => runP call (A ++ B) none (setD T i.1.dst v) Hi = some out
        | .pan v Hi => out = .pan v Hi)
  | [], B, T, H, out, hp, _, h => by
    simp only [List.nil_append, runP] at h
    split at h
    · rename_i v H' he
      exact ⟨_, he, h⟩
    · rename_i v H' he
      obtain ⟨hc, rfl⟩ := exec_pan he
      refine ⟨_, he, ?_⟩
      refine pending_out (fun y hy => ?_) h
      simp only [List.nil_append, List.pairwise_cons] at hp
      rcases hp.1 y hy with hd | hap
      · exact .inl hd
      · have := compat_spec _ _ (apart_spec hap).1
        rcases hc with hc | hc
        · exact .inr ⟨(this.2.2.2.2.2.2.1 hc).1, (this.2.2.2.2.2.2.1 hc).2.1⟩
        · exact absurd hc this.2.2.2.2.1
    · cases h
  | a :: A, B, T, H, out, hp, hn, h => by
    simp only [List.cons_append, List.pairwise_cons] at hp
    have hap : apartA a.1 i.1 = true := (hp.1 i (by simp)).resolve_left (by rw [hn a (by simp)]; simp)
    obtain ⟨s0, s1, s2, s3⟩ := apart_spec hap
    have cs := compat_spec _ _ s0
    simp only [List.cons_append, runP] at h
    split at h
    · rename_i va Ha he
      obtain ⟨oi, h1, h2⟩ := front hp.2 (fun b hb => hn b (List.mem_cons_of_mem _ hb)) h
      rw [exec_congr (T' := T) (setD_use s1)] at h1
      obtain ⟨Ba, Ka, ea, fa⟩ := exec_frame (H2 := H) he (fun _ => rfl) (fun _ => rfl)
      have ea : Ha = mix (clsOf a.1.op) Ba Ka H := ea
      -- the second one sees what the first has not turned
      obtain ⟨Bi, Ki, ei, fi⟩ := exec_frame (H2 := H) h1 (fun hr => by
          rw [ea]; unfold mix; simp only
          rw [if_neg (fun hw => by rw [cs.1 hw] at hr; cases hr)]) (fun hr => by
          rw [ea]; unfold mix; simp only
          rw [if_neg (fun hw => by rw [cs.2.1 hw] at hr; cases hr)])
      refine ⟨_, fi, ?_⟩
      cases oi with
      | pan v H1 =>
        obtain ⟨hc, e1⟩ := exec_pan h1
        have hcall : clsOf i.1.op = .call := hc.resolve_right cs.2.2.2.2.2.1
        have q := cs.2.2.2.2.2.2.2 hcall
        have : Ha = H := exec_quiet he q.1 q.2.1
        simp only at h2
        simp only [Out.put]
        rw [h2, e1, this]
        congr 1
        rw [hcall]
        rfl
      | val v Hai =>
        simp only [Out.put] at h2 ⊢
        have eHai : Hai = mix (clsOf i.1.op) Bi Ki Ha := ei
        have hsw : ∃ Ba' Ka', (Out.val va Ha).heap = mix (clsOf a.1.op) Ba' Ka' H ∧ exec (opStepD call) a.1 T (mix (clsOf i.1.op) Bi Ki H) = some ((Out.val va Ha).put (mix (clsOf a.1.op) Ba' Ka' (mix (clsOf i.1.op) Bi Ki H))) := by
          by_cases hsp : clsOf a.1.op = .read ∧ clsOf i.1.op = .alloc
          · have hq : Ha = H := exec_quiet he (by rw [hsp.1]; rfl) (by rw [hsp.1]; rfl)
            obtain ⟨B', hB'⟩ := alloc_grows h1 hsp.2
            have hbox : (mix (clsOf i.1.op) Bi Ki H).boxes = H.boxes ++ B' := by
              rw [← hq, ← hB', eHai]
            have := read_grows he hsp.1 hbox
            refine ⟨[], [], ?_, ?_⟩
            · rw [hq, hsp.1]; rfl
            · rw [this]
              simp only [Out.put]
              rw [hsp.1]; rfl
          · exact exec_frame (H2 := mix (clsOf i.1.op) Bi Ki H) he (fun hr => by
              unfold mix; simp only
              rw [if_neg (fun hw => by
                rcases cs.2.2.1 hw with h | h
                · rw [h] at hr; cases hr
                · exact hsp h)]) (fun hr => by
              unfold mix; simp only
              rw [if_neg (fun hw => by rw [cs.2.2.2.1 hw] at hr; cases hr)])
        obtain ⟨Ba', Ka', ea', fa'⟩ := hsw
        simp only [List.cons_append, runP]
        rw [exec_congr (T' := T) (setD_use s3), fa']
        simp only [Out.put]
        rw [← setD_comm (T := T) (d := a.1.dst) (e := i.1.dst) s2]
        have hheap : mix (clsOf a.1.op) Ba' Ka' (mix (clsOf i.1.op) Bi Ki H) = Hai := by
          have ea' : Ha = mix (clsOf a.1.op) Ba' Ka' H := ea'
          rw [eHai, ea']
          unfold mix
          simp only [Heap.mk.injEq, and_true]
          constructor
          · by_cases hw : wrB (clsOf a.1.op) = true
            · have : wrB (clsOf i.1.op) = false := by
                cases hh : wrB (clsOf i.1.op) with
                | false => rfl
                | true => have := cs.1 hw; rw [wrB_rdB hh] at this; cases this
              simp [hw, this]
            · simp [hw]
          · by_cases hw : wrT (clsOf a.1.op) = true
            · have : wrT (clsOf i.1.op) = false := by
                cases hh : wrT (clsOf i.1.op) with
                | false => rfl
                | true => have := cs.2.1 hw; rw [wrT_rdT hh] at this; cases this
              simp [hw, this]
            · simp [hw]
        rw [hheap]
        exact h2
    · rename_i va Ha he
      obtain ⟨hc, rfl⟩ := exec_pan he
      have hcall : clsOf a.1.op = .call := hc.resolve_right cs.2.2.2.2.1
      have qi := cs.2.2.2.2.2.2.1 hcall
      have hcalm : ∀ b ∈ A, apartA b.1 i.1 = true ∧ Calm a.2 b := fun b hb => by
        refine ⟨?_, ?_⟩
        · have := List.pairwise_append.1 hp.2
          exact (this.2.2 b hb i (by simp)).resolve_left (by rw [hn b (List.mem_cons_of_mem _ hb)]; simp)
        · rcases hp.1 b (by simp [hb]) with hd | hab
          · exact .inl hd
          · have cs' := compat_spec _ _ (apart_spec hab).1
            exact .inr ⟨(cs'.2.2.2.2.2.2.1 hcall).1, (cs'.2.2.2.2.2.2.1 hcall).2.1⟩
      obtain ⟨v, h1, h2⟩ := pending_front (hn a (by simp)) ⟨qi.1, qi.2.1⟩ hcalm h
      refine ⟨_, h1, ?_⟩
      simp only [List.cons_append, runP]
      rw [exec_congr (T' := T) (setD_use s3), he]
      exact h2
    · cases h

end Go.Aa
