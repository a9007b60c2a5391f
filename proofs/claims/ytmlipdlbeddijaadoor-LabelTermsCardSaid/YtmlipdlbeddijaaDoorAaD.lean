/-
  EACH OPERATION THAT MAKES NO CALL.
-/
import Derived.Test.YtmlipdlbeddijaaDoorAaC
set_option linter.unusedVariables false
set_option linter.unusedSimpArgs false
namespace Go.Aa
open Go.RowKit

variable {P : Program} {G G' : Ghost} {w w' : World}

/-- The machine goes on with this value. -/
def Valued (nx : Next) (r : Value) : Prop := nx = .value r ∨ (nx = .skip ∧ r = Go.undef)

/-- What an operation that makes no call comes to. -/
def OpOk (P : Program) (G : Ghost) (w : World) (H' : Heap) (v : AV) (s : Sem Next) : Prop :=
  ∃ nx r w' G', s.run P w = .ok nx w' ∧ Valued nx r ∧ Step G w G' w' ∧ HRep P G' w' H' ∧ Rep G' w' r v

theorem OpOk.pure {H : Heap} {v : AV} {s : Sem Value} (hH : HRep P G w H) (h : ∃ r, s.run P w = .ok r w ∧ Rep G w r v) : OpOk P G w H v (do pure (Next.value (← s))) := by
  obtain ⟨r, h1, h2⟩ := h
  exact ⟨.value r, r, w, G, by simp [h1], .inl rfl, .refl _ _, hH, h2⟩
theorem OpOk.pureV {H : Heap} {v : AV} {r : Value} (hH : HRep P G w H) (h : Rep G w r v) : OpOk P G w H v (Pure.pure (Next.value r)) := ⟨.value r, r, w, G, rfl, .inl rfl, .refl _ _, hH, h⟩
theorem OpOk.grow {H : Heap} {v : AV} {s : Sem Value} (hH : HRep P G w H) (h : ∃ r w' G', s.run P w = .ok r w' ∧ Grow G w G' w' ∧ Rep G' w' r v) : OpOk P G w H v (do Pure.pure (Next.value (← s))) := by
  obtain ⟨r, w', G', h1, h2, h3⟩ := h
  exact ⟨.value r, r, w', G', by simp [h1], .inl rfl, h2.step hH.base, hH.grow h2, h3⟩
theorem OpOk.step {H' : Heap} {v : AV} {s : Sem Value} (h : ∃ r w' G', s.run P w = .ok r w' ∧ Step G w G' w' ∧ HRep P G' w' H' ∧ Rep G' w' r v) : OpOk P G w H' v (do Pure.pure (Next.value (← s))) := by
  obtain ⟨r, w', G', h1, h2, h3, h4⟩ := h
  exact ⟨.value r, r, w', G', by simp [h1], .inl rfl, h2, h3, h4⟩

theorem run_binA {op : BinOp} {x y z : AV} {u v : Value} {t : TypeId} {ox oy : Operand} (hb : Base G w) (hx : Rep G w u x) (hy : Rep G w v y) (h : binA op x y = some z) (ht : binOk P t = true) :
    ∃ r w' G', (do eqGuard op t ox oy u v; binOp op t u v : Sem Value).run P w = .ok r w' ∧ Grow G w G' w' ∧ Rep G' w' r z := by
  have flt : ∀ (a b : Nat) (p q : Option Nat), FRep a p → FRep b q → fltBin op p q = some z → u = .float .f64 a → v = .float .f64 b →
      ∃ r w' G', (do eqGuard op t ox oy u v; binOp op t u v : Sem Value).run P w = .ok r w' ∧ Grow G w G' w' ∧ Rep G' w' r z := by
    rintro a b p q hp hq hf rfl rfl
    obtain ⟨r, w', h1, h2, h3⟩ := run_fltBin (P := P) (t := t) hb hp hq hf
    exact ⟨r, w', G, by simp only [Sem.run_bind, eqGuard_flt, Result.andThen_ok]; exact h1, h2, h3⟩
  unfold binA at h
  split at h
  · rename_i k a k' b
    cases hx; cases hy
    have key : ∀ r, (binOp op t (.int k a) (.int k' b)).run P w = .ok r w → Rep G w r z → ∃ r w' G', (do eqGuard op t ox oy (.int k a) (.int k' b); binOp op t (.int k a) (.int k' b) : Sem Value).run P w = .ok r w' ∧ Grow G w G' w' ∧ Rep G' w' r z :=
      fun r h1 h2 => ⟨r, w, G, by simp only [Sem.run_bind, eqGuard_int, Result.andThen_ok]; exact h1, .refl hb, h2⟩
    split at h
    · obtain ⟨r, h1, h2⟩ := run_intShift (P := P) (G := G) (w := w) (t := t) (k' := k') h
      exact key r h1 h2
    · obtain ⟨r, h1, h2⟩ := run_intShift (P := P) (G := G) (w := w) (t := t) (k' := k') h
      exact key r h1 h2
    · split at h
      · rename_i hk
        subst hk
        obtain ⟨r, h1, h2⟩ := run_intBin (P := P) (G := G) (w := w) (t := t) h
        exact key r h1 h2
      · cases h
  · cases hx; cases hy; exact flt _ _ _ _ (.bits _) (.bits _) h rfl rfl
  · cases hx; cases hy; exact flt _ _ _ _ (.nan _ (by assumption)) (.bits _) h rfl rfl
  · cases hx; cases hy; exact flt _ _ _ _ (.bits _) (.nan _ (by assumption)) h rfl rfl
  · cases hx; cases hy; exact flt _ _ _ _ (.nan _ (by assumption)) (.nan _ (by assumption)) h rfl rfl
  · cases hx; cases hy
    obtain ⟨r, h1, h2⟩ := run_strBin (P := P) (G := G) (w := w) (t := t) h
    exact ⟨r, w, G, by simp only [Sem.run_bind, eqGuard_str, Result.andThen_ok]; exact h1, .refl hb, h2⟩
  · cases h

theorem run_eqb {neg : Bool} {x y z : AV} {u v : Value} {t : TypeId} {ox oy : Operand} (hx : Rep G w u x) (hy : Rep G w v y) (h : eqbA neg x y = some z) (ht : P.underlying t = some .bool) :
    ∃ r, (do eqGuard (if neg then .neq else .eql) t ox oy u v; binOp (if neg then .neq else .eql) t u v : Sem Value).run P w = .ok r w ∧ Rep G w r z := by
  unfold eqbA at h
  split at h
  · simp only [Option.some.injEq] at h
    subst h
    cases hx; cases hy
    cases neg
    · exact ⟨_, by simp only [Sem.run_bind, eqGuard_bool, Result.andThen_ok, Bool.false_eq_true, if_false]; exact run_eql_bool w t _ _ ht, .bool _⟩
    · exact ⟨_, by simp only [Sem.run_bind, eqGuard_bool, Result.andThen_ok, if_true]; exact run_neq_bool w t _ _ ht, .bool _⟩
  · cases h

theorem eqnil_run {neg : Bool} {u v : Value} {t : TypeId} {ox oy : Operand} {b : Bool} (hg : ∀ op, (eqGuard op t ox oy u v).run P w = .ok () w) (he : (Op.equal t u v).run P w = .ok b w)
    (h1 : binOp .eql t u v = (do pure (.bool (← Op.equal t u v)))) (h2 : binOp .neq t u v = (do pure (.bool (!(← Op.equal t u v))))) :
    (do eqGuard (if neg then .neq else .eql) t ox oy u v; binOp (if neg then .neq else .eql) t u v : Sem Value).run P w = .ok (.bool (if neg then !b else b)) w := by
  cases neg
  · simp only [Sem.run_bind, hg, Result.andThen_ok, Bool.false_eq_true, if_false, h1, he, Sem.run_pure]
  · simp only [Sem.run_bind, hg, Result.andThen_ok, if_true, h2, he, Sem.run_pure]

theorem run_eqnil {neg : Bool} {k : NK} {x z : AV} {u : Value} {t : TypeId} {ox oy : Operand} {v : Value} (hx : Rep G w u x) (h : eqnilA neg k x = some z) (ht : nilOf P t oy = some k) (hv : ∀ c, oy = .const c → v = c) :
    ∃ r, (do eqGuard (if neg then .neq else .eql) t ox oy u v; binOp (if neg then .neq else .eql) t u v : Sem Value).run P w = .ok r w ∧ Rep G w r z := by
  have fin : ∀ b : Bool, (∀ op, (eqGuard op t ox oy u v).run P w = .ok () w) → (∀ d, (Op.equalIn (d + 1) t u v).run P w = .ok b w) → binOp .eql t u v = (do pure (.bool (← Op.equal t u v))) → binOp .neq t u v = (do pure (.bool (!(← Op.equal t u v)))) →
      AV.bool (if neg then !b else b) = z → ∃ r, (do eqGuard (if neg then .neq else .eql) t ox oy u v; binOp (if neg then .neq else .eql) t u v : Sem Value).run P w = .ok r w ∧ Rep G w r z := by
    intro b h1 h2 h3 h4 h5
    exact ⟨_, eqnil_run h1 (h2 9999) h3 h4, by rw [← h5]; exact .bool _⟩
  unfold nilOf at ht
  split at ht <;> simp only [Option.some.injEq, reduceCtorEq] at ht <;> subst ht
  · rename_i e n c hu
    have := hv _ rfl
    subst this
    cases hx with
    | sl a c' k l es us hl =>
      cases l with
      | nil => exact absurd rfl hl
      | cons x xs =>
        simp only [eqnilA, Option.some.injEq] at h
        exact fin false (fun op => by cases op <;> rfl) (fun d => by simp [Op.equalIn, run_underlying hu]) rfl rfl (by rw [← h]; cases neg <;> rfl)
    | msl k off n c' =>
      simp only [eqnilA, Option.some.injEq] at h
      exact fin false (fun op => by cases op <;> rfl) (fun d => by simp [Op.equalIn, run_underlying hu]) rfl rfl (by rw [← h]; cases neg <;> rfl)
    | _ => simp [eqnilA] at h
  · rename_i e hu
    have := hv _ rfl
    subst this
    cases hx with
    | ptr k off =>
      simp only [eqnilA, Option.some.injEq] at h
      exact fin false (fun op => by cases op <;> rfl) (fun d => by simp [Op.equalIn, run_underlying hu]) rfl rfl (by rw [← h]; cases neg <;> rfl)
    | ref a cs =>
      simp only [eqnilA, Option.some.injEq] at h
      exact fin false (fun op => by cases op <;> rfl) (fun d => by simp [Op.equalIn, run_underlying hu]) rfl rfl (by rw [← h]; cases neg <;> rfl)
    | nilptr =>
      simp only [eqnilA, Option.some.injEq] at h
      exact fin true (fun op => by cases op <;> rfl) (fun d => by simp [Op.equalIn, run_underlying hu]) rfl rfl (by rw [← h]; cases neg <;> rfl)
    | _ => simp [eqnilA] at h
  · rename_i e1 e2 e3 hu
    have := hv _ rfl
    subst this
    cases hx with
    | func f us cs =>
      simp only [eqnilA, Option.some.injEq] at h
      exact fin false (fun op => by cases op <;> rfl) (fun d => by simp [Op.equalIn, run_underlying hu]) rfl rfl (by rw [← h]; cases neg <;> rfl)
    | nilFunc =>
      simp only [eqnilA, Option.some.injEq] at h
      exact fin true (fun op => by cases op <;> rfl) (fun d => by simp [Op.equalIn, run_underlying hu]) rfl rfl (by rw [← h]; cases neg <;> rfl)
    | _ => simp [eqnilA] at h
  · rename_i e hu
    have := hv _ rfl
    subst this
    cases hx with
    | iface t' u' x' =>
      simp only [eqnilA, Option.some.injEq] at h
      exact fin false (fun op => by cases op <;> rfl) (fun d => by simp [Op.equalIn, run_underlying hu]) rfl rfl (by rw [← h]; cases neg <;> rfl)
    | nilIface =>
      simp only [eqnilA, Option.some.injEq] at h
      exact fin true (fun op => by cases op <;> simp [eqGuard]) (fun d => by simp [Op.equalIn, run_underlying hu]) rfl rfl (by rw [← h]; cases neg <;> rfl)
    | _ => simp [eqnilA] at h

theorem cOpt_rep {n : Nat} {a : Act} {T : Env} {o : Option Operand} {x : Option Opd} (hT : TRep G w n a.tmps T) (h : cOpt o = some x) :
    (∀ y, x.map (ev T) = some y → ∃ u, o.map a.eval = some u ∧ Rep G w u y) ∧ (x.map (ev T) = none → o.map a.eval = none) := by
  cases o with
  | none => simp only [cOpt, Option.some.injEq] at h; subst h; exact ⟨fun y hy => by simp at hy, fun _ => rfl⟩
  | some o =>
    simp only [cOpt, Option.map_eq_some_iff] at h
    obtain ⟨y, h1, rfl⟩ := h
    exact ⟨fun z hz => ⟨_, rfl, by simp only [Option.map_some, Option.some.injEq] at hz; rw [← hz]; exact cOpd_rep hT h1⟩, fun hz => by simp at hz⟩

theorem ARep_list {us : List Value} {cs : List AV} {f : Nat → Prop} (h : us.length = cs.length ∧ ∀ i (h1 : i < us.length) (h2 : i < cs.length), Rep G w us[i] cs[i]) :
    us.toArray.size = cs.length ∧ ∀ i (h1 : i < us.toArray.size) (h2 : i < cs.length), Rep G w us.toArray[i] cs[i] := ⟨by simpa using h.1, fun i h1 h2 => by simpa using h.2 i (by simpa using h1) h2⟩

theorem cOpds_map {n : Nat} {a : Act} {T : Env} {os : Array Operand} {xs : List Opd} (hT : TRep G w n a.tmps T) (h : cOpds os.toList = some xs) :
    (os.map a.eval).size = (xs.map (ev T)).length ∧ ∀ i (h1 : i < (os.map a.eval).size) (h2 : i < (xs.map (ev T)).length), Rep G w (os.map a.eval)[i] (xs.map (ev T))[i] := by
  obtain ⟨h1, h2⟩ := cOpds_rep (a := a) hT h
  refine ⟨by simpa using h1, fun i j1 j2 => ?_⟩
  have := h2 i (by simpa using j1) (by simpa using j2)
  simpa using this

theorem bi_ok {a : Act} {b : Builtin} {args : Array Operand} {tys : Array TypeId} {ty : TypeId} {as : Array Value} {H' : Heap} {v : AV} (h : args.map a.eval = as) (hk : OpOk P G w H' v (builtin b tys ty (args.map fun | .const _ => true | _ => false) as)) :
    OpOk P G w H' v (do let d ← resolve a.eval { callee := .builtin b, args := args, argTypes := tys } ty; invoke d.target d.args) := by
  subst h
  exact hk

theorem pure_inv {call : CallF} {op : AOp} {T : Env} {H H' : Heap} {v : AV} (hp : clsOf op = .pure) (h : opStep call op T H = some (.val v H')) : pureOp op T = some v ∧ H = H' := by
  have h : (match pureOp op T with | some v => some (Out.val v H) | none => none) = some (.val v H') := by
    cases op <;> first | (simp [clsOf] at hp; done) | exact h
  split at h
  · rename_i x hx
    simp only [Option.some.injEq, Out.val.injEq] at h
    exact ⟨by rw [hx, h.1], h.2⟩
  · cases h

theorem box_inv {call : CallF} {x : Opd} {T : Env} {H H' : Heap} {v : AV} (h : opStep call (.box x) T H = some (.val v H')) : ev T x ≠ .undef ∧ (∀ vs, ev T x ≠ .tuple vs) ∧ v = (boxA H (ev T x)).1 ∧ H' = (boxA H (ev T x)).2 := by
  simp only [opStep] at h
  split at h
  · cases h
  · cases h
  · rename_i h1 h2
    simp only [Option.some.injEq, Out.val.injEq] at h
    exact ⟨h1, h2, h.1.symm, h.2.symm⟩

/-- EACH OPERATION THAT MAKES NO CALL AND DOES NOT PANIC. -/
theorem op_sound {n : Nat} {a : Act} {T : Env} {H H' : Heap} {o : Oper} {op : AOp} {v : AV} {call : CallF} (hT : TRep G w n a.tmps T) (hH : HRep P G w H) (hc : cOp P o.op = some op) (hcls : clsOf op ≠ .call)
    (h : opStep call op T H = some (.val v H')) : OpOk P G w H' v (execOp a.eval o) := by
  obtain ⟨dst, oop, oty, pos, after, guard⟩ := o
  simp only at hc
  unfold execOp
  cases oop with
  | move x =>
    simp only [cOp, Option.map_eq_some_iff] at hc
    obtain ⟨y, hy, rfl⟩ := hc
    simp only [opStep, pureOp, Option.some.injEq, Out.val.injEq] at h
    obtain ⟨rfl, rfl⟩ := h
    exact .pureV hH (cOpd_rep hT hy)
  | assign x =>
    simp only [cOp, Option.map_eq_some_iff] at hc
    obtain ⟨y, hy, rfl⟩ := hc
    simp only [opStep, pureOp, Option.some.injEq, Out.val.injEq] at h
    obtain ⟨rfl, rfl⟩ := h
    exact .pureV hH (cOpd_rep hT hy)
  | pick c x y =>
    simp only [cOp] at hc
    split at hc <;> simp only [Option.some.injEq, reduceCtorEq] at hc
    rename_i c' x' y' h1 h2 h3
    subst hc
    (obtain ⟨hq, he⟩ := pure_inv rfl h; subst he; clear h; have h := hq; clear hq)
    simp only [pureOp] at h
    split at h <;> simp only [Option.some.injEq, reduceCtorEq] at h <;> subst h <;> rename_i hb
    · have := cOpd_rep (a := a) hT h1
      rw [hb] at this
      cases hv : a.eval c <;> rw [hv] at this <;> cases this
      refine ⟨.value (a.eval x), a.eval x, w, G, ?_, .inl rfl, .refl _ _, hH, cOpd_rep hT h2⟩
      simp [hv, asBool]
    · have := cOpd_rep (a := a) hT h1
      rw [hb] at this
      cases hv : a.eval c <;> rw [hv] at this <;> cases this
      refine ⟨.value (a.eval y), a.eval y, w, G, ?_, .inl rfl, .refl _ _, hH, cOpd_rep hT h3⟩
      simp [hv, asBool]
  | alloc e =>
    simp only [cOp] at hc
    split at hc <;> try (simp at hc; done)
    rename_i i hi
    split at hc <;> try (simp at hc; done)
    rename_i z hz
    simp only [Option.map_eq_some_iff] at hc
    obtain ⟨x, hx, rfl⟩ := hc
    have hr : Rep G w z x := ofV_rep hx
    obtain ⟨h1, h2, rfl, rfl⟩ := box_inv h
    simp only [ev] at h1 h2 ⊢
    obtain ⟨r1, r2, r3, r4⟩ := run_boxA (P := P) hH hr h1 h2 e
    refine ⟨.value _, _, _, _, ?_, .inl rfl, r2, r3, r4⟩
    simp [Instr.alloc, zeroValue, typeInfo, hi, hz, r1]
  | box e x =>
    simp only [cOp, Option.map_eq_some_iff] at hc
    obtain ⟨y, hy, rfl⟩ := hc
    have hr := cOpd_rep (a := a) hT hy
    obtain ⟨h1, h2, rfl, rfl⟩ := box_inv h
    obtain ⟨r1, r2, r3, r4⟩ := run_boxA (P := P) hH hr h1 h2 e
    refine ⟨.value _, _, _, _, ?_, .inl rfl, r2, r3, r4⟩
    simp [Instr.box, r1]
  | build t parts =>
    simp only [cOp] at hc
    split at hc <;> try (simp at hc; done)
    rename_i z place hz hpl
    simp only [Option.map_eq_some_iff] at hc
    obtain ⟨ps, hps, rfl⟩ := hc
    (obtain ⟨hq, he⟩ := pure_inv rfl h; subst he; clear h; have h := hq; clear hq)
    simp only [pureOp, Option.map_eq_some_iff] at h
    obtain ⟨cs, hcs, rfl⟩ := h
    exact .pure hH (run_buildA hT hz hpl hps hcs)
  | buildSlice t m parts =>
    simp only [cOp] at hc
    split at hc <;> try (simp at hc; done)
    rename_i e ht
    split at hc <;> try (simp at hc; done)
    rename_i es xs he hxs
    split at hc <;> try (simp at hc; done)
    rename_i hcond
    obtain ⟨c1, c2, c3, c4, c5⟩ := hcond
    simp only [Option.some.injEq] at hc
    subst hc
    (obtain ⟨hq, he⟩ := pure_inv rfl h; subst he; clear h; have h := hq; clear hq)
    simp only [pureOp] at h
    split at h <;> simp only [Option.some.injEq, reduceCtorEq] at h
    rename_i hok
    subst h
    exact .grow hH (run_bslice hH hT ht he hxs c1 c2 c3 c5 hok.1 hok.2)
  | load t x =>
    simp only [cOp] at hc
    split at hc <;> simp only [Option.some.injEq, reduceCtorEq] at hc
    rename_i g n' y h1 h2 h3
    subst hc
    simp only [opStep] at h
    split at h <;> simp only [Option.some.injEq, reduceCtorEq, Out.val.injEq] at h
    rename_i z hz
    obtain ⟨rfl, rfl⟩ := h
    exact .pure hH (run_loadA hH (cOpd_rep hT h3) hz h1 h2)
  | store t x y =>
    simp only [cOp] at hc
    split at hc <;> simp only [Option.some.injEq, reduceCtorEq] at hc
    rename_i n' x' y' h1 h2 h3
    subst hc
    simp only [opStep] at h
    split at h <;> simp only [Option.some.injEq, reduceCtorEq, Out.val.injEq] at h
    rename_i H1 hz
    obtain ⟨rfl, rfl⟩ := h
    obtain ⟨w', r1, r2, r3⟩ := run_storeA hH (cOpd_rep hT h2) (cOpd_rep (a := a) hT h3) hz h1
    exact ⟨.skip, Go.undef, w', G, by simp [r1], .inr ⟨rfl, rfl⟩, r2, r3, .undef _⟩
  | nilCheck x =>
    simp only [cOp, Option.map_eq_some_iff] at hc
    obtain ⟨y, hy, rfl⟩ := hc
    (obtain ⟨hq, he⟩ := pure_inv rfl h; subst he; clear h; have h := hq; clear hq)
    have hr := cOpd_rep (a := a) hT hy
    simp only [pureOp] at h
    split at h <;> simp only [Option.some.injEq, reduceCtorEq] at h <;> subst h <;> rename_i he <;> rw [he] at hr
    all_goals
      generalize hu : a.eval x = u at hr
      cases hr
      exact ⟨.value _, _, w, G, by simp only [hu]; rfl, .inl rfl, .refl _ _, hH, by constructor <;> assumption⟩
  | binOp bop t x y yt =>
    simp only [cOp] at hc
    split at hc <;> try (simp at hc; done)
    rename_i x' y' hx hy
    have rx := cOpd_rep (a := a) hT hx
    have ry := cOpd_rep (a := a) hT hy
    split at hc
    · rename_i nk hnil
      split at hc <;> simp only [Option.some.injEq, reduceCtorEq] at hc <;> subst hc <;> (obtain ⟨hq, he⟩ := pure_inv rfl h; subst he; clear h; have h := hq; clear hq)
      · exact .pure hH (run_eqnil (neg := false) rx h hnil fun c hc => by subst hc; rfl)
      · exact .pure hH (run_eqnil (neg := true) rx h hnil fun c hc => by subst hc; rfl)
    unfold cBin at hc
    split at hc
    · rename_i hok
      simp only [Option.some.injEq] at hc
      subst hc
      (obtain ⟨hq, he⟩ := pure_inv rfl h; subst he; clear h; have h := hq; clear hq)
      exact .grow hH (run_binA hH.base rx ry h hok)
    · split at hc
      · rename_i hbo
        have hbt : P.underlying t = some .bool := by
          unfold boolOk at hbo
          split at hbo
          · assumption
          · cases hbo
        split at hc <;> simp only [Option.some.injEq, reduceCtorEq] at hc <;> subst hc <;> (obtain ⟨hq, he⟩ := pure_inv rfl h; subst he; clear h; have h := hq; clear hq)
        · exact .pure hH (run_eqb (neg := false) rx ry h hbt)
        · exact .pure hH (run_eqb (neg := true) rx ry h hbt)
      · split at hc <;> simp only [Option.some.injEq, reduceCtorEq] at hc <;> subst hc <;> (obtain ⟨hq, he⟩ := pure_inv rfl h; subst he; clear h; have h := hq; clear hq)
        · exact .pure hH (run_eqst (neg := false) (by assumption) rx ry h)
        · exact .pure hH (run_eqst (neg := true) (by assumption) rx ry h)
  | unOp uop t x =>
    simp only [cOp, Option.map_eq_some_iff] at hc
    obtain ⟨y, hy, rfl⟩ := hc
    (obtain ⟨hq, he⟩ := pure_inv rfl h; subst he; clear h; have h := hq; clear hq)
    exact .pure hH (run_un (cOpd_rep hT hy) h)
  | convert s d x =>
    simp only [cOp] at hc
    split at hc <;> try (simp at hc; done)
    · rename_i ds k y h1 h2 h3
      simp only [Option.some.injEq] at hc
      subst hc
      (obtain ⟨hq, he⟩ := pure_inv rfl h; subst he; clear h; have h := hq; clear hq)
      exact .pure hH (run_conv_int (cOpd_rep hT h3) h h1 h2)
    · rename_i k y h1 h2 h3
      simp only [Option.some.injEq] at hc
      subst hc
      (obtain ⟨hq, he⟩ := pure_inv rfl h; subst he; clear h; have h := hq; clear hq)
      exact .pure hH (run_conv_flt (cOpd_rep hT h3) h h1 h2)
    · rename_i y h1 h2 h3
      simp only [Option.some.injEq] at hc
      subst hc
      (obtain ⟨hq, he⟩ := pure_inv rfl h; subst he; clear h; have h := hq; clear hq)
      exact .pure hH (run_conv_str (cOpd_rep hT h3) h h1 h2)
    · rename_i e y h1 h2 h3
      split at hc <;> simp only [Option.some.injEq, reduceCtorEq] at hc
      rename_i he
      subst hc
      (obtain ⟨hq, he⟩ := pure_inv rfl h; subst he; clear h; have h := hq; clear hq)
      exact .pure hH (run_conv_bytes (cOpd_rep hT h3) h h1 he h2)
  | makeInterface t x =>
    simp only [cOp] at hc
    split at hc <;> simp only [Option.some.injEq, reduceCtorEq] at hc
    rename_i d y hne h1 h2
    subst hc
    (obtain ⟨hq, he⟩ := pure_inv rfl h; subst he; clear h; have h := hq; clear hq)
    simp only [pureOp, Option.some.injEq] at h
    subst h
    refine .pure hH ⟨_, ?_, .iface t _ _ (cOpd_rep hT h2)⟩
    cases d <;> first | exact (hne _ rfl).elim | simp [Instr.makeInterface, run_underlying h1]
  | makeFunc fn first caps =>
    cases fn <;> simp only [cOp, reduceCtorEq] at hc
    split at hc <;> try (simp at hc; done)
    rename_i f hfirst
    simp only [Option.map_eq_some_iff] at hc
    obtain ⟨xs, hxs, rfl⟩ := hc
    (obtain ⟨hq, he⟩ := pure_inv rfl h; subst he; clear h; have h := hq; clear hq)
    simp only [pureOp, Option.some.injEq] at h
    subst h
    obtain ⟨j1, j2⟩ := cOpds_map (a := a) hT hxs
    have hf : first = #[] := by simpa using hfirst
    subst hf
    exact .pure hH ⟨_, rfl, by rw [show Array.map a.eval #[] = #[] from by simp]; exact .func f _ _ j1 j2⟩
  | slice t x lo hi mx =>
    simp only [cOp] at hc
    split at hc <;> try (simp at hc; done)
    rename_i x' lo' hi' mx' h1 h2 h3 h4
    obtain ⟨l1, l2⟩ := cOpt_rep (a := a) hT h2
    obtain ⟨i1, i2⟩ := cOpt_rep (a := a) hT h3
    obtain ⟨m1, m2⟩ := cOpt_rep (a := a) hT h4
    split at hc
    · rename_i ht
      simp only [Option.some.injEq] at hc
      subst hc
      (obtain ⟨hq, he⟩ := pure_inv rfl h; subst he; clear h; have h := hq; clear hq)
      exact .pure hH (run_slice (cOpd_rep hT h1) h (.inl ⟨ht, rfl⟩) l1 l2 i1 i2 m1 m2)
    · rename_i e ht
      split at hc <;> try (simp at hc; done)
      rename_i es he
      split at hc <;> try (simp at hc; done)
      rename_i hne
      simp only [Option.some.injEq] at hc
      subst hc
      (obtain ⟨hq, he⟩ := pure_inv rfl h; subst he; clear h; have h := hq; clear hq)
      exact .pure hH (run_slice (cOpd_rep hT h1) h (.inr ⟨e, ht, he, hne⟩) l1 l2 i1 i2 m1 m2)
    · simp at hc
  | fieldAddr s x f =>
    simp only [cOp] at hc
    split at hc <;> try (simp at hc; done)
    rename_i fl y hf hy
    split at hc <;> try (simp at hc; done)
    rename_i n' hn
    split at hc <;> try (simp at hc; done)
    rename_i hne
    simp only [Option.some.injEq] at hc
    subst hc
    (obtain ⟨hq, he⟩ := pure_inv rfl h; subst he; clear h; have h := hq; clear hq)
    exact .pure hH (run_fld (cOpd_rep hT hy) h hf hn hne)
  | field s x f =>
    simp only [cOp] at hc
    split at hc <;> try (simp at hc; done)
    rename_i fl y hf hy
    split at hc <;> try (simp at hc; done)
    rename_i g n' hg hn
    split at hc <;> try (simp at hc; done)
    rename_i hne
    simp only [Option.some.injEq] at hc
    subst hc
    (obtain ⟨hq, he⟩ := pure_inv rfl h; subst he; clear h; have h := hq; clear hq)
    exact .pure hH (run_fldv (cOpd_rep hT hy) h hf hg hn hne)
  | indexAddr t x i =>
    simp only [cOp] at hc
    split at hc <;> try (simp at hc; done)
    rename_i e x' i' ht hx hi
    simp only [Option.map_eq_some_iff] at hc
    obtain ⟨es, he, rfl⟩ := hc
    (obtain ⟨hq, he⟩ := pure_inv rfl h; subst he; clear h; have h := hq; clear hq)
    exact .pure hH (run_idx (cOpd_rep hT hx) (cOpd_rep hT hi) h ht he)
  | index t x i =>
    simp only [cOp] at hc
    split at hc <;> simp only [Option.some.injEq, reduceCtorEq] at hc
    rename_i x' i' ht hx hi
    subst hc
    (obtain ⟨hq, he⟩ := pure_inv rfl h; subst he; clear h; have h := hq; clear hq)
    exact .pure hH (run_idxs (cOpd_rep hT hx) (cOpd_rep hT hi) h ht)
  | extract x i =>
    simp only [cOp, Option.map_eq_some_iff] at hc
    obtain ⟨y, hy, rfl⟩ := hc
    (obtain ⟨hq, he⟩ := pure_inv rfl h; subst he; clear h; have h := hq; clear hq)
    exact .pure hH (run_extract (cOpd_rep hT hy) h)
  | panic x =>
    simp only [cOp, Option.map_eq_some_iff] at hc
    obtain ⟨y, hy, rfl⟩ := hc
    simp only [opStep] at h
    split at h <;> simp at h
  | call c =>
    obtain ⟨callee, args, argTypes⟩ := c
    cases callee with
    | value f =>
      simp only [cOp] at hc
      split at hc <;> simp only [Option.some.injEq, reduceCtorEq] at hc
      subst hc
      exact absurd rfl hcls
    | invoke r m => simp [cOp] at hc
    | builtin b =>
      cases b <;> try (simp [cOp] at hc; done)
      · -- append
        simp only [cOp] at hc
        split at hc <;> try (simp at hc; done)
        rename_i x y t u hargs htys
        split at hc <;> try (simp at hc; done)
        rename_i e e2 x' y' ht hu hx hy
        split at hc <;> try (simp at hc; done)
        rename_i i hi
        split at hc <;> try (simp at hc; done)
        rename_i hcond
        obtain ⟨c1, c2, c3⟩ := hcond
        simp only [Option.some.injEq] at hc
        subst hc
        simp only [opStep] at h
        split at h <;> simp only [Option.some.injEq, reduceCtorEq, Out.val.injEq] at h
        rename_i r hr
        obtain ⟨rfl, rfl⟩ := h
        have e1 : args = #[x, y] := by rw [← args.toArray_toList, hargs]
        have e3 : argTypes = #[t, u] := by rw [← argTypes.toArray_toList, htys]
        subst e1; subst e3
        cases hz : i.zero with
        | none => simp [hz] at c3
        | some z =>
          simp only [hz, Option.any_some, beq_iff_eq] at c3
          refine bi_ok (as := #[a.eval x, a.eval y]) (by simp) ?_
          exact .step (run_appendA hH (cOpd_rep hT hx) (cOpd_rep hT hy) hr ht hu hi hz c3 c1 c2)
      · -- len
        simp only [cOp] at hc
        split at hc <;> try (simp at hc; done)
        rename_i x t hargs htys
        have e1 : args = #[x] := by rw [← args.toArray_toList, hargs]
        have e3 : argTypes = #[t] := by rw [← argTypes.toArray_toList, htys]
        subst e1; subst e3
        split at hc <;> simp only [Option.some.injEq, reduceCtorEq] at hc <;> subst hc <;> (obtain ⟨hq, he⟩ := pure_inv rfl h; subst he; clear h; have h := hq; clear hq)
        · refine bi_ok (as := #[a.eval x]) (by simp) ?_
          exact .pure hH (run_len (st := true) (cOpd_rep hT (by assumption)) h (by assumption))
        · refine bi_ok (as := #[a.eval x]) (by simp) ?_
          exact .pure hH (run_len (st := false) (cOpd_rep hT (by assumption)) h ⟨_, by assumption⟩)
      · -- max
        simp only [cOp] at hc
        split at hc <;> try (simp at hc; done)
        rename_i x y hargs
        split at hc <;> simp only [Option.some.injEq, reduceCtorEq] at hc
        rename_i x' y' hx hy
        subst hc
        (obtain ⟨hq, he⟩ := pure_inv rfl h; subst he; clear h; have h := hq; clear hq)
        have e1 : args = #[x, y] := by rw [← args.toArray_toList, hargs]
        subst e1
        refine bi_ok (as := #[a.eval x, a.eval y]) (by simp) ?_
        exact .pure hH (run_mm (mx := true) (as := argTypes) (ty := oty) (cOpd_rep hT hx) (cOpd_rep (a := a) hT hy) h)
      · -- min
        simp only [cOp] at hc
        split at hc <;> try (simp at hc; done)
        rename_i x y hargs
        split at hc <;> simp only [Option.some.injEq, reduceCtorEq] at hc
        rename_i x' y' hx hy
        subst hc
        (obtain ⟨hq, he⟩ := pure_inv rfl h; subst he; clear h; have h := hq; clear hq)
        have e1 : args = #[x, y] := by rw [← args.toArray_toList, hargs]
        subst e1
        refine bi_ok (as := #[a.eval x, a.eval y]) (by simp) ?_
        exact .pure hH (run_mm (mx := false) (as := argTypes) (ty := oty) (cOpd_rep hT hx) (cOpd_rep (a := a) hT hy) h)
  | _ => simp [cOp] at hc

end Go.Aa
