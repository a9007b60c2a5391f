/-
  THE CODE: the machine's way through a function's (or a round's) statements.
-/
import Derived.Test.YtmlipdlbeddijaaDoorAaJ
set_option linter.unusedVariables false
set_option linter.unusedSimpArgs false
namespace Go.Aa
open Go.RowKit

variable {P : Program} {G G' : Ghost} {w w' : World}

/-- What is left to do, item by item. -/
inductive KRep (P : Program) (nt : Nat) (ρ : Option Nat) : List AIt → List Item → Prop
  | nil : KRep P nt ρ [] []
  | code {c : Code} {ac : ACode} {k : List AIt} {todo : List Item} (h : cCode P nt c = some ac) (hk : KRep P nt ρ k todo) : KRep P nt ρ (.c ac :: k) (.code c :: todo)
  | blk {id : Nat} {k : List AIt} {todo : List Item} (hk : KRep P nt ρ k todo) : KRep P nt ρ (.blk id :: k) (.inBlock id :: todo)
  | lp {c : Code} {ac : ACode} {k : List AIt} {todo : List Item} (h : cCode P nt c = some ac) (hk : KRep P nt ρ k todo) : KRep P nt ρ (.lp ac :: k) (.inLoop c :: todo)
  | beg {l : Nat} {k : List AIt} {todo : List Item} (h : ρ = some l) (hk : KRep P nt ρ k todo) : KRep P nt ρ (.beg l :: k) (.beginRound :: todo)

theorem KRep.exit {nt : Nat} {ρ : Option Nat} {id : Nat} {k k' : List AIt} {todo : List Item} (h : KRep P nt ρ k todo) (he : exitA id k = some k') : ∃ todo', exitTo id todo = some todo' ∧ KRep P nt ρ k' todo' := by
  induction h with
  | nil => simp [exitA] at he
  | code h hk ih => obtain ⟨t, h1, h2⟩ := ih (by simpa [exitA] using he); exact ⟨t, by simpa [exitTo] using h1, h2⟩
  | @blk i k todo hk ih =>
    simp only [exitA] at he
    split at he
    · rename_i hi
      simp only [Option.some.injEq] at he
      subst he
      exact ⟨_, by simp [exitTo, hi], hk⟩
    · rename_i hi
      obtain ⟨t, h1, h2⟩ := ih he
      exact ⟨t, by simpa [exitTo, hi] using h1, h2⟩
  | lp h hk ih => obtain ⟨t, h1, h2⟩ := ih (by simpa [exitA] using he); exact ⟨t, by simpa [exitTo] using h1, h2⟩
  | beg h hk ih => obtain ⟨t, h1, h2⟩ := ih (by simpa [exitA] using he); exact ⟨t, by simpa [exitTo] using h1, h2⟩

/-- Where a function, or a round, comes to. -/
def End (P : Program) (G0 : Ghost) (w0 : World) (b : Frame) (cs : List Frame) (ρ : Option Nat) (m : Machine) (r : ARes) (H' : Heap) : Prop :=
  match ρ with
  | none => ∃ e w' fr G', Step G0 w0 G' w' ∧ HRep P G' w' H' ∧ EndOk G' w' e r ∧ Steps P m (lone fr cs w') ∧ fr.fn = b.fn ∧ fr.leaving P w' e
  | some _ => match r with
    | .pan _ => ∃ e w' fr G', Step G0 w0 G' w' ∧ HRep P G' w' H' ∧ EndOk G' w' e r ∧ Steps P m (lone fr cs w') ∧ fr.fn = b.fn ∧ fr.leaving P w' e
    | .ret _ => ∃ a' w' G', Step G0 w0 G' w' ∧ HRep P G' w' H' ∧ Steps P m (lone (b.atR a' []) cs w')

theorem End.of_steps {G0 : Ghost} {w0 : World} {b : Frame} {cs : List Frame} {ρ : Option Nat} {m m1 : Machine} {r : ARes} {H' : Heap} (hs : Steps P m m1) (h : End P G0 w0 b cs ρ m1 r H') : End P G0 w0 b cs ρ m r H' := by
  cases ρ with
  | none =>
    obtain ⟨e, w', fr, G', h1, h2, h3, h4, h5⟩ := h
    exact ⟨e, w', fr, G', h1, h2, h3, Steps.trans hs h4, h5⟩
  | some l =>
    cases r with
    | pan v =>
      obtain ⟨e, w', fr, G', h1, h2, h3, h4, h5⟩ := h
      exact ⟨e, w', fr, G', h1, h2, h3, Steps.trans hs h4, h5⟩
    | ret v =>
      obtain ⟨a', w', G', h1, h2, h3⟩ := h
      exact ⟨a', w', G', h1, h2, Steps.trans hs h3⟩

theorem TRep.keep {n : Nat} {tmps : Array Value} {T : Env} (h : TRep G w n tmps T) (hk : Keep G w G' w') : TRep G' w' n tmps T := ⟨h.size, fun i => (h.get i).keep hk⟩

theorem fn_return {G0 : Ghost} {w0 : World} {b fr : Frame} {cs : List Frame} {fn : Func} {A : AFunc} {nt : Nat} {a : Act} {T : Env} {H H' : Heap} {r : ARes} (hf : P.funcs[b.fn]? = some fn) (hres : cRes P fn.results.toList = some A.results)
    (hT : TRep G w nt a.tmps T) (hH : HRep P G w H) (hst : Step G0 w0 G w) (hm : Marks w0 w a.defers) (h1 : fr.mode = .returning) (h2 : fr.tmps = a.tmps) (h3 : fr.defers = a.defers) (h4 : fr.kind = .normal) (h5 : fr.fn = b.fn)
    (h : retA A T H = some (r, H')) : End P G0 w0 b cs none (lone fr cs w) r H' := by
  obtain ⟨w', s1, s2, s3, s4⟩ := unwind_marks (cs := cs) a.defers hst hH hm (by rw [h1]; simp) h3
  obtain ⟨rfl, v, u, rfl, r1, r2⟩ := ret_run (hT.keep s4) s3 hres h
  exact ⟨.returned u, w', _, G, s2, s3, ⟨u, rfl, r2⟩, s1, h5, h1, rfl, h4, fn, by rw [h5]; exact hf, by rw [h2]; exact r1⟩

theorem fn_panic {ρ : Option Nat} {G0 : Ghost} {w0 : World} {b fr : Frame} {cs : List Frame} {fn : Func} {df : List Deferred} {H : Heap} {v : AV} {u : Value} (hf : P.funcs[b.fn]? = some fn) (hH : HRep P G w H) (hst : Step G0 w0 G w) (hm : Marks w0 w df)
    (hr : Rep G w u v) (h1 : fr.mode = .panicking [{ v := u, recovered := false }]) (h3 : fr.defers = df) (h5 : fr.fn = b.fn) : End P G0 w0 b cs ρ (lone fr cs w) (.pan v) H := by
  obtain ⟨w', s1, s2, s3, s4⟩ := unwind_marks (cs := cs) df hst hH hm (by rw [h1]; simp) h3
  cases ρ <;> exact ⟨.panicked [{ v := u, recovered := false }], w', _, G, s2, s3, ⟨u, rfl, hr.keep s4⟩, s1, h5, h1, rfl, fn, by rw [h5]; exact hf⟩

theorem retA_ret {A : AFunc} {T : Env} {H H' : Heap} {r : ARes} (h : retA A T H = some (r, H')) : H' = H ∧ ∃ v, r = .ret v := by
  unfold retA at h
  split at h <;> simp only [Option.some.injEq, Prod.mk.injEq, reduceCtorEq] at h <;> exact ⟨h.2.symm, _, h.1.symm⟩

/-! ### A loop over a function -/
theorem Step.addLoop {G2 : Ghost} {w2 : World} {s : Nat} (h : Step G w G2 w2) (hs : w.heap.size ≤ s) : Step G w { G2 with nl := G2.nl + 1, ln := fun k => if k = G2.nl then s else G2.ln k } w2 := by
  have h0 := h.nl
  refine ⟨h.os, h.tape, h.output, h.size, h.lim, h.cell, h.nb, h.μ, h.μnew, h.nt, h.ext, h.τ, h.tes, h.τnew, Nat.le_succ_of_le h.nl, fun k hk => ?_, fun k k1 k2 => ?_, h.frame⟩
  · simp only
    rw [if_neg (by omega)]
    exact h.ln k hk
  · simp only
    split
    · exact hs
    · exact h.lnew k k1 (by simp only at k2; omega)

theorem HRep.addLoop {H : Heap} {s : Nat} {r : LRec} {rec : Loop} (hH : HRep P G w H) (h : w.heap[s]? = some (.loop rec)) (hne : ∀ l, l < G.nl → G.ln l ≠ s) (hr : LRep P { G with nl := G.nl + 1, ln := fun k => if k = G.nl then s else G.ln k } w r rec) :
    HRep P { G with nl := G.nl + 1, ln := fun k => if k = G.nl then s else G.ln k } w { H with loops := H.loops ++ [r] } := by
  have hk : Keep G w { G with nl := G.nl + 1, ln := fun k => if k = G.nl then s else G.ln k } w :=
    ⟨fun _ => Nat.le_refl _, fun _ _ _ => rfl, Nat.le_refl _, fun _ _ => rfl, Nat.le_refl _, fun _ _ => Nat.le_refl _, fun _ _ _ => ⟨rfl, rfl⟩, fun _ _ => rfl, Nat.le_succ _, fun k hk => if_neg (by omega)⟩
  have el := hH.nl
  refine ⟨hH.base, hH.nb, hH.nt, by simp [hH.nl], fun k hk' => ?_, hH.μinj, hH.μlim, hH.tok, hH.τinj, hH.μτ, fun l hl => ?_, fun i j hi hj e => ?_⟩
  · obtain ⟨us, e, a1, a2, a3⟩ := hH.box k hk'
    exact ⟨us, e, a1, a2, fun i i1 i2 => (a3 i i1 i2).keep hk⟩
  · by_cases hlt : l < H.loops.length
    · obtain ⟨rec0, a1, a2⟩ := hH.loop l hlt
      refine ⟨rec0, ?_, ?_⟩
      · simp only; rw [if_neg (by omega)]; exact a1
      · simp only [List.getElem_append_left hlt]; exact a2.keep hk
    · have : l = G.nl := by simp at hl; omega
      subst this
      refine ⟨rec, by simp only [if_true]; exact h, ?_⟩
      have : (H.loops ++ [r])[G.nl]'hl = r := by simp [el]
      simp only [this]
      exact hr
  · simp only at hi hj e
    split at e
    · split at e
      · omega
      · exact absurd e.symm (hne j (by omega))
    · split at e
      · exact absurd e (hne i (by omega))
      · exact hH.linj i j (by omega) (by omega) e

theorem stepR_rangeFunc_value {b : Frame} {a : Act} {k : List Item} {cs : List Frame} {g : Operand} {ps : Array Tmp} {assign body : Code} {l : Nat} {mark : List Deferred} {w₁ w₁' w₂ : World} {d : Deferred} {v : Value}
    (he : (Instr.enterLoop b.fn a.tmps ps assign body b.roundOf).run P w = .ok (l, mark) w₁)
    (hres : (resolve a.eval (rangeCall g l) 0).run P w₁ = .ok d w₁') (hinv : (invoke d.target d.args).run P w₁' = .ok (.value v) w₂) :
    step P (lone (b.atR a (.code (.rangeFunc g ps assign body) :: k)) cs w) = .next (lone ((b.atR { a with defers := mark ++ a.defers } (.inRangeFunc l :: k)).finish v) cs w₂) :=
  step_lone_go (by
    have hev := Frame.eval_atR b { a with defers := mark ++ a.defers } (.inRangeFunc l :: k)
    simp only [Frame.atR] at hev
    have hres' : Sem.run P (resolve ({ tmps := a.tmps, defers := mark ++ a.defers } : Act).eval { callee := .value g, args := #[.const (.func (.yield l) #[] #[])], argTypes := #[] } 0) w₁ = .ok d w₁' := hres
    simp [stepG, stepG.exec, Frame.atR, Sem.runT_eq, he, GStep.bare_after, stepG.apply, hev, Sem.run_bind, hres', hinv, Result.andThen])

theorem range_sound {call : CallF} (hc : CallSound P call) {nt : Nat} {b : Frame} {a : Act} {T : Env} {H H4 : Heap} {A : AFunc} {g : Operand} {go : Opd} {ps : Array Tmp} {assign body : Code} {aa ab : ACode} (hro : b.roundOf = none)
    (hf : ∃ fn, P.funcs[b.fn]? = some fn) (hT : TRep G w nt a.tmps T) (hH : HRep P G w H) (hg : cOpd g = some go) (ha : cCode P nt assign = some aa) (hb : cCode P nt body = some ab) (hps : ps.toList.all (fun d => decide (d < nt)) = true)
    {v4 : AV} (h : rangeA call (ev T go) A T ps.toList aa ab H = some (.val v4 H4)) (cs : List Frame) (k : List Item) :
    ∃ w' G' m, Steps P (lone (b.atR a (.code (.rangeFunc g ps assign body) :: k)) cs w) (lone (b.atR { a with defers := { target := .collected m, args := #[] } :: a.defers } k) cs w') ∧ Step G w G' w' ∧ HRep P G' w' H4 ∧ w.heap.size ≤ m ∧
      w'.heap[m]? = some (.deferred (some [])) := by
  obtain ⟨f, caps, hev, hh⟩ := rangeA_inv h
  rcases hh with ⟨v, H3, _, hcall, h, he4⟩ | ⟨v, H3, _, hcall, _, _, he4⟩
  · cases he4
    have rg := cOpd_rep (a := a) hT hg
    rw [hev] at rg
    generalize hu : a.eval g = u at rg
    cases rg with
    | func _ us _ hn hr =>
    have he := run_enterLoop_outer (P := P) (w := w) b.fn a.tmps ps assign body
    rw [← hro] at he
    -- the world with the two blocks
    let rec0 : Loop := { state := .ready, pending := none, fn := b.fn, tmps := a.tmps, params := ps, assign := assign, body := body, defers := w.heap.size }
    let w1 : World := (w.alloc (.deferred (some []))).alloc (.loop rec0)
    let Ga : Ghost := (G.set w.heap.size 0).set (w.alloc (.deferred (some []))).heap.size 0
    have g1 : Grow G w (G.set w.heap.size 0) (w.alloc (.deferred (some []))) := .alloc hH.base _ _
    have g2 : Grow (G.set w.heap.size 0) (w.alloc (.deferred (some []))) Ga w1 := .alloc g1.base _ _
    have gg : Grow G w Ga w1 := g1.trans g2
    have hHa : HRep P Ga w1 H := hH.grow gg
    have hsta := gg.step hH.base
    let s : Nat := w.heap.size + 1
    have enl : Ga.nl = G.nl := rfl
    let Gb : Ghost := { Ga with nl := Ga.nl + 1, ln := fun k => if k = Ga.nl then s else Ga.ln k }
    have hstb : Step G w Gb w1 := hsta.addLoop (by simp [s])
    have hloop : w1.heap[s]? = some (.loop rec0) := by
      have := World.alloc_heap_new (w.alloc (.deferred (some []))) (.loop rec0)
      simpa [w1, s] using this
    have hmark : w1.heap[w.heap.size]? = some (.deferred (some [])) := by
      have h1 := World.alloc_heap_new w (.deferred (some []))
      have h2 := Below.heap_alloc (w.alloc (.deferred (some []))) (.loop rec0) w.heap.size (by simp)
      show w1.heap[w.heap.size]? = _
      rw [h2]; exact h1
    let r : LRec := ⟨A, T, ps.toList, aa, ab, false, H.boxes.length, H.toks.length, H.loops.length⟩
    have hlr : LRep P Gb w1 r rec0 := by
      refine ⟨fun _ => rfl, rfl, rfl, hf, ⟨?_, ?_, ?_, fun i => ?_⟩, nt, hT.step hstb, hps, ha, hb⟩
      · show H.boxes.length ≤ G.nb
        rw [hH.nb]; exact Nat.le_refl _
      · show H.toks.length ≤ G.nt
        rw [hH.nt]; exact Nat.le_refl _
      · show H.loops.length ≤ G.nl + 1
        rw [hH.nl]; exact Nat.le_succ _
      · have := (hT.get i).fits
        rw [hH.nb, hH.nt, hH.nl] at this
        exact this
    have hHb : HRep P Gb w1 { H with loops := H.loops ++ [r] } := hHa.addLoop hloop (fun l hl e => by
      have := hHa.lnlt hl
      have h2 := hH.lnlt (l := l) hl
      have e2 : Ga.ln l = G.ln l := rfl
      rw [e2] at e
      simp only [s] at e
      omega) hlr
    -- the call
    have hargs : Args Gb w1 (#[.func (.yield s) #[] #[]] ++ us) ([AV.yield H.loops.length] ++ caps) := by
      refine Args.append (us := #[.func (.yield s) #[] #[]]) (as := [AV.yield H.loops.length]) ⟨rfl, fun i h1 h2 => ?_⟩ (Args.step ⟨hn, hr⟩ hstb)
      have : i = 0 := by simp at h1; omega
      subst this
      have e2 : Gb.ln H.loops.length = s := by
        show (if H.loops.length = G.nl then s else G.ln H.loops.length) = s
        rw [if_pos hH.nl.symm]
      have := Rep.yield (G := Gb) (w := w1) H.loops.length (by show H.loops.length < G.nl + 1; rw [hH.nl]; exact Nat.lt_succ_self _)
      rw [e2] at this
      exact this
    have hnd : (([AV.yield H.loops.length] : List AV).all isData && caps.all data0) = false := by simp [isData, data2, data1, data0]
    unfold callV at hcall
    simp only [hnd, Bool.false_eq_true, if_false, callE] at hcall
    split at hcall <;> simp only [Option.some.injEq, reduceCtorEq, Out.val.injEq] at hcall
    rename_i v0 H2 hrun
    obtain ⟨rfl, rfl⟩ := hcall
    have hco := hc.fn f _ _ _ _ hrun Gb w1 _ hHb hargs
    have hres : (resolve a.eval (rangeCall g s) 0).run P w1 = .ok { target := .fn (.func f) us, args := #[.func (.yield s) #[] #[]] } w1 := by
      have e1 : (rangeCall g s).args.map a.eval = #[Value.func (.yield s) #[] #[]] := by simp [rangeCall, Act.eval]
      unfold resolve
      simp only [e1]
      show (Deferred.ofValue (a.eval g) #[Value.func (.yield s) #[] #[]]).run P w1 = _
      rw [hu]
      rfl
    have hinv : (invoke (.fn (.func f) us) #[.func (.yield s) #[] #[]]) = callFunc f (#[.func (.yield s) #[] #[]] ++ us) := rfl
    -- the end of the loop
    have fin : ∀ (u0 : Value) (w2 : World), PostOk P Gb w1 (.ret v0) H2 (.returned u0) w2 →
        ∃ w' G', step P (lone (b.atR { a with defers := { target := .collected w.heap.size, args := #[] } :: a.defers } (.endRangeFunc s :: k)) cs w2) = .next (lone (b.atR { a with defers := { target := .collected w.heap.size, args := #[] } :: a.defers } k) cs w') ∧
          Step G w G' w' ∧ HRep P G' w' H4 ∧ w'.heap[w.heap.size]? = some (.deferred (some [])) := by
      intro u0 w2 hpost
      obtain ⟨G2, k1, k2, u', e1, e2⟩ := hpost
      obtain ⟨G3, t1, t2, _⟩ := trunc_sound k1 k2 e2.shut
      have enb : Gb.nb = H.boxes.length := hH.nb
      have ent : Gb.nt = H.toks.length := hH.nt
      rw [enb, ent] at t2
      generalize trunc H.boxes.length H.toks.length (shutA v0) H2 = H3 at h t2
      unfold dropL at h
      split at h
      · rename_i r3 hr3
        split at h <;> simp only [Option.some.injEq, reduceCtorEq] at h
        rename_i hcond
        obtain ⟨hbusy, hlo, hbo⟩ := hcond
        subst h
        obtain ⟨hlt3, hr3'⟩ := List.getElem?_eq_some_iff.1 hr3
        obtain ⟨rec3, j1, j2⟩ := t2.loop _ hlt3
        rw [hr3'] at j2
        have hln : G3.ln H.loops.length = s := by
          rw [t1.ln _ (show H.loops.length < G.nl + 1 by rw [hH.nl]; exact Nat.lt_succ_self _)]
          show (if H.loops.length = G.nl then s else G.ln H.loops.length) = s
          rw [if_pos hH.nl.symm]
        rw [hln] at j1
        have hend : (Instr.endLoop s).run P w2 = .ok none (w2.putObj s (.loop { rec3 with state := .exhausted, pending := none })) := by
          have := run_endLoop (P := P) j1 (by rw [j2.ready hbusy]; simp)
          rw [j2.pending] at this
          exact this
        have hst3 : Step G w G3 w2 := hstb.trans t1
        have hl3 : H.loops.length ≤ G3.nl := by rw [t2.nl]; exact Nat.le_of_lt hlt3
        have hcut : HRep P (G3.cut G3.nb G3.nt G.nl) w2 { H3 with loops := H3.loops.take H.loops.length } := by
          have := t2.cut (nb := G3.nb) (nt := G3.nt) (nl := G.nl) (Nat.le_refl _) (Nat.le_refl _) (by rw [hH.nl]; exact hl3) (fun cs' hcs' x hx v' hv' => by
            have := List.all_eq_true.1 (List.all_eq_true.1 hbo _ (List.mem_of_mem_take hcs')) x hx
            rw [← t2.nb, ← t2.nt] at this
            exact in2_fits hv' this) (fun r' hr' => by
            have hr2 : r' ∈ H3.loops.take H.loops.length := by rw [← hH.nl]; exact hr'
            have h3 := List.all_eq_true.1 hlo _ hr2
            obtain ⟨l', hl', rfl⟩ := List.getElem_of_mem (List.mem_of_mem_take hr2)
            obtain ⟨rec', _, a2⟩ := t2.loop l' hl'
            exact ⟨a2.fits.1, a2.fits.2.1, by rw [hH.nl]; simpa using h3⟩)
          rw [t2.nb, t2.nt, take_len, take_len, hH.nl] at this
          rw [t2.nb, t2.nt, hH.nl]
          exact this
        have hstc : Step G w (G3.cut G3.nb G3.nt G.nl) w2 := hst3.cut hst3.nb (Nat.le_refl _) hst3.nt (Nat.le_refl _) (Nat.le_refl _) (by rw [hH.nl]; exact hl3)
        refine ⟨_, _, ?_, hstc.putObj (o2 := .loop { rec3 with state := .exhausted, pending := none }) j1 trivial trivial (.inl (by simp [s])), hcut.putObj j1 trivial trivial fun l hl e => ?_, ?_⟩
        · have := stepR_endRangeFunc (P := P) (b := b) (a := { a with defers := { target := .collected w.heap.size, args := #[] } :: a.defers }) (k := k) (cs := cs) hend
          simpa using this
        · have hl' : l < G.nl := hl
          have e' : G3.ln l = s := e.symm
          rw [← hln] at e'
          have := t2.linj l H.loops.length (by rw [hH.nl] at hl'; omega) (by rw [t2.nl]; exact hlt3) e'
          rw [hH.nl] at hl'
          omega
        · rw [World.putObj_heap_other (by simp [s])]
          have hm1 : Marks w w1 [{ target := .collected w.heap.size, args := #[] }] :=
            ⟨fun d hd => by simp only [List.mem_singleton] at hd; subst hd; exact ⟨_, rfl, Nat.le_refl _, hmark⟩, by simp⟩
          obtain ⟨m', hm2, _, hm3⟩ := (hm1.step hHb t1).mark { target := .collected w.heap.size, args := #[] } (by simp)
          injection hm2 with hm2
          rw [hm2]; exact hm3
      · cases h
    rcases hco with ⟨w1', c1, c2, rfl⟩ | ⟨u0, w2, c1, c2⟩
    · obtain ⟨e, w2, fr, d1, d2, d3, d4⟩ := c2 (b.atR { a with defers := [{ target := .collected w.heap.size, args := #[] }] ++ a.defers } (.inRangeFunc s :: k) :: cs)
      have henter := stepR_rangeFunc (P := P) (b := b) (a := a) (k := k) (cs := cs) (w := w) he hres (by rw [hinv]; exact c1)
      cases e with
      | outgrown => exact absurd d1 postOk_outgrown
      | panicked ch => obtain ⟨_, _, _, u', h', _⟩ := d1; cases h'
      | returned u0 =>
        obtain ⟨w', G', f1, f2, f3, f4⟩ := fin u0 w2 d1
        refine ⟨w', G', w.heap.size, .head henter (Steps.trans d2 (.head (step_leave_returned d4) ?_)), f2, f3, Nat.le_refl _, f4⟩
        rw [finish_atR_inRangeFunc]
        exact .one f1
    · have henter := stepR_rangeFunc_value (P := P) (b := b) (a := a) (k := k) (cs := cs) (w := w) he hres (by rw [hinv]; exact c1)
      obtain ⟨w', G', f1, f2, f3, f4⟩ := fin u0 w2 c2
      refine ⟨w', G', w.heap.size, .head henter ?_, f2, f3, Nat.le_refl _, f4⟩
      rw [finish_atR_inRangeFunc]
      exact .one f1
  · cases he4

theorem range_panics {call : CallF} (hc : CallSound P call) {nt : Nat} {b : Frame} {a : Act} {T : Env} {H H4 : Heap} {A : AFunc} {g : Operand} {go : Opd} {ps : Array Tmp} {assign body : Code} {aa ab : ACode} (hro : b.roundOf = none)
    (hf : ∃ fn, P.funcs[b.fn]? = some fn) (hT : TRep G w nt a.tmps T) (hH : HRep P G w H) (hg : cOpd g = some go) (ha : cCode P nt assign = some aa) (hb : cCode P nt body = some ab) (hps : ps.toList.all (fun d => decide (d < nt)) = true)
    {v4 : AV} (h : rangeA call (ev T go) A T ps.toList aa ab H = some (.pan v4 H4)) (cs : List Frame) (k : List Item) :
    ∃ w' G' m u todo', Steps P (lone (b.atR a (.code (.rangeFunc g ps assign body) :: k)) cs w) (lone { b.atR { a with defers := { target := .collected m, args := #[] } :: a.defers } todo' with mode := .panicking [{ v := u, recovered := false }] } cs w') ∧ Step G w G' w' ∧ HRep P G' w' H4 ∧
      Rep G' w' u v4 ∧ w.heap.size ≤ m ∧ w'.heap[m]? = some (.deferred (some [])) := by
  obtain ⟨f, caps, hev, hh⟩ := rangeA_inv h
  rcases hh with ⟨v, H3, _, hcall, _, he4⟩ | ⟨v, H3, _, hcall, hdat, h, he4⟩
  · cases he4
  · cases he4
    have rg := cOpd_rep (a := a) hT hg
    rw [hev] at rg
    generalize hu : a.eval g = u at rg
    cases rg with
    | func _ us _ hn hr =>
    have he := run_enterLoop_outer (P := P) (w := w) b.fn a.tmps ps assign body
    rw [← hro] at he
    -- the world with the two blocks
    let rec0 : Loop := { state := .ready, pending := none, fn := b.fn, tmps := a.tmps, params := ps, assign := assign, body := body, defers := w.heap.size }
    let w1 : World := (w.alloc (.deferred (some []))).alloc (.loop rec0)
    let Ga : Ghost := (G.set w.heap.size 0).set (w.alloc (.deferred (some []))).heap.size 0
    have g1 : Grow G w (G.set w.heap.size 0) (w.alloc (.deferred (some []))) := .alloc hH.base _ _
    have g2 : Grow (G.set w.heap.size 0) (w.alloc (.deferred (some []))) Ga w1 := .alloc g1.base _ _
    have gg : Grow G w Ga w1 := g1.trans g2
    have hHa : HRep P Ga w1 H := hH.grow gg
    have hsta := gg.step hH.base
    let s : Nat := w.heap.size + 1
    have enl : Ga.nl = G.nl := rfl
    let Gb : Ghost := { Ga with nl := Ga.nl + 1, ln := fun k => if k = Ga.nl then s else Ga.ln k }
    have hstb : Step G w Gb w1 := hsta.addLoop (by simp [s])
    have hloop : w1.heap[s]? = some (.loop rec0) := by
      have := World.alloc_heap_new (w.alloc (.deferred (some []))) (.loop rec0)
      simpa [w1, s] using this
    have hmark : w1.heap[w.heap.size]? = some (.deferred (some [])) := by
      have h1 := World.alloc_heap_new w (.deferred (some []))
      have h2 := Below.heap_alloc (w.alloc (.deferred (some []))) (.loop rec0) w.heap.size (by simp)
      show w1.heap[w.heap.size]? = _
      rw [h2]; exact h1
    let r : LRec := ⟨A, T, ps.toList, aa, ab, false, H.boxes.length, H.toks.length, H.loops.length⟩
    have hlr : LRep P Gb w1 r rec0 := by
      refine ⟨fun _ => rfl, rfl, rfl, hf, ⟨?_, ?_, ?_, fun i => ?_⟩, nt, hT.step hstb, hps, ha, hb⟩
      · show H.boxes.length ≤ G.nb
        rw [hH.nb]; exact Nat.le_refl _
      · show H.toks.length ≤ G.nt
        rw [hH.nt]; exact Nat.le_refl _
      · show H.loops.length ≤ G.nl + 1
        rw [hH.nl]; exact Nat.le_succ _
      · have := (hT.get i).fits
        rw [hH.nb, hH.nt, hH.nl] at this
        exact this
    have hHb : HRep P Gb w1 { H with loops := H.loops ++ [r] } := hHa.addLoop hloop (fun l hl e => by
      have := hHa.lnlt hl
      have h2 := hH.lnlt (l := l) hl
      have e2 : Ga.ln l = G.ln l := rfl
      rw [e2] at e
      simp only [s] at e
      omega) hlr
    -- the call
    have hargs : Args Gb w1 (#[.func (.yield s) #[] #[]] ++ us) ([AV.yield H.loops.length] ++ caps) := by
      refine Args.append (us := #[.func (.yield s) #[] #[]]) (as := [AV.yield H.loops.length]) ⟨rfl, fun i h1 h2 => ?_⟩ (Args.step ⟨hn, hr⟩ hstb)
      have : i = 0 := by simp at h1; omega
      subst this
      have e2 : Gb.ln H.loops.length = s := by
        show (if H.loops.length = G.nl then s else G.ln H.loops.length) = s
        rw [if_pos hH.nl.symm]
      have := Rep.yield (G := Gb) (w := w1) H.loops.length (by show H.loops.length < G.nl + 1; rw [hH.nl]; exact Nat.lt_succ_self _)
      rw [e2] at this
      exact this
    have hnd : (([AV.yield H.loops.length] : List AV).all isData && caps.all data0) = false := by simp [isData, data2, data1, data0]
    unfold callV at hcall
    simp only [hnd, Bool.false_eq_true, if_false, callE] at hcall
    split at hcall <;> simp only [Option.some.injEq, reduceCtorEq, Out.pan.injEq] at hcall
    rename_i v0 H2 hrun
    obtain ⟨rfl, rfl⟩ := hcall
    have hco := hc.fn f _ _ _ _ hrun Gb w1 _ hHb hargs
    have hres : (resolve a.eval (rangeCall g s) 0).run P w1 = .ok { target := .fn (.func f) us, args := #[.func (.yield s) #[] #[]] } w1 := by
      have e1 : (rangeCall g s).args.map a.eval = #[Value.func (.yield s) #[] #[]] := by simp [rangeCall, Act.eval]
      unfold resolve
      simp only [e1]
      show (Deferred.ofValue (a.eval g) #[Value.func (.yield s) #[] #[]]).run P w1 = _
      rw [hu]
      rfl
    have hinv : (invoke (.fn (.func f) us) #[.func (.yield s) #[] #[]]) = callFunc f (#[.func (.yield s) #[] #[]] ++ us) := rfl
    have fin : ∀ (e0 : Ending) (w2 : World), PostOk P Gb w1 (.pan v0) H2 e0 w2 → ∃ u G', e0 = .panicked [{ v := u, recovered := false }] ∧ Step G w G' w2 ∧ HRep P G' w2 H4 ∧ Rep G' w2 u v0 ∧ w2.heap[w.heap.size]? = some (.deferred (some [])) := by
      intro e0 w2 hpost
      obtain ⟨G2, k1, k2, u', e1, e2⟩ := hpost
      obtain ⟨G3, t1, t2, t3⟩ := trunc_sound k1 k2 e2
      have enb : Gb.nb = H.boxes.length := hH.nb
      have ent : Gb.nt = H.toks.length := hH.nt
      rw [enb, ent] at t2
      generalize trunc H.boxes.length H.toks.length v0 H2 = H3 at h t2
      unfold dropP at h
      split at h <;> simp only [Option.some.injEq, reduceCtorEq] at h
      rename_i hcond
      obtain ⟨hlt3, hlo, hbo⟩ := hcond
      subst h
      have hst3 : Step G w G3 w2 := hstb.trans t1
      have hl3 : H.loops.length ≤ G3.nl := by rw [t2.nl]; exact Nat.le_of_lt hlt3
      have hcut : HRep P (G3.cut G3.nb G3.nt G.nl) w2 { H3 with loops := H3.loops.take H.loops.length } := by
        have := t2.cut (nb := G3.nb) (nt := G3.nt) (nl := G.nl) (Nat.le_refl _) (Nat.le_refl _) (by rw [hH.nl]; exact hl3) (fun cs' hcs' x hx v' hv' => by
          have := List.all_eq_true.1 (List.all_eq_true.1 hbo _ (List.mem_of_mem_take hcs')) x hx
          rw [← t2.nb, ← t2.nt] at this
          exact in2_fits hv' this) (fun r' hr' => by
          have hr2 : r' ∈ H3.loops.take H.loops.length := by rw [← hH.nl]; exact hr'
          have h3 := List.all_eq_true.1 hlo _ hr2
          obtain ⟨l', hl', rfl⟩ := List.getElem_of_mem (List.mem_of_mem_take hr2)
          obtain ⟨rec', _, a2⟩ := t2.loop l' hl'
          exact ⟨a2.fits.1, a2.fits.2.1, by rw [hH.nl]; simpa using h3⟩)
        rw [t2.nb, t2.nt, take_len, take_len, hH.nl] at this
        rw [t2.nb, t2.nt, hH.nl]
        exact this
      have hstc : Step G w (G3.cut G3.nb G3.nt G.nl) w2 := hst3.cut hst3.nb (Nat.le_refl _) hst3.nt (Nat.le_refl _) (Nat.le_refl _) (by rw [hH.nl]; exact hl3)
      refine ⟨u', _, e1, hstc, hcut, t3.data (isData_data hdat t3) (fun _ => Nat.le_refl _), ?_⟩
      have hm1 : Marks w w1 [{ target := .collected w.heap.size, args := #[] }] :=
        ⟨fun d hd => by simp only [List.mem_singleton] at hd; subst hd; exact ⟨_, rfl, Nat.le_refl _, hmark⟩, by simp⟩
      obtain ⟨m', hm2, _, hm3⟩ := (hm1.step hHb t1).mark { target := .collected w.heap.size, args := #[] } (by simp)
      injection hm2 with hm2
      rw [hm2]; exact hm3
    rcases hco with ⟨w1', c1, c2, rfl⟩ | ⟨u0, w2, c1, c2⟩
    · obtain ⟨e, w2, fr, d1, d2, d3, d4⟩ := c2 (b.atR { a with defers := [{ target := .collected w.heap.size, args := #[] }] ++ a.defers } (.inRangeFunc s :: k) :: cs)
      have henter := stepR_rangeFunc (P := P) (b := b) (a := a) (k := k) (cs := cs) (w := w) he hres (by rw [hinv]; exact c1)
      obtain ⟨u', G', rfl, f1, f2, f3, f4⟩ := fin e w2 d1
      exact ⟨w2, G', w.heap.size, u', _, .head henter (Steps.trans d2 (.one (step_leave_panicked d4))), f1, f2, f3, Nat.le_refl _, f4⟩
    · obtain ⟨u', G', h', _⟩ := fin _ _ c2
      cases h'

end Go.Aa
