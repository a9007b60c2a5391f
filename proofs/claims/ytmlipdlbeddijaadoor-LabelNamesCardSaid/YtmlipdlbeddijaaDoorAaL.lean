/-
  THE WHOLE RUN; ALL CALLS.
-/
import Derived.Test.YtmlipdlbeddijaaDoorAaK
set_option linter.unusedVariables false
set_option linter.unusedSimpArgs false
namespace Go.Aa
open Go.RowKit

variable {P : Program} {G G' : Ghost} {w w' : World}

theorem run_sim {call : CallF} (hc : CallSound P call) (hmix : P.follows .mixedOrders = true) {A : AFunc} {ρ : Option Nat} {nt : Nat} {G0 : Ghost} {w0 : World} {b : Frame} {fn : Func} (hfn : P.funcs[b.fn]? = some fn)
    (hres : ρ = none → cRes P fn.results.toList = some A.results) (hA : A.round = ρ.isSome) (hkind : b.kind = .normal) {cs : List Frame} :
    ∀ (n : Nat) (k : List AIt) (T : Env) (H : Heap) (r : ARes) (H' : Heap), run call A n k T H = some (r, H') → ∀ (G : Ghost) (w : World) (a : Act) (todo : List Item), b.roundOf = ρ.map G.ln → (∀ l, ρ = some l → l < G.nl) →
      KRep P nt ρ k todo → TRep G w nt a.tmps T → HRep P G w H → Step G0 w0 G w → Marks w0 w a.defers → End P G0 w0 b cs ρ (lone (b.atR a todo) cs w) r H' := by
  intro n
  induction n with
  | zero => intro k T H r H' h; cases k <;> simp [run] at h
  | succ n ih =>
    intro k T H r H' h G w a todo hro hl hk hT hH hst hm
    have next : ∀ {G' : Ghost} {w' : World} {a' : Act} {k' : List AIt} {todo' : List Item} {T' : Env} {H1 : Heap}, run call A n k' T' H1 = some (r, H') → Steps P (lone (b.atR a todo) cs w) (lone (b.atR a' todo') cs w') → Step G w G' w' →
        KRep P nt ρ k' todo' → TRep G' w' nt a'.tmps T' → HRep P G' w' H1 → Marks w0 w' a'.defers → End P G0 w0 b cs ρ (lone (b.atR a todo) cs w) r H' := by
      intro G' w' a' k' todo' T' H1 h1 h2 h3 h4 h5 h6 h7
      refine (ih _ _ _ _ _ h1 G' w' a' todo' ?_ (fun l e => Nat.lt_of_lt_of_le (hl l e) h3.nl) h4 h5 h6 (hst.trans h3) h7).of_steps h2
      rw [hro]
      cases ρ with
      | none => rfl
      | some l => simp [h3.ln l (hl l rfl)]
    cases hk with
    | nil =>
      cases ρ with
      | none =>
        have hs : step P (lone (b.atR a []) cs w) = .next (lone { b.atR a [] with mode := .returning } cs w) := stepR_end (by rw [hro]; rfl)
        exact (fn_return (fr := { b.atR a [] with mode := .returning }) hfn (hres rfl) hT hH hst hm rfl rfl rfl hkind rfl h).of_steps (.one hs)
      | some l =>
        obtain ⟨rfl, v, rfl⟩ := retA_ret h
        exact ⟨a, w, G, hst, hH, .refl _ _⟩
    | blk hk => exact next h (.one stepR_inBlock) (.refl _ _) hk hT hH hm
    | lp hc' hk => exact next h (.one stepR_inLoop) (.refl _ _) (.code hc' (.lp hc' hk)) hT hH hm
    | @beg l k todo he hk =>
      simp only [run] at h
      split at h
      · rename_i r0 hr0
        split at h
        · cases h
        · rename_i hbusy
          have hlt := hl l he
          obtain ⟨hll, hr0'⟩ := List.getElem?_eq_some_iff.1 hr0
          obtain ⟨rec, j1, j2⟩ := hH.loop l hll
          rw [hr0'] at j2
          have hready := j2.ready (by simpa using hbusy)
          have hrb : b.roundOf = some (G.ln l) := by rw [hro, he]; rfl
          have hs := stepR_beginRound (P := P) (b := b) (a := a) (k := todo) (cs := cs) hrb (run_beginRound j1 hready)
          have hlr : LRep P G w { r0 with busy := true } { rec with state := .busy } := ⟨fun h => (by cases h), j2.pending, j2.ps, j2.fn, j2.fits, j2.body⟩
          have hstp : Step G w G (w.putObj (G.ln l) (.loop { rec with state := .busy })) := (Step.refl G w).putObj j1 trivial trivial (.inr ⟨l, hlt, rfl⟩)
          exact next h (.one hs) hstp hk (hT.step hstp) (hH.putLoop hlt j1 hlr) (hm.put j1 fun x => by simp)
      · cases h
    | @code c ac k todo hcc hk =>
      cases c with
      | skip =>
        simp only [cCode, Option.some.injEq] at hcc
        subst hcc
        exact next h (.one stepR_skip) (.refl _ _) hk hT hH hm
      | seq x y =>
        simp only [cCode] at hcc
        split at hcc <;> simp only [Option.some.injEq, reduceCtorEq] at hcc
        rename_i h1 h2
        subst hcc
        exact next h (.one stepR_seq) (.refl _ _) (.code h1 (.code h2 hk)) hT hH hm
      | cond x y z =>
        simp only [cCode] at hcc
        split at hcc <;> simp only [Option.some.injEq, reduceCtorEq] at hcc
        rename_i hx h1 h2
        subst hcc
        simp only [run] at h
        split at h
        · rename_i t ht
          have rx := cOpd_rep (a := a) hT hx
          rw [ht] at rx
          have hv : a.eval x = .bool t := by
            generalize a.eval x = u at rx
            cases rx; rfl
          refine next h (.one (stepR_cond hv)) (.refl _ _) (.code ?_ hk) hT hH hm
          cases t
          · exact h2
          · exact h1
        · cases h
      | block id c =>
        simp only [cCode, Option.map_eq_some_iff] at hcc
        obtain ⟨ac', h1, rfl⟩ := hcc
        exact next h (.one stepR_block) (.refl _ _) (.code h1 (.blk hk)) hT hH hm
      | loop c =>
        simp only [cCode, Option.map_eq_some_iff] at hcc
        obtain ⟨ac', h1, rfl⟩ := hcc
        exact next h (.one stepR_loop) (.refl _ _) (.code h1 (.lp h1 hk)) hT hH hm
      | exit id =>
        simp only [cCode, Option.some.injEq] at hcc
        subst hcc
        simp only [run] at h
        split at h
        · rename_i k' hk'
          obtain ⟨todo', h1, h2⟩ := hk.exit hk'
          exact next h (.one (stepR_exit h1)) (.refl _ _) h2 hT hH hm
        · cases h
      | ret =>
        simp only [cCode, Option.some.injEq] at hcc
        subst hcc
        simp only [run] at h
        split at h
        · cases h
        · rename_i hrd
          cases ρ with
          | some l => rw [hA] at hrd; simp at hrd
          | none =>
            have hs : step P (lone (b.atR a (.code .ret :: todo)) cs w) = .next (lone { b.atR a (.code .ret :: todo) with mode := .returning } cs w) := stepR_ret (by rw [hro]; rfl)
            exact (fn_return (fr := { b.atR a (.code .ret :: todo) with mode := .returning }) hfn (hres rfl) hT hH hst hm rfl rfl rfl hkind rfl h).of_steps (.one hs)
      | region id ops draw =>
        simp only [cCode] at hcc
        split at hcc
        · rename_i as has
          split at hcc <;> simp only [Option.some.injEq, reduceCtorEq] at hcc
          rename_i hok
          subst hcc
          have hok' : draw = true → drawOk as = true := fun hd => by
            cases hdo : drawOk as with
            | true => rfl
            | false => exact absurd ⟨hd, hdo⟩ hok
          simp only [run] at h
          have hbare : regionA call draw (if draw = true then as else as.map AOper.bare) T H = regionA call draw as T H := by
            cases draw with
            | true => rfl
            | false => simpa [regionA] using runOps_bare as T H
          rw [hbare] at h
          have hwp : ∀ out, regionA call draw as T H = some out → ∃ e a' w', RegPost P G w nt a.defers out e a' w' ∧ ArrivesIn (Machine.fenced P (W b.roundOf)) P (lone (b.atR a (.code (.region id ops draw) :: todo)) cs w) b todo cs e a' w' :=
            fun out ho => region_sound hc hmix has hok' (ro := b.roundOf) hT hH ho b todo cs rfl trivial (fun d hd => by simp [W, Fence.wide] at hd)
          split at h
          · rename_i T' H1 ho
            obtain ⟨e, a', w', hq, harr⟩ := hwp _ ho
            cases e with
            | normal =>
              obtain ⟨G', T2, H2, e1, e2, e3, e4, e5⟩ := hq
              cases e1
              exact next h harr.steps e2 hk e3 e4 (by rw [e5]; exact hm.step hH e2)
            | panic ch => obtain ⟨_, _, _, _, _, e1, _⟩ := hq; cases e1
            | _ => exact hq.elim
          · rename_i v H1 ho
            simp only [Option.some.injEq, Prod.mk.injEq] at h
            obtain ⟨rfl, rfl⟩ := h
            obtain ⟨e, a', w', hq, harr⟩ := hwp _ ho
            cases e with
            | normal => obtain ⟨_, _, _, e1, _⟩ := hq; cases e1
            | panic ch =>
              obtain ⟨u, v', H2, G', rfl, e1, e2, e3, e4, e5⟩ := hq
              cases e1
              obtain ⟨todo', hs⟩ := harr
              exact (fn_panic (fr := { b.atR a' todo' with mode := .panicking [{ v := u, recovered := false }] }) hfn e3 (hst.trans e2) (hm.step hH e2) e4 rfl e5 rfl).of_steps hs.steps
            | _ => exact hq.elim
          · cases h
        · cases hcc
      | rangeFunc g ps x y =>
        simp only [cCode] at hcc
        split at hcc <;> try (simp at hcc; done)
        rename_i go aa ab hg ha hb
        split at hcc <;> simp only [Option.some.injEq, reduceCtorEq] at hcc
        rename_i hps
        subst hcc
        simp only [run] at h
        split at h
        · cases h
        · rename_i hrd
          cases ρ with
          | some l => rw [hA] at hrd; simp at hrd
          | none =>
            have hmk : ∀ {G' : Ghost} {w' : World} {m : Nat}, Step G w G' w' → w.heap.size ≤ m → w'.heap[m]? = some (.deferred (some [])) → Marks w0 w' ({ target := .collected m, args := #[] } :: a.defers) := by
              intro G' w' m s2 s4 s5
              have hm' := hm.step hH s2
              refine ⟨fun d hd => ?_, List.pairwise_cons.2 ⟨fun d hd b0 hb0 he => ?_, hm.apart⟩⟩
              · rcases List.mem_cons.1 hd with rfl | hd
                · exact ⟨m, rfl, Nat.le_trans hst.size s4, s5⟩
                · exact hm'.mark d hd
              · obtain ⟨b1, h1, h2, h3⟩ := hm.mark d hd
                rw [he] at h1
                injection h1 with h1
                injection hb0 with hb0
                have := (Array.getElem?_eq_some_iff.1 h3).1
                omega
            split at h
            · rename_i v4 H4 hra
              obtain ⟨w', G', m, s1, s2, s3, s4, s5⟩ := range_sound hc (by rw [hro]; rfl) ⟨fn, hfn⟩ hT hH hg ha hb hps hra cs todo
              exact next (a' := { a with defers := { target := .collected m, args := #[] } :: a.defers }) h s1 s2 hk (hT.step s2) s3 (hmk s2 s4 s5)
            · rename_i v4 H4 hra
              simp only [Option.some.injEq, Prod.mk.injEq] at h
              obtain ⟨rfl, rfl⟩ := h
              obtain ⟨w', G', m, u, todo', s1, s2, s3, s6, s4, s5⟩ := range_panics hc (by rw [hro]; rfl) ⟨fn, hfn⟩ hT hH hg ha hb hps hra cs todo
              exact (fn_panic (fr := { b.atR { a with defers := { target := .collected m, args := #[] } :: a.defers } todo' with mode := .panicking [{ v := u, recovered := false }] }) hfn s3 (hst.trans s2) (hmk s2 s4 s5) s6 rfl rfl rfl).of_steps s1
            · cases h
      | _ => simp [cCode] at hcc

/-! ### All calls -/
/-- A library's function, by what it answers. -/
def ExtOk (P : Program) (f : FuncId) (g : List AV → Heap → Option (AV × Heap)) : Prop :=
  ∀ as H v H', g as H = some (v, H') → ∀ G w vs, HRep P G w H → Args G w vs as → CallOk P f vs w (PostOk P G w (.ret v) H')

/-- The function that catches panics. -/
def TryOk (P : Program) (f : FuncId) (s : TypeId) : Prop :=
  ∀ (call : CallF), CallSound P call → ∀ g caps H r H', tryA (call (.fn g) caps H) s = some (r, H') → ∀ G w vs, HRep P G w H → Args G w vs [.func g caps] → CallOk P f vs w (PostOk P G w r H')

structure CfgOk (P : Program) (cfg : Cfg) : Prop where
  mix : P.follows .mixedOrders = true
  fn : ∀ f A, cfg.F f = some A → ∃ fn, P.funcs[f]? = some fn ∧ cFunc P fn = some A
  ext : ∀ f g, cfg.ext f = some g → ExtOk P f g
  tr : ∀ f, cfg.tryF f = true → TryOk P f cfg.stopT

theorem initEnv_rep {vs : Array Value} {as : List AV} {nt : Nat} (h : Args G w vs as) : TRep G w nt (vs ++ Array.replicate (nt - vs.size) undef) (initEnv as) := by
  refine ⟨by simp; omega, fun i => ?_⟩
  unfold initEnv
  have hs := h.1
  by_cases hi : i < vs.size
  · have h2 : i < as.length := by omega
    have e1 : (vs ++ Array.replicate (nt - vs.size) undef).getD i undef = vs[i] := by
      simp [Array.getD, hi, Array.getElem_append]
      intro h; omega
    have e2 : (as[i]?).getD .undef = as[i] := by simp [h2]
    rw [e1, e2]
    exact h.2 i hi h2
  · have e2 : (as[i]?).getD .undef = .undef := by
      rw [List.getElem?_eq_none (by omega)]; rfl
    rw [e2]
    exact .undef _

theorem psetA_rep {nt : Nat} : ∀ {ps : List Nat} {vs : List Value} {as : List AV} {tmps : Array Value} {T : Env}, TRep G w nt tmps T → ps.all (fun d => decide (d < nt)) = true → vs.length = as.length → ps.length = vs.length →
    (∀ i (h1 : i < vs.length) (h2 : i < as.length), Rep G w vs[i] as[i]) → TRep G w nt ((ps.zip vs).foldl (fun tmps (t, a) => tmps.setIfInBounds t a) tmps) (psetA T ps as)
  | [], vs, as, tmps, T, hT, _, _, _, _ => by simpa [psetA] using hT
  | p :: ps, [], as, tmps, T, hT, _, _, h, _ => by simp at h
  | p :: ps, v :: vs, [], tmps, T, hT, _, h, _, _ => by simp at h
  | p :: ps, v :: vs, a :: as, tmps, T, hT, hp, h1, h2, hr => by
    simp only [List.all_cons, Bool.and_eq_true, decide_eq_true_eq] at hp
    simp only [List.zip_cons_cons, List.foldl_cons, psetA]
    exact psetA_rep (hT.put hp.1 (hr 0 (by simp) (by simp))) hp.2 (by simpa using h1) (by simpa using h2) fun i i1 i2 => by
      have := hr (i + 1) (by simpa using i1) (by simpa using i2)
      simpa using this

theorem cFunc_inv {fn : Func} {A : AFunc} (h : cFunc P fn = some A) : ∃ c ac, fn.body = some c ∧ cCode P fn.ntmps c = some ac ∧ cRes P fn.results.toList = some A.results ∧ A.body = ac ∧ A.round = false ∧ (fn.name == "runtime.NumGoroutine") = false := by
  unfold cFunc at h
  split at h
  · rename_i c hb
    split at h
    · rename_i ac rs h1 h2
      split at h
      · cases h
      · rename_i hn
        simp only [Option.some.injEq] at h
        subst h
        exact ⟨c, ac, hb, h1, h2, rfl, rfl, by simpa using hn⟩
    · cases h
  · cases h

theorem fn_sound {call : CallF} (hc : CallSound P call) (hmix : P.follows .mixedOrders = true) {f : FuncId} {fn : Func} {A : AFunc} (hf : P.funcs[f]? = some fn) (hA : cFunc P fn = some A) {n : Nat} {as : List AV} {H H' : Heap} {r : ARes}
    (h : run call A n [.c A.body] (initEnv as) H = some (r, H')) {vs : Array Value} (hH : HRep P G w H) (hargs : Args G w vs as) : CallOk P f vs w (PostOk P G w r H') := by
  obtain ⟨c, ac, h1, h2, h3, h4, h5, h6⟩ := cFunc_inv hA
  refine .inl ⟨w, ?_, fun cs => ?_, rfl⟩
  · unfold callFunc
    simp only [Sem.run_bind, run_program, Result.andThen_ok, hf, h6, Bool.false_eq_true, if_false, h1, Option.isNone_some]
    rfl
  · let b : Frame := { (default : Frame) with fn := f, kind := .normal, roundOf := none }
    have henter : Frame.enter P f vs .normal = b.atR { tmps := vs ++ Array.replicate (fn.ntmps - vs.size) undef, defers := [] } [.code c] := by
      simp [Frame.enter, Frame.atR, hf, h1, b]
    have := run_sim hc hmix (ρ := none) (b := b) (fn := fn) (G0 := G) (w0 := w) (cs := cs) hf (fun _ => h3) h5 rfl n _ _ _ _ _ h G w { tmps := vs ++ Array.replicate (fn.ntmps - vs.size) undef, defers := [] } [.code c] rfl (fun l e => by cases e)
      (.code (by rw [h4]; exact h2) .nil) (initEnv_rep hargs) hH (.refl _ _) (.nil _ _)
    rw [← henter] at this
    obtain ⟨e, w', fr, G', e1, e2, e3, e4, e5, e6⟩ := this
    refine ⟨e, w', fr, ⟨G', e1, e2, e3⟩, ?_, e5, e6⟩
    cases e with
    | outgrown => cases r <;> obtain ⟨u, h', _⟩ := e3 <;> cases h'
    | returned u => exact e4
    | panicked ch => exact e4

theorem yl_sound {call : CallF} (hc : CallSound P call) (hmix : P.follows .mixedOrders = true) {n l : Nat} {as : List AV} {H H1 : Heap} {r0 r1 : LRec} {v0 : AV} (hl : H.loops[l]? = some r0) (hlen : as.length = r0.ps.length)
    (h : run call { results := [], body := .skip, round := true } n [.c r0.assign, .beg l, .c r0.body] (psetA r0.T r0.ps as) H = some (.ret v0, H1)) (hl1 : H1.loops[l]? = some r1) {vs : Array Value} (hH : HRep P G w H) (hargs : Args G w vs as) :
    ∃ rec, w.heap[G.ln l]? = some (.loop rec) ∧ vs.size = rec.params.size ∧ RoundIn (W none) 0 P (G.ln l) rec.fn ((rec.params.zip vs).foldl (fun tmps (t, a) => tmps.setIfInBounds t a) rec.tmps) rec.assign rec.body w
      (PostOk P G w (.ret (.bool true)) { H1 with loops := H1.loops.set l { r1 with busy := false } }) := by
  obtain ⟨hlt, hr0⟩ := List.getElem?_eq_some_iff.1 hl
  obtain ⟨rec, j1, j2⟩ := hH.loop l hlt
  rw [hr0] at j2
  obtain ⟨fn, hfn⟩ := j2.fn
  obtain ⟨nt, k1, k2, k3, k4⟩ := j2.body
  have hlt' : l < G.nl := by rw [hH.nl]; exact hlt
  have hsz : vs.size = rec.params.size := by
    rw [hargs.1, hlen, ← j2.ps]; simp
  refine ⟨rec, j1, hsz, trivial, fun c cs _ => ?_⟩
  let b : Frame := { (default : Frame) with fn := rec.fn, kind := .normal, roundOf := some (G.ln l) }
  have hb0 : Frame.round (G.ln l) rec.fn ((rec.params.zip vs).foldl (fun tmps (t, a) => tmps.setIfInBounds t a) rec.tmps) rec.assign rec.body .normal =
      b.atR { tmps := (rec.params.zip vs).foldl (fun tmps (t, a) => tmps.setIfInBounds t a) rec.tmps, defers := [] } [.code rec.assign, .beginRound, .code rec.body] := by
    simp [Frame.round, Frame.atR, b]
  have hT : TRep G w nt ((rec.params.zip vs).foldl (fun tmps (t, a) => tmps.setIfInBounds t a) rec.tmps) (psetA r0.T r0.ps as) := by
    have := psetA_rep (vs := vs.toList) (as := as) k1 k2 (by simpa using hargs.1) (by rw [← j2.ps]; simpa using hsz.symm) fun i h1 h2 => by simpa using hargs.2 i (by simpa using h1) h2
    rw [← j2.ps, ← Array.toList_zip, Array.foldl_toList] at this
    rw [← j2.ps]
    exact this
  have := run_sim hc hmix (ρ := some l) (b := b) (fn := fn) (G0 := G) (w0 := w) (cs := c :: cs) hfn (fun e => by cases e) rfl rfl n _ _ _ _ _ h G w { tmps := (rec.params.zip vs).foldl (fun tmps (t, a) => tmps.setIfInBounds t a) rec.tmps, defers := [] }
    [.code rec.assign, .beginRound, .code rec.body] rfl (fun l' e => by cases e; exact hlt') (.code k3 (.beg rfl (.code k4 .nil))) hT hH (.refl _ _) (.nil _ _)
  rw [← hb0] at this
  obtain ⟨a', w1, G1, s1, s2, s3⟩ := this
  -- the record is ready again
  obtain ⟨hlt1, hr1⟩ := List.getElem?_eq_some_iff.1 hl1
  obtain ⟨rec1, i1, i2⟩ := s2.loop l hlt1
  rw [hr1] at i2
  have eln : G1.ln l = G.ln l := s1.ln l hlt'
  have hend : (Instr.endRound (G.ln l) none).run P w1 = .ok (.bool true) (w1.putObj (G.ln l) (.loop { rec1 with state := .ready, pending := none })) := by
    have := run_endRound (P := P) none (eln ▸ i1)
    simpa using this
  have hlr : LRep P G1 w1 { r1 with busy := false } { rec1 with state := .ready, pending := none } := ⟨fun _ => rfl, rfl, i2.ps, i2.fn, i2.fits, i2.body⟩
  refine ⟨.returned (.bool true), w1.putObj (G.ln l) (.loop { rec1 with state := .ready, pending := none }), ⟨G1, ?_, ?_, _, rfl, .bool true⟩, ?_⟩
  · have i1' := i1
    rw [eln] at i1'
    exact s1.putObj (o2 := .loop { rec1 with state := .ready, pending := none }) i1' trivial trivial (.inr ⟨l, hlt', rfl⟩)
  · have := s2.putLoop (Nat.lt_of_lt_of_le hlt' s1.nl) i1 hlr
    rw [eln] at this
    exact this
  · have hs := stepR_round_end (P := P) (b := b) (a := a') (cs := cs) (c := c) rfl rfl hend
    exact stepsIn_wide.2 (Steps.trans s3 (.one hs))

theorem yl_panics {call : CallF} (hc : CallSound P call) (hmix : P.follows .mixedOrders = true) {n l : Nat} {as : List AV} {H H1 : Heap} {r0 : LRec} {v0 : AV} (hl : H.loops[l]? = some r0) (hlen : as.length = r0.ps.length)
    (h : run call { results := [], body := .skip, round := true } n [.c r0.assign, .beg l, .c r0.body] (psetA r0.T r0.ps as) H = some (.pan v0, H1)) {vs : Array Value} (hH : HRep P G w H) (hargs : Args G w vs as) :
    ∃ rec, w.heap[G.ln l]? = some (.loop rec) ∧ vs.size = rec.params.size ∧ RoundIn (W none) 0 P (G.ln l) rec.fn ((rec.params.zip vs).foldl (fun tmps (t, a) => tmps.setIfInBounds t a) rec.tmps) rec.assign rec.body w
      (PostOk P G w (.pan v0) H1) := by
  obtain ⟨hlt, hr0⟩ := List.getElem?_eq_some_iff.1 hl
  obtain ⟨rec, j1, j2⟩ := hH.loop l hlt
  rw [hr0] at j2
  obtain ⟨fn, hfn⟩ := j2.fn
  obtain ⟨nt, k1, k2, k3, k4⟩ := j2.body
  have hlt' : l < G.nl := by rw [hH.nl]; exact hlt
  have hsz : vs.size = rec.params.size := by
    rw [hargs.1, hlen, ← j2.ps]; simp
  refine ⟨rec, j1, hsz, trivial, fun c cs _ => ?_⟩
  let b : Frame := { (default : Frame) with fn := rec.fn, kind := .normal, roundOf := some (G.ln l) }
  have hb0 : Frame.round (G.ln l) rec.fn ((rec.params.zip vs).foldl (fun tmps (t, a) => tmps.setIfInBounds t a) rec.tmps) rec.assign rec.body .normal =
      b.atR { tmps := (rec.params.zip vs).foldl (fun tmps (t, a) => tmps.setIfInBounds t a) rec.tmps, defers := [] } [.code rec.assign, .beginRound, .code rec.body] := by
    simp [Frame.round, Frame.atR, b]
  have hT : TRep G w nt ((rec.params.zip vs).foldl (fun tmps (t, a) => tmps.setIfInBounds t a) rec.tmps) (psetA r0.T r0.ps as) := by
    have := psetA_rep (vs := vs.toList) (as := as) k1 k2 (by simpa using hargs.1) (by rw [← j2.ps]; simpa using hsz.symm) fun i h1 h2 => by simpa using hargs.2 i (by simpa using h1) h2
    rw [← j2.ps, ← Array.toList_zip, Array.foldl_toList] at this
    rw [← j2.ps]
    exact this
  have := run_sim hc hmix (ρ := some l) (b := b) (fn := fn) (G0 := G) (w0 := w) (cs := c :: cs) hfn (fun e => by cases e) rfl rfl n _ _ _ _ _ h G w { tmps := (rec.params.zip vs).foldl (fun tmps (t, a) => tmps.setIfInBounds t a) rec.tmps, defers := [] }
    [.code rec.assign, .beginRound, .code rec.body] rfl (fun l' e => by cases e; exact hlt') (.code k3 (.beg rfl (.code k4 .nil))) hT hH (.refl _ _) (.nil _ _)
  rw [← hb0] at this
  obtain ⟨e, w', fr, G', e1, e2, e3, e4, e5, e6⟩ := this
  obtain ⟨u, rfl, hu⟩ := e3
  exact ⟨.panicked [{ v := u, recovered := false }], w', ⟨G', e1, e2, u, rfl, hu⟩, stepsIn_wide.2 (Steps.trans e4 (.one (step_leave_panicked e6)))⟩

theorem callN_sound {cfg : Cfg} (hcfg : CfgOk P cfg) : ∀ n, CallSound P (callN cfg n) := by
  intro n
  induction n with
  | zero => exact ⟨fun f as H r H' h => by simp [callN] at h, fun l as H r H' h => by simp [callN] at h⟩
  | succ n ih =>
    refine ⟨fun f as H r H' h G w vs hH hargs => ?_, fun l as H r H' h G w vs hH hargs hlt => ?_⟩
    · rw [callN] at h
      simp only at h
      split at h
      · rename_i ht
        split at h
        · rename_i g caps
          exact hcfg.tr f ht _ ih g caps H r H' h G w vs hH hargs
        · cases h
      · split at h
        · rename_i g hg
          split at h <;> simp only [Option.some.injEq, Prod.mk.injEq, reduceCtorEq] at h
          rename_i v hv
          obtain ⟨rfl, rfl⟩ := h
          exact hcfg.ext f g hg as H v.1 v.2 hv G w vs hH hargs
        · split at h
          · rename_i A hA
            obtain ⟨fn, h1, h2⟩ := hcfg.fn f A hA
            exact fn_sound ih hcfg.mix h1 h2 h hH hargs
          · cases h
    · rw [callN] at h
      simp only at h
      split at h
      · rename_i r0 hr0
        split at h
        · cases h
        · rename_i hlen
          split at h
          · rename_i v0 H1 hrun
            split at h <;> simp only [Option.some.injEq, Prod.mk.injEq, reduceCtorEq] at h
            rename_i r1 hr1
            obtain ⟨rfl, rfl⟩ := h
            exact yl_sound ih hcfg.mix hr0 (by simpa using hlen) hrun hr1 hH hargs
          · rename_i v0 H1 hrun
            simp only [Option.some.injEq, Prod.mk.injEq] at h
            obtain ⟨rfl, rfl⟩ := h
            exact yl_panics ih hcfg.mix hr0 (by simpa using hlen) hrun hH hargs
          · cases h
      · cases h

/-- FROM THE MACHINE OF THIS LIBRARY TO THE PROGRAM. -/
theorem calls_of {cfg : Cfg} (hcfg : CfgOk P cfg) {n : Nat} {f : FuncId} {as : List AV} {v : AV} {H' : Heap} (h : callN cfg n (.fn f) as Heap.nil = some (.ret v, H')) (hF : (cfg.F f).isSome = true) (hx : cfg.ext f = none) (ht : cfg.tryF f = false)
    {vs : Array Value} (hH : HRep P G w Heap.nil) (hargs : Args G w vs as) : Calls P f vs w fun e w' => ∃ u G', e = .returned u ∧ Step G w G' w' ∧ Rep G' w' u v := by
  cases n with
  | zero => simp [callN] at h
  | succ n =>
    rw [callN] at h
    simp only [ht, Bool.false_eq_true, if_false, hx] at h
    split at h
    · rename_i A hA
      obtain ⟨fn, h1, h2⟩ := hcfg.fn f A hA
      rcases fn_sound (callN_sound hcfg n) hcfg.mix h1 h2 h hH hargs with ⟨w1, c1, c2, _⟩ | ⟨u, w', c1, c2⟩
      · exact c2.mono fun e w' hp => by
          obtain ⟨G', g1, g2, u, rfl, g3⟩ := hp
          exact ⟨u, G', rfl, g1, g3⟩
      · exfalso
        obtain ⟨c, ac, d1, d2, d3, d4, d5, d6⟩ := cFunc_inv h2
        unfold callFunc at c1
        simp only [Sem.run_bind, run_program, Result.andThen_ok, h1, d6, Bool.false_eq_true, if_false, d1, Option.isNone_some] at c1
        cases c1
    · cases h

end Go.Aa
