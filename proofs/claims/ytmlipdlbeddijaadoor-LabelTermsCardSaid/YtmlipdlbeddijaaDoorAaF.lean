/-
  ONE OPERATION AS THE MACHINE's WALK TAKES IT; THE OPERATIONS OF A STATEMENT ONE AFTER THE OTHER.
-/
import Derived.Test.YtmlipdlbeddijaaDoorAaE
set_option linter.unusedVariables false
set_option linter.unusedSimpArgs false
namespace Go.Aa
open Go.RowKit

variable {P : Program} {G G' : Ghost} {w w' : World}

theorem shut_args {vs : Array Value} {as : List AV} (h : Args G w vs as) : Args G w vs (as.map shutA) := by
  refine ⟨by simpa using h.1, fun i h1 h2 => ?_⟩
  have := (h.2 i h1 (by simpa using h2)).shut
  simpa using this

theorem args_of {n : Nat} {a : Act} {T : Env} {os : Array Operand} {xs : List Opd} (hT : TRep G w n a.tmps T) (h : cOpds os.toList = some xs) : Args G w (os.map a.eval) (xs.map fun x => shutA (ev T x)) := by
  have := shut_args (as := xs.map (ev T)) ⟨(cOpds_map (a := a) hT h).1, (cOpds_map (a := a) hT h).2⟩
  rwa [List.map_map] at this

theorem callOk_upon {ro : Option Nat} {o : Oper} {a : Act} {f : FuncId} {vs : Array Value} {R : Ending → World → Prop} {next : Act → World → Prop} {Q : Exit → Act → World → Prop} (h : CallOk P f vs w R)
    (hr : ∀ u w', R (.returned u) w' → next (a.put o.dst u) w') (hp : ∀ ch w', R (.panicked ch) w' → Q (.panic ch) a w') (ho : ∀ w', ¬ R .outgrown w') : o.uponIn (W ro) 0 P a next Q ((callFunc f vs).run P w) := by
  rcases h with ⟨w1, h1, h2, h3⟩ | ⟨u, w', h1, h2⟩
  · rw [h1, Oper.uponIn_enter]
    refine ⟨fun h => absurd h (by simp [W, Fence.wide]), (calls_W (ro := ro) h2).mono fun e w' he => ?_⟩
    cases e with
    | returned u => exact hr _ _ he
    | panicked ch => exact hp _ _ he
    | outgrown => exact absurd he (ho w')
  · rw [h1, Oper.uponIn_value]
    exact hr _ _ h2

theorem postOk_outgrown {r : ARes} {H : Heap} : ¬ PostOk P G w r H .outgrown w' := by
  rintro ⟨G', _, _, h⟩
  cases r <;> obtain ⟨u, h, _⟩ := h <;> cases h

/-- What a data call leaves. -/
theorem data_post {H H' : Heap} (hH : HRep P G w H) {r : ARes} {e : Ending} (h : PostOk P G.bare w r H' e w') :
    ∃ G1, Grow G w G1 w' ∧ ∃ G2, G2.lim = G1.lim ∧ EndOk G2 w' e r := by
  obtain ⟨G2, h1, h2, h3⟩ := h
  exact ⟨_, bare_grow hH h1 h2.base, G2, rfl, h3⟩

/-- A call that is handed the heap. -/
theorem callE_sound {call : CallF} (hc : CallSound P call) {a : Act} {H : Heap} (hH : HRep P G w H) {g : FuncId} {as : List AV} {vs : Array Value} (hargs : Args G w vs as) {out : Out} (h : callE call g as H = some out) {ro : Option Nat} {o : Oper}
    {next : Act → World → Prop} {Q : Exit → Act → World → Prop}
    (hval : ∀ v H' r w' G', out = .val v H' → Step G w G' w' → HRep P G' w' H' → Rep G' w' r v → next (a.put o.dst r) w')
    (hpan : ∀ v H' r w' G', out = .pan v H' → Step G w G' w' → HRep P G' w' H' → Rep G' w' r v → Q (.panic [{ v := r, recovered := false }]) a w') : o.uponIn (W ro) 0 P a next Q ((callFunc g vs).run P w) := by
  unfold callE at h
  have hcall := fun r H' hr => hc.fn g as H r H' hr G w vs hH hargs
  split at h
  · rename_i v H' hr
    simp only [Option.some.injEq] at h
    subst h
    refine callOk_upon (hcall _ _ hr) (fun u w' hp => ?_) (fun ch w' hp => ?_) (fun w' => postOk_outgrown)
    · obtain ⟨G1, hs, hh, u', he, hrep⟩ := hp
      cases he
      obtain ⟨G2, k1, k2, k3⟩ := trunc_sound hs hh hrep.shut
      exact hval _ _ _ _ G2 rfl k1 (by rw [← hH.nb, ← hH.nt]; exact k2) k3
    · obtain ⟨G1, hs, hh, u', he, hrep⟩ := hp
      cases he
  · rename_i v H' hr
    simp only [Option.some.injEq] at h
    subst h
    refine callOk_upon (hcall _ _ hr) (fun u w' hp => ?_) (fun ch w' hp => ?_) (fun w' => postOk_outgrown)
    · obtain ⟨G1, hs, hh, u', he, hrep⟩ := hp
      cases he
    · obtain ⟨G1, hs, hh, u', he, hrep⟩ := hp
      cases he
      obtain ⟨G2, k1, k2, k3⟩ := trunc_sound hs hh hrep
      exact hpan _ _ _ _ G2 rfl k1 (by rw [← hH.nb, ← hH.nt]; exact k2) k3
  · cases h

/-- A CALL. -/
theorem call_sound {call : CallF} (hc : CallSound P call) {n : Nat} {a : Act} {T : Env} {H : Heap} (hT : TRep G w n a.tmps T) (hH : HRep P G w H) {f : Operand} {args : Array Operand} {fo : Opd} {xs : List Opd}
    (hf : cOpd f = some fo) (hx : cOpds args.toList = some xs) {out : Out} (h : callV call (ev T fo) (xs.map fun x => shutA (ev T x)) H = some out) {ro : Option Nat} {o : Oper} {argTypes : Array TypeId}
    (ho : o.op = .call { callee := .value f, args := args, argTypes := argTypes }) {next : Act → World → Prop} {Q : Exit → Act → World → Prop}
    (hval : ∀ v H' r w' G', out = .val v H' → Step G w G' w' → HRep P G' w' H' → Rep G' w' r v → next (a.put o.dst r) w')
    (hpan : ∀ v H' r w' G', out = .pan v H' → Step G w G' w' → HRep P G' w' H' → Rep G' w' r v → Q (.panic [{ v := r, recovered := false }]) a w') : o.wpIn (W ro) 0 P a w next Q := by
  refine ⟨fun _ _ => trivial, ?_⟩
  rw [Oper.semAt_eq _ _ _ (fun c hcon => by rw [ho] at hcon; cases hcon)]
  have hex : execOp a.eval o = (do let d ← Deferred.ofValue (a.eval f) (args.map a.eval); invoke d.target d.args) := by
    unfold execOp; rw [ho]; rfl
  rw [hex]
  have rf := cOpd_rep (a := a) hT hf
  have ra := args_of (a := a) hT hx
  generalize (xs.map fun x => shutA (ev T x)) = as at h ra
  generalize args.map a.eval = vs at ra ⊢
  unfold callV at h
  split at h
  · rename_i g caps hev
    rw [hev] at rf
    generalize hu : a.eval f = u at rf
    cases rf with
    | func _ us _ hn hr =>
    have rc : Args G w us caps := ⟨hn, hr⟩
    have rall := ra.append rc
    have hrun : (do let d ← Deferred.ofValue (.func (.func g) #[] us) vs; invoke d.target d.args : Sem Next) = callFunc g (vs ++ us) := by
      simp only [Deferred.ofValue]
      show callFunc g (#[] ++ vs ++ us) = _
      simp
    rw [hrun]
    split at h
    · rename_i hd
      simp only [Bool.and_eq_true, List.all_eq_true] at hd
      have hdall : ∀ x ∈ as ++ caps, isData x = true := by
        intro x hx
        rcases List.mem_append.1 hx with hx | hx
        · exact hd.1 x hx
        · have := hd.2 x hx
          cases x <;> first | exact this | simp [data0] at this
      have hcall := fun r H' hr => hc.fn g (as ++ caps) Heap.nil r H' hr G.bare w (vs ++ us) (bare_heap hH) (bare_args rall hdall)
      split at h
      · rename_i v H' hr
        split at h
        · rename_i hdat
          simp only [Option.some.injEq] at h
          subst h
          refine callOk_upon (hcall _ _ hr) (fun u w' hp => ?_) (fun ch w' hp => ?_) (fun w' => postOk_outgrown)
          · obtain ⟨G1, hg, G2, hlim, u', he, hrep⟩ := data_post (H := H) hH hp
            cases he
            have r1 := hrep.shut
            exact hval _ _ _ _ G1 rfl (hg.step hH.base) (hH.grow hg) (r1.data (isData_data hdat r1) fun b => by rw [hlim]; exact Nat.le_refl _)
          · obtain ⟨G1, hg, G2, hlim, u', he, hrep⟩ := data_post (H := H) hH hp
            cases he
        · exact callE_sound hc hH rall h hval hpan
      · rename_i v H' hr
        split at h <;> simp only [Option.some.injEq, reduceCtorEq] at h
        rename_i hdat
        subst h
        refine callOk_upon (hcall _ _ hr) (fun u w' hp => ?_) (fun ch w' hp => ?_) (fun w' => postOk_outgrown)
        · obtain ⟨G1, hg, G2, hlim, u', he, hrep⟩ := data_post (H := H) hH hp
          cases he
        · obtain ⟨G1, hg, G2, hlim, u', he, hrep⟩ := data_post (H := H) hH hp
          cases he
          exact hpan _ _ _ _ G1 rfl (hg.step hH.base) (hH.grow hg) (hrep.data (isData_data hdat hrep) fun b => by rw [hlim]; exact Nat.le_refl _)
      · cases h
    · exact callE_sound hc hH rall h hval hpan
  · rename_i l hev
    rw [hev] at rf
    generalize hu : a.eval f = u at rf
    cases rf with
    | yield _ hl =>
    have hl' : l < H.loops.length := by rw [← hH.nl]; exact hl
    have hrun : (do let d ← Deferred.ofValue (.func (.yield (G.ln l)) #[] #[]) vs; invoke d.target d.args : Sem Next) = Instr.yield (G.ln l) vs := by
      simp only [Deferred.ofValue]
      show Instr.yield (G.ln l) (#[] ++ vs) = _
      simp
    rw [hrun]
    have hcall := fun r H' hr => hc.yl l as H r H' hr G w vs hH ra hl'
    split at h
    · rename_i v H' hr
      simp only [Option.some.injEq] at h
      subst h
      obtain ⟨rec, h1, h2, h3⟩ := hcall _ _ hr
      rw [run_yield h1 h2, Oper.uponIn_round]
      refine ⟨fun h => absurd h (by simp [W, Fence.wide]), RoundIn.mono (F := W ro) h3 fun e w' hp => ?_⟩
      obtain ⟨G1, hs, hh, u', he, hrep⟩ := hp
      subst he
      obtain ⟨G2, k1, k2, k3⟩ := trunc_sound hs hh hrep
      exact hval _ _ _ _ G2 rfl k1 (by rw [← hH.nb, ← hH.nt]; exact k2) k3
    · rename_i v H' hr
      simp only [Option.some.injEq] at h
      subst h
      obtain ⟨rec, h1, h2, h3⟩ := hcall _ _ hr
      rw [run_yield h1 h2, Oper.uponIn_round]
      refine ⟨fun h => absurd h (by simp [W, Fence.wide]), RoundIn.mono (F := W ro) h3 fun e w' hp => ?_⟩
      obtain ⟨G1, hs, hh, u', he, hrep⟩ := hp
      subst he
      obtain ⟨G2, k1, k2, k3⟩ := trunc_sound hs hh hrep
      exact hpan _ _ _ _ G2 rfl k1 (by rw [← hH.nb, ← hH.nt]; exact k2) k3
    · cases h
  · cases h

theorem cls_call {op : AOp} (h : clsOf op = .call) : ∃ f as, op = .call f as := by
  cases op <;> first | exact ⟨_, _, rfl⟩ | simp [clsOf] at h
theorem cls_pan {op : AOp} (h : clsOf op = .pan) : ∃ x, op = .panic x := by
  cases op <;> first | exact ⟨_, rfl⟩ | simp [clsOf] at h

theorem opStep_pan {call : CallF} {op : AOp} {T : Env} {H H' : Heap} {v : AV} (h : opStep call op T H = some (.pan v H')) : clsOf op = .call ∨ (∃ x t u, op = .panic x ∧ ev T x = .iface t u ∧ v = .iface t u ∧ H' = H) := by
  have pure : ∀ o : Option AV, (match o with | some v => some (Out.val v H) | none => none) ≠ some (.pan v H') := by
    intro o; cases o <;> simp
  cases op with
  | call f as => exact .inl rfl
  | panic x =>
    simp only [opStep] at h
    split at h <;> simp only [Option.some.injEq, reduceCtorEq, Out.pan.injEq] at h
    rename_i t u he
    exact .inr ⟨x, t, u, rfl, he, h.1.symm, h.2.symm⟩
  | box x => simp only [opStep] at h; split at h <;> simp at h
  | load g n x => simp only [opStep] at h; split at h <;> simp at h
  | store n x v => simp only [opStep] at h; split at h <;> simp at h
  | append es b x y => simp only [opStep] at h; split at h <;> simp at h
  | _ =>
    simp only [opStep] at h
    first
      | (simp [pureOp] at h; done)
      | exact absurd h (pure _)

theorem cBin_cls {op : BinOp} {t : TypeId} {x y : Opd} {a : AOp} (h : cBin P op t x y = some a) : clsOf a = .pure := by
  unfold cBin at h
  split at h
  · simp only [Option.some.injEq] at h; subst h; rfl
  · split at h
    · split at h <;> simp only [Option.some.injEq, reduceCtorEq] at h <;> subst h <;> rfl
    · split at h <;> simp only [Option.some.injEq, reduceCtorEq] at h <;> subst h <;> rfl

theorem cOp_call {o : Op} {f : Opd} {as : List Opd} (h : cOp P o = some (.call f as)) : ∃ g args tys, o = .call { callee := .value g, args := args, argTypes := tys } ∧ cOpd g = some f ∧ cOpds args.toList = some as := by
  cases o with
  | call c =>
    obtain ⟨callee, args, tys⟩ := c
    cases callee with
    | value g =>
      simp only [cOp] at h
      split at h <;> simp only [Option.some.injEq, reduceCtorEq, AOp.call.injEq] at h
      rename_i f' as' h1 h2
      obtain ⟨rfl, rfl⟩ := h
      exact ⟨g, args, tys, rfl, h1, h2⟩
    | invoke r m => simp [cOp] at h
    | builtin b =>
      exfalso
      cases b <;> simp only [cOp, reduceCtorEq] at h <;> (repeat' split at h) <;> simp at h
  | binOp op t x y yt =>
    exfalso
    simp only [cOp] at h
    (repeat' split at h) <;> first
      | (simp at h; done)
      | (have := cBin_cls h; simp [clsOf] at this)
  | unOp op t x => exfalso; simp [cOp] at h
  | makeFunc fn first caps =>
    exfalso
    cases fn <;> simp only [cOp, reduceCtorEq] at h
    split at h <;> simp at h
  | _ =>
    exfalso
    simp only [cOp] at h
    first
      | (simp at h; done)
      | ((repeat' split at h) <;> simp at h)

theorem cOp_panic {o : Op} {x : Opd} (h : cOp P o = some (.panic x)) : ∃ y, o = .panic y ∧ cOpd y = some x := by
  cases o with
  | panic y =>
    simp only [cOp, Option.map_eq_some_iff, AOp.panic.injEq] at h
    obtain ⟨z, hz, rfl⟩ := h
    exact ⟨y, rfl, hz⟩
  | call c =>
    exfalso
    obtain ⟨callee, args, tys⟩ := c
    cases callee with
    | value g =>
      simp only [cOp] at h
      split at h <;> simp at h
    | invoke r m => simp [cOp] at h
    | builtin b =>
      cases b <;> simp only [cOp, reduceCtorEq] at h <;> (repeat' split at h) <;> simp at h
  | binOp op t x y yt =>
    exfalso
    simp only [cOp] at h
    (repeat' split at h) <;> first
      | (simp at h; done)
      | (have := cBin_cls h; simp [clsOf] at this)
  | makeFunc fn first caps =>
    exfalso
    cases fn <;> simp only [cOp, reduceCtorEq] at h
    split at h <;> simp at h
  | _ =>
    exfalso
    simp only [cOp] at h
    first
      | (simp at h; done)
      | ((repeat' split at h) <;> simp at h)

theorem cOp_defer {o : Op} {op : AOp} (h : cOp P o = some op) (c : Call) : o ≠ .defer c := by
  rintro rfl; simp [cOp] at h

/-- ONE OPERATION, wanted. -/
theorem oper_sound {call : CallF} (hc : CallSound P call) {n : Nat} {a : Act} {T : Env} {H : Heap} (hT : TRep G w n a.tmps T) (hH : HRep P G w H) {o : Oper} {op : AOp} (hcp : cOp P o.op = some op) {out : Out}
    (h : opStep call op T H = some out) {ro : Option Nat} {next : Act → World → Prop} {Q : Exit → Act → World → Prop}
    (hval : ∀ v H' r w' G', out = .val v H' → Step G w G' w' → HRep P G' w' H' → Rep G' w' r v → next (a.put o.dst r) w')
    (hpan : ∀ v H' r w' G', out = .pan v H' → Step G w G' w' → HRep P G' w' H' → Rep G' w' r v → Q (.panic [{ v := r, recovered := false }]) a w') : o.wpIn (W ro) 0 P a w next Q := by
  by_cases hcls : clsOf op = .call
  · obtain ⟨f, as, rfl⟩ := cls_call hcls
    obtain ⟨g, args, tys, ho, h1, h2⟩ := cOp_call hcp
    exact call_sound hc hT hH h1 h2 h ho hval hpan
  · refine ⟨fun _ _ => trivial, ?_⟩
    rw [Oper.semAt_eq _ _ _ (cOp_defer hcp)]
    cases out with
    | val v H' =>
      obtain ⟨nx, r, w', G', h1, h2, h3, h4, h5⟩ := op_sound hT hH hcp hcls h
      rw [h1]
      rcases h2 with rfl | ⟨rfl, rfl⟩
      · rw [Oper.uponIn_value]; exact hval _ _ _ _ _ rfl h3 h4 h5
      · rw [Oper.uponIn_skip]; exact hval _ _ _ _ _ rfl h3 h4 h5
    | pan v H' =>
      rcases opStep_pan h with hcl | ⟨x, t, u, rfl, he, rfl, rfl⟩
      · exact absurd hcl hcls
      · have ho := cOp_panic hcp
        obtain ⟨y, hy, hz⟩ := ho
        have rx := cOpd_rep (a := a) hT hz
        rw [he] at rx
        generalize hu : a.eval y = u' at rx
        cases rx with
        | iface _ uv _ hr =>
        have : (execOp a.eval o).run P w = .halt (.panic (.iface t uv)) w := by
          unfold execOp; rw [hy]; simp [hu, Instr.panic, goPanic, Sem.run_bind]
        rw [this, Oper.uponIn_panic]
        exact hpan _ _ _ _ G rfl (.refl _ _) hH (.iface _ _ _ hr)

end Go.Aa
