/-
  BLOCKS THAT NO READING NAMES; the marks of loops over functions; a function's results.
-/
import Derived.Test.YtmlipdlbeddijaaDoorAaI
set_option linter.unusedVariables false
set_option linter.unusedSimpArgs false
namespace Go.Aa
open Go.RowKit

variable {P : Program} {G G' : Ghost} {w w' : World}

/-- No cells. -/
def Bare : Obj → Prop
  | .cells .. => False
  | _ => True

theorem putObj_keep {b : Nat} {o1 o2 : Obj} (h : w.heap[b]? = some o1) (h1 : Bare o1) (h2 : Bare o2) : Keep G w G (w.putObj b o2) := by
  refine ⟨fun _ => Nat.le_refl _, fun c off ho => ?_, Nat.le_refl _, fun _ _ => rfl, Nat.le_refl _, fun _ _ => Nat.le_refl _, fun _ _ _ => ⟨rfl, rfl⟩, fun _ _ => rfl, Nat.le_refl _, fun _ _ => rfl⟩
  by_cases hc : c = b
  · subst hc
    have hlt := (Array.getElem?_eq_some_iff.1 h).1
    unfold World.cell?
    simp only
    rw [World.putObj_heap_same hlt, h]
    cases o1 <;> cases o2 <;> first | rfl | exact h1.elim | exact h2.elim
  · unfold World.cell?
    simp only
    rw [World.putObj_heap_other hc]

/-- A block behind the beginning is turned. -/
theorem Step.putObj {G0 : Ghost} {w0 : World} {b : Nat} {o1 o2 : Obj} (hst : Step G0 w0 G w) (h : w.heap[b]? = some o1) (h1 : Bare o1) (h2 : Bare o2) (hb : w0.heap.size ≤ b ∨ ∃ k, k < G0.nl ∧ b = G0.ln k) : Step G0 w0 G (w.putObj b o2) := by
  have hk := putObj_keep (G := G) h h1 h2
  refine ⟨hst.os, hst.tape, hst.output, by simpa using hst.size, hst.lim, fun c off ho => ?_, hst.nb, hst.μ, hst.μnew, hst.nt, hst.ext, hst.τ, hst.tes, hst.τnew, hst.nl, hst.ln, hst.lnew, fun c hc k1 k2 k3 => ?_⟩
  · rw [hk.cell c off (Nat.lt_of_lt_of_le ho (hst.lim c))]
    exact hst.cell c off ho
  · obtain ⟨e1, e2⟩ := hst.frame c hc k1 k2 k3
    refine ⟨?_, e2⟩
    rw [World.putObj_heap_other ?_, e1]
    rintro rfl
    rcases hb with hb | ⟨k, hk', rfl⟩
    · omega
    · exact k3 k hk' rfl

theorem LRep.keep {r : LRec} {rec : Loop} (h : LRep P G w r rec) (hk : Keep G w G' w') : LRep P G' w' r rec := by
  obtain ⟨h1, h2, h3, h5, ⟨f1, f2, f3, f4⟩, nt, h4, h6⟩ := h
  exact ⟨h1, h2, h3, h5, ⟨Nat.le_trans f1 hk.nb, Nat.le_trans f2 hk.nt, Nat.le_trans f3 hk.nl, f4⟩, nt, ⟨h4.size, fun i => (h4.get i).keep hk⟩, h6⟩

/-- A block that no loop's record is, is turned. -/
theorem HRep.putObj {H : Heap} (hH : HRep P G w H) {b : Nat} {o1 o2 : Obj} (h : w.heap[b]? = some o1) (h1 : Bare o1) (h2 : Bare o2) (hb : ∀ k, k < G.nl → b ≠ G.ln k) : HRep P G (w.putObj b o2) H := by
  have hk := putObj_keep (G := G) h h1 h2
  have hne : ∀ (c : Nat) us e, w.heap[c]? = some (Obj.cells us e (0, 0)) → (w.putObj b o2).heap[c]? = some (Obj.cells us e (0, 0)) := by
    intro c us e hc
    rw [World.putObj_heap_other ?_, hc]
    rintro rfl
    rw [h] at hc
    cases hc
    exact h1
  refine ⟨fun c hc => hH.base c (by simpa using hc), hH.nb, hH.nt, hH.nl, fun k hk' => ?_, hH.μinj, hH.μlim, fun t ht => ?_, hH.τinj, hH.μτ, fun l hl => ?_, hH.linj⟩
  · obtain ⟨us, e, a1, a2, a3⟩ := hH.box k hk'
    exact ⟨us, e, hne _ _ _ a1, a2, fun i i1 i2 => (a3 i i1 i2).keep hk⟩
  · obtain ⟨a0, us, e, a1, a2⟩ := hH.tok t ht
    exact ⟨a0, us, e, hne _ _ _ a1, a2⟩
  · obtain ⟨rec, a1, a2⟩ := hH.loop l hl
    refine ⟨rec, ?_, a2.keep hk⟩
    rw [World.putObj_heap_other ?_, a1]
    exact fun e => hb l (by rw [hH.nl]; exact hl) e.symm

/-- A loop's record is turned. -/
theorem HRep.putLoop {H : Heap} (hH : HRep P G w H) {l : Nat} {rec rec' : Loop} {r : LRec} (hl : l < G.nl) (h : w.heap[G.ln l]? = some (.loop rec)) (hr : LRep P G w r rec') :
    HRep P G (w.putObj (G.ln l) (.loop rec')) { H with loops := H.loops.set l r } := by
  have hk := putObj_keep (G := G) (o2 := .loop rec') h trivial trivial
  have hlt := (Array.getElem?_eq_some_iff.1 h).1
  have hne : ∀ (c : Nat) us e, w.heap[c]? = some (Obj.cells us e (0, 0)) → (w.putObj (G.ln l) (.loop rec')).heap[c]? = some (Obj.cells us e (0, 0)) := by
    intro c us e hc
    rw [World.putObj_heap_other ?_, hc]
    intro e'
    rw [e', h] at hc
    cases hc
  refine ⟨fun c hc => hH.base c (by simpa using hc), hH.nb, hH.nt, by simpa using hH.nl, fun k hk' => ?_, hH.μinj, hH.μlim, fun t ht => ?_, hH.τinj, hH.μτ, fun l' hl' => ?_, hH.linj⟩
  · obtain ⟨us, e, a1, a2, a3⟩ := hH.box k hk'
    exact ⟨us, e, hne _ _ _ a1, a2, fun i i1 i2 => (a3 i i1 i2).keep hk⟩
  · obtain ⟨a0, us, e, a1, a2⟩ := hH.tok t ht
    exact ⟨a0, us, e, hne _ _ _ a1, a2⟩
  · have hl'' : l' < H.loops.length := by simpa using hl'
    by_cases he : l = l'
    · subst he
      exact ⟨rec', World.putObj_heap_same hlt, by simpa using hr.keep hk⟩
    · obtain ⟨rec0, a1, a2⟩ := hH.loop l' hl''
      refine ⟨rec0, ?_, ?_⟩
      · rw [World.putObj_heap_other ?_, a1]
        exact fun e => he (hH.linj _ _ hl (by rw [hH.nl]; exact hl'') e.symm)
      · simpa [List.getElem_set_ne he] using a2.keep hk

/-! ### Marks -/
/-- The activation's deferred calls are marks of loops over functions, and nothing was deferred in these. -/
structure Marks (w0 w : World) (df : List Deferred) : Prop where
  mark : ∀ d ∈ df, ∃ b, d.target = .collected b ∧ w0.heap.size ≤ b ∧ w.heap[b]? = some (.deferred (some []))
  apart : df.Pairwise fun d e => ∀ b, d.target = .collected b → e.target ≠ .collected b

theorem Marks.nil (w0 w : World) : Marks w0 w [] := ⟨fun d h => (by cases h), List.Pairwise.nil⟩
theorem Marks.step {w0 : World} {df : List Deferred} {H : Heap} (h : Marks w0 w df) (hH : HRep P G w H) (hst : Step G w G' w') : Marks w0 w' df := by
  refine ⟨fun d hd => ?_, h.apart⟩
  obtain ⟨b, h1, h2, h3⟩ := h.mark d hd
  refine ⟨b, h1, h2, ?_⟩
  rw [(hst.frame b (Array.getElem?_eq_some_iff.1 h3).1 (fun k hk e => ?_) (fun t ht e => ?_) (fun k hk e => ?_)).1, h3]
  · obtain ⟨us, e', hb, _⟩ := hH.box k (by rw [← hH.nb]; exact hk)
    rw [← e, h3] at hb; cases hb
  · obtain ⟨_, us, e', hb, _⟩ := hH.tok t (by rw [← hH.nt]; exact ht)
    rw [← e, h3] at hb; cases hb
  · obtain ⟨rec, hb, _⟩ := hH.loop k (by rw [← hH.nl]; exact hk)
    rw [← e, h3] at hb; cases hb

theorem Marks.put {w0 : World} {df : List Deferred} (h : Marks w0 w df) {b : Nat} {o1 o2 : Obj} (hb : w.heap[b]? = some o1) (hne : ∀ x, o1 ≠ .deferred x) : Marks w0 (w.putObj b o2) df := by
  refine ⟨fun d hd => ?_, h.apart⟩
  obtain ⟨c, h1, h2, h3⟩ := h.mark d hd
  refine ⟨c, h1, h2, ?_⟩
  rw [World.putObj_heap_other ?_, h3]
  rintro rfl
  rw [h3] at hb
  cases hb
  exact hne _ rfl

/-- The marks are passed on the way out. -/
theorem unwind_marks {G0 : Ghost} {w0 : World} {H : Heap} {cs : List Frame} : ∀ (df : List Deferred) {w : World} {fr : Frame}, Step G0 w0 G w → HRep P G w H → Marks w0 w df → fr.mode ≠ .run → fr.defers = df →
    ∃ w', Steps P (lone fr cs w) (lone { fr with defers := [] } cs w') ∧ Step G0 w0 G w' ∧ HRep P G w' H ∧ Keep G w G w'
  | [], w, fr, hst, hH, hm, hr, hd => by
    refine ⟨w, ?_, hst, hH, (Step.refl G w).keep⟩
    have : { fr with defers := [] } = fr := by cases fr; simp_all
    rw [this]
    exact .refl _ _
  | d :: ds, w, fr, hst, hH, hm, hr, hd => by
    obtain ⟨b, h1, h2, h3⟩ := hm.mark d (by simp)
    have hk := putObj_keep (G := G) (o2 := .deferred none) h3 trivial trivial
    have hst' : Step G0 w0 G (w.putObj b (.deferred none)) := hst.putObj h3 trivial trivial (.inl h2)
    have hH' : HRep P G (w.putObj b (.deferred none)) H := hH.putObj h3 trivial trivial fun k hk e => by
      obtain ⟨rec, hb, _⟩ := hH.loop k (by rw [← hH.nl]; exact hk)
      rw [← e, h3] at hb; cases hb
    have ha := List.pairwise_cons.1 hm.apart
    have hm' : Marks w0 (w.putObj b (.deferred none)) ds := by
      refine ⟨fun e he => ?_, ha.2⟩
      obtain ⟨c, j1, j2, j3⟩ := hm.mark e (List.mem_cons_of_mem _ he)
      refine ⟨c, j1, j2, ?_⟩
      rw [World.putObj_heap_other ?_, j3]
      rintro rfl
      exact ha.1 e he c h1 j1
    have h0 := step_collected (P := P) (cs := cs) (w := w) hr hd h1 (run_takeDeferred h3)
    obtain ⟨w', s1, s2, s3, s4⟩ := unwind_marks ds (fr := { fr with defers := [] ++ ds }) hst' hH' hm' hr rfl
    refine ⟨w', .head h0 s1, s2, s3, ?_⟩
    exact ⟨fun c => Nat.le_refl _, fun c off ho => (s4.cell c off ho).trans (hk.cell c off ho), Nat.le_refl _, fun _ _ => rfl, Nat.le_refl _, fun _ _ => Nat.le_refl _, fun _ _ _ => ⟨rfl, rfl⟩, fun _ _ => rfl, Nat.le_refl _, fun _ _ => rfl⟩

/-! ### Results -/
def resOne (tmps : Array Value) : ResultVar → Sem Value
  | .tmp t => pure (tmps.getD t undef)
  | .cell a t => do loadVar t (← asAddr (tmps.getD a undef))
theorem results_eq (fn : Func) (tmps : Array Value) : results fn tmps = (do let vs ← fn.results.mapM (resOne tmps); pure (if h : vs.size = 1 then vs[0] else .tuple vs)) := rfl

theorem loadA_ptr {u : Value} {x z : AV} {g : Bool} {n : Nat} {H : Heap} (hx : Rep G w u x) (h : loadA g n H x = some z) : ∃ a, u = .pointer (some a) := by
  cases hx with
  | ptr k off hk => exact ⟨_, rfl⟩
  | ref a => exact ⟨_, rfl⟩
  | _ => simp [loadA] at h

theorem resAll_run {nt : Nat} {tmps : Array Value} {T : Env} {H : Heap} (hT : TRep G w nt tmps T) (hH : HRep P G w H) : ∀ {rs : List ResultVar} {as : List ARV} {vs : List AV}, cRes P rs = some as → resAll T H as = some vs →
    ∃ us : List Value, (rs.mapM (resOne tmps)).run P w = .ok us w ∧ us.length = vs.length ∧ ∀ i (h1 : i < us.length) (h2 : i < vs.length), Rep G w us[i] vs[i]
  | [], as, vs, hc, h => by
    simp only [cRes, Option.some.injEq] at hc
    subst hc
    simp only [resAll, Option.some.injEq] at h
    subst h
    exact ⟨[], rfl, rfl, fun i h1 => absurd h1 (by simp)⟩
  | .tmp t :: rs, as, vs, hc, h => by
    simp only [cRes, Option.map_eq_some_iff] at hc
    obtain ⟨as', hc', rfl⟩ := hc
    simp only [resAll, resA] at h
    split at h <;> simp only [Option.some.injEq, reduceCtorEq] at h
    rename_i v vs' h1 h2
    simp only [Option.some.injEq] at h1
    subst h; subst h1
    obtain ⟨us, e1, e2, e3⟩ := resAll_run hT hH hc' h2
    refine ⟨tmps.getD t undef :: us, ?_, by simp [e2], fun i h1 h2 => ?_⟩
    · simp only [List.mapM_cons, resOne, Sem.run_bind, Sem.run_pure, Result.andThen_ok, e1]
    · cases i with
      | zero => exact hT.get t
      | succ i => simpa using e3 i (by simpa using h1) (by simpa using h2)
  | .cell t ty :: rs, as, vs, hc, h => by
    simp only [cRes] at hc
    split at hc <;> simp only [Option.some.injEq, reduceCtorEq] at hc
    rename_i g n as' g1 g2 hc'
    subst hc
    simp only [resAll, resA] at h
    split at h <;> simp only [Option.some.injEq, reduceCtorEq] at h
    rename_i v vs' h1 h2
    subst h
    obtain ⟨us, e1, e2, e3⟩ := resAll_run hT hH hc' h2
    obtain ⟨u, f1, f2⟩ := run_loadA hH (hT.get t) h1 g1 g2
    obtain ⟨ad, had⟩ := loadA_ptr (hT.get t) h1
    rw [had] at f1
    refine ⟨u :: us, ?_, by simp [e2], fun i h1 h2 => ?_⟩
    · have f1' : (resOne tmps (.cell t ty)).run P w = .ok u w := by
        simp only [resOne]
        rw [had]
        exact f1
      simp only [List.mapM_cons, Sem.run_bind, Sem.run_pure, Result.andThen_ok, e1, f1']
    · cases i with
      | zero => exact f2
      | succ i => simpa using e3 i (by simpa using h1) (by simpa using h2)

theorem ret_run {fn : Func} {nt : Nat} {tmps : Array Value} {T : Env} {H H' : Heap} {A : AFunc} {r : ARes} (hT : TRep G w nt tmps T) (hH : HRep P G w H) (hc : cRes P fn.results.toList = some A.results) (h : retA A T H = some (r, H')) :
    H' = H ∧ ∃ v u, r = .ret v ∧ (results fn tmps).run P w = .ok u w ∧ Rep G w u v := by
  unfold retA at h
  have key : ∀ vs, resAll T H A.results = some vs → ∃ us : Array Value, (fn.results.mapM (resOne tmps)).run P w = .ok us w ∧
      us.size = vs.length ∧ ∀ i (h1 : i < us.size) (h2 : i < vs.length), Rep G w us[i] vs[i] := by
    intro vs hvs
    obtain ⟨us, e1, e2, e3⟩ := resAll_run hT hH hc hvs
    refine ⟨us.toArray, ?_, by simpa using e2, fun i h1 h2 => by simpa using e3 i (by simpa using h1) h2⟩
    rw [Array.mapM_eq_mapM_toList]
    simp [e1]
  rw [results_eq]
  split at h
  · rename_i v hv
    simp only [Option.some.injEq, Prod.mk.injEq] at h
    obtain ⟨rfl, rfl⟩ := h
    obtain ⟨us, e1, e2, e3⟩ := key _ hv
    refine ⟨rfl, v, us[0]'(by simp [e2]), rfl, ?_, by simpa using e3 0 (by simp [e2]) (by simp)⟩
    simp only [Sem.run_bind, e1, Result.andThen_ok]
    rw [dif_pos (show us.size = 1 by simpa using e2)]
    rfl
  · rename_i vs hne hvs
    simp only [Option.some.injEq, Prod.mk.injEq] at h
    obtain ⟨rfl, rfl⟩ := h
    obtain ⟨us, e1, e2, e3⟩ := key _ hvs
    refine ⟨rfl, .tuple vs, .tuple us, rfl, ?_, .tuple us vs e2 e3⟩
    simp only [Sem.run_bind, e1, Result.andThen_ok]
    rw [dif_neg (show us.size ≠ 1 from fun h1 => ?_)]
    · rfl
    · rw [e2] at h1
      obtain ⟨x, rfl⟩ := List.length_eq_one_iff.1 h1
      exact hne _ rfl
  · cases h

end Go.Aa
