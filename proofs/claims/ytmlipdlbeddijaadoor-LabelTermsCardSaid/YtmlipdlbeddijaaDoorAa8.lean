/-
  THE HEAP: boxes, tokens, loops' records; loads, stores, new variables, slice literals, append.
-/
import Derived.Test.YtmlipdlbeddijaaDoorAa7
import Derived.Laws.CopyRow
import Derived.Deep.AppendSrc
set_option linter.unusedVariables false
set_option linter.unusedSimpArgs false
namespace Go.Aa
open Go.RowKit

variable {P : Program} {G G' : Ghost} {w w' : World}

/-- A loop's record, as it lies. -/
structure LRep (P : Program) (G : Ghost) (w : World) (r : LRec) (rec : Loop) : Prop where
  ready : r.busy = false → rec.state = .ready
  pending : rec.pending = none
  ps : rec.params.toList = r.ps
  fn : ∃ f, P.funcs[rec.fn]? = some f
  fits : r.nb ≤ G.nb ∧ r.nt ≤ G.nt ∧ r.nl ≤ G.nl ∧ ∀ i, Fits r.nb r.nt r.nl (r.T i)
  body : ∃ nt, TRep G w nt rec.tmps r.T ∧ r.ps.all (fun d => decide (d < nt)) = true ∧ cCode P nt rec.assign = some r.assign ∧ cCode P nt rec.body = some r.body

structure HRep (P : Program) (G : Ghost) (w : World) (H : Heap) : Prop where
  base : Base G w
  nb : G.nb = H.boxes.length
  nt : G.nt = H.toks.length
  nl : G.nl = H.loops.length
  box : ∀ k (hk : k < H.boxes.length), ∃ us e, w.heap[G.μ k]? = some (.cells us e (0, 0)) ∧ (H.boxes[k]).length ≤ us.size ∧ ∀ i (h1 : i < us.size) (h2 : i < (H.boxes[k]).length), Rep G w us[i] (H.boxes[k])[i]
  μinj : ∀ i j, i < G.nb → j < G.nb → G.μ i = G.μ j → i = j
  μlim : ∀ k, k < G.nb → G.lim (G.μ k) = 0
  tok : ∀ t (ht : t < H.toks.length), H.toks[t] = G.ext t ∧ ∃ us e, w.heap[G.τ t]? = some (.cells us e (0, 0)) ∧ 0 < G.tes t ∧ us.size = G.cap t * G.tes t ∧ G.lim (G.τ t) = G.ext t * G.tes t ∧ G.ext t ≤ G.cap t ∧ G.cap t ≤ 9223372036854775807
  τinj : ∀ i j, i < G.nt → j < G.nt → G.τ i = G.τ j → i = j
  μτ : ∀ k t, k < G.nb → t < G.nt → G.μ k ≠ G.τ t
  loop : ∀ l (hl : l < H.loops.length), ∃ rec, w.heap[G.ln l]? = some (.loop rec) ∧ LRep P G w H.loops[l] rec
  linj : ∀ i j, i < G.nl → j < G.nl → G.ln i = G.ln j → i = j

theorem HRep.μlt {H : Heap} (h : HRep P G w H) {k : Nat} (hk : k < G.nb) : G.μ k < w.heap.size := by
  obtain ⟨us, e, hb, _⟩ := h.box k (by rw [← h.nb]; exact hk)
  exact (Array.getElem?_eq_some_iff.1 hb).1
theorem HRep.τlt {H : Heap} (h : HRep P G w H) {t : Nat} (ht : t < G.nt) : G.τ t < w.heap.size := by
  obtain ⟨_, us, e, hb, _⟩ := h.tok t (by rw [← h.nt]; exact ht)
  exact (Array.getElem?_eq_some_iff.1 hb).1
theorem HRep.lnlt {H : Heap} (h : HRep P G w H) {l : Nat} (hl : l < G.nl) : G.ln l < w.heap.size := by
  obtain ⟨rec, hb, _⟩ := h.loop l (by rw [← h.nl]; exact hl)
  exact (Array.getElem?_eq_some_iff.1 hb).1
theorem HRep.μln {H : Heap} (h : HRep P G w H) {k l : Nat} (hk : k < G.nb) (hl : l < G.nl) : G.μ k ≠ G.ln l := by
  intro e
  obtain ⟨us, e', hb, _⟩ := h.box k (by rw [← h.nb]; exact hk)
  obtain ⟨rec, hb', _⟩ := h.loop l (by rw [← h.nl]; exact hl)
  rw [e, hb'] at hb; cases hb
theorem HRep.τln {H : Heap} (h : HRep P G w H) {t l : Nat} (ht : t < G.nt) (hl : l < G.nl) : G.τ t ≠ G.ln l := by
  intro e
  obtain ⟨_, us, e', hb, _⟩ := h.tok t (by rw [← h.nt]; exact ht)
  obtain ⟨rec, hb', _⟩ := h.loop l (by rw [← h.nl]; exact hl)
  rw [e, hb'] at hb; cases hb

theorem LRep.step {r : LRec} {rec : Loop} (h : LRep P G w r rec) (hst : Step G w G' w') : LRep P G' w' r rec := by
  obtain ⟨h1, h2, h3, h5, ⟨f1, f2, f3, f4⟩, nt, h4, h6⟩ := h
  exact ⟨h1, h2, h3, h5, ⟨Nat.le_trans f1 hst.nb, Nat.le_trans f2 hst.nt, Nat.le_trans f3 hst.nl, f4⟩, nt, h4.step hst, h6⟩

/-- Only new blocks have come: all boxes, tokens, loops are as they were. -/
theorem HRep.grow {H : Heap} (h : HRep P G w H) (hg : Grow G w G' w') : HRep P G' w' H := by
  have hst := hg.step h.base
  have e := hg.g
  have hlim : ∀ b, b < w.heap.size → G'.lim b = G.lim b := fun b hb => (hg.heap b hb).2
  have eμ : G'.μ = G.μ := by rw [e]
  have eτ : G'.τ = G.τ := by rw [e]
  have eln : G'.ln = G.ln := by rw [e]
  have eext : G'.ext = G.ext := by rw [e]
  have ecap : G'.cap = G.cap := by rw [e]
  have etes : G'.tes = G.tes := by rw [e]
  have enb : G'.nb = G.nb := by rw [e]
  have ent : G'.nt = G.nt := by rw [e]
  have enl : G'.nl = G.nl := by rw [e]
  refine ⟨hg.new, enb ▸ h.nb, ent ▸ h.nt, enl ▸ h.nl, fun k hk => ?_, ?_, fun k hk => ?_, fun t ht => ?_, ?_, ?_, fun l hl => ?_, ?_⟩
  · obtain ⟨us, e', hb, h1, h2⟩ := h.box k hk
    refine ⟨us, e', ?_, h1, fun i j1 j2 => (h2 i j1 j2).step hst⟩
    rw [eμ, (hg.heap _ (h.μlt (by rw [h.nb]; exact hk))).1]; exact hb
  · rw [eμ, enb]; exact h.μinj
  · rw [eμ, hlim _ (h.μlt (enb ▸ hk))]; exact h.μlim k (enb ▸ hk)
  · obtain ⟨h0, us, e', hb, h1, h2, h3, h4, h5⟩ := h.tok t ht
    have hlt := h.τlt (by rw [h.nt]; exact ht)
    refine ⟨by rw [eext]; exact h0, us, e', ?_, by rw [etes]; exact h1, by rw [ecap, etes]; exact h2, by rw [eτ, hlim _ hlt, eext, etes]; exact h3, by rw [eext, ecap]; exact h4, by rw [ecap]; exact h5⟩
    rw [eτ, (hg.heap _ hlt).1]; exact hb
  · rw [eτ, ent]; exact h.τinj
  · rw [eμ, eτ, enb, ent]; exact h.μτ
  · obtain ⟨rec, hb, hr⟩ := h.loop l hl
    refine ⟨rec, ?_, hr.step hst⟩
    rw [eln, (hg.heap _ (h.lnlt (by rw [h.nl]; exact hl))).1]; exact hb
  · rw [eln, enl]; exact h.linj

/-! ### Loads -/
theorem run_aggT {t : TypeId} {g : Bool} (hg : aggT P t = some g) : (isAgg t).run P w = .ok g w := by
  unfold aggT at hg
  unfold isAgg
  split at hg <;> simp only [Option.some.injEq, reduceCtorEq] at hg <;> subst hg
  · rename_i e; simp [run_underlying e]
  · rename_i e; simp [run_underlying e]
  · rename_i d e1 e2 e
    simp only [Sem.run_bind, run_underlying e, Result.andThen_ok]
    cases d <;> first | rfl | exact absurd e (e1 _) | exact absurd e (e2 _ _)

theorem run_sizeT {t : TypeId} {n : Nat} (hn : sizeT P t = some n) : (sizeOf t).run P w = .ok n w := by
  simp only [sizeT, Option.map_eq_some_iff] at hn
  obtain ⟨i, hi, rfl⟩ := hn
  simp [sizeOf, typeInfo, hi]

theorem add_zero' (a : Addr) : a.add 0 = a := by simp [Addr.add]

/-- A load at an address whose cells are told. -/
theorem load_at {a : Addr} {cs : List AV} {us : Nat → Value} {t : TypeId} {g : Bool} {z : AV} (hg : aggT P t = some g) (hn : sizeT P t = some cs.length)
    (hcell : ∀ j, j < cs.length → w.cell? (a.add j) = some (us j)) (hrep : ∀ j (hj : j < cs.length), Rep G w (us j) cs[j])
    (hz : (if g then some (AV.agg cs) else match cs with | [x] => some x | _ => none) = some z) : ∃ r, (loadVar t a).run P w = .ok r w ∧ Rep G w r z := by
  cases g with
  | true =>
    simp only [if_true, Option.some.injEq] at hz
    subst hz
    refine ⟨.agg ((List.range cs.length).map us).toArray, ?_, .agg _ _ (by simp) fun i h1 h2 => ?_⟩
    · simp [loadVar, run_aggT hg, run_sizeT hn, run_loadCells w a cs.length us hcell]
    · simpa using hrep i h2
  | false =>
    simp only [Bool.false_eq_true, if_false] at hz
    split at hz
    · rename_i x
      simp only [Option.some.injEq] at hz
      subst hz
      have hc := hcell 0 (by simp)
      rw [add_zero'] at hc
      exact ⟨us 0, by simp [loadVar, run_aggT hg, hc], hrep 0 (by simp)⟩
    · cases hz

theorem run_loadA {H : Heap} {x z : AV} {u : Value} {t : TypeId} {g : Bool} {n : Nat} (hH : HRep P G w H) (hx : Rep G w u x) (h : loadA g n H x = some z) (hg : aggT P t = some g) (hn : sizeT P t = some n) :
    ∃ r, (Instr.loadAt t u).run P w = .ok r w ∧ Rep G w r z := by
  unfold loadA at h
  split at h
  · rename_i cs
    split at h
    · rename_i hl
      subst hl
      cases hx with
      | ref a _ us hs hd hlim hcell hrep =>
      obtain ⟨r, h1, h2⟩ := load_at hg hn hcell hrep h
      exact ⟨r, by simp [Instr.loadAt, Instr.sureAddr, h1], h2⟩
    · cases h
  · rename_i k off
    split at h
    · rename_i cs hcs
      split at h
      · rename_i hle
        cases hx with
        | ptr _ _ hk =>
        obtain ⟨hlt, hcs'⟩ := List.getElem?_eq_some_iff.1 hcs
        obtain ⟨us, e, hb, hsz, hrep⟩ := hH.box k hlt
        rw [hcs'] at hsz hrep
        have hlen : ((cs.drop off).take n).length = n := by simp; omega
        have hcell : ∀ j, j < ((cs.drop off).take n).length → w.cell? ((⟨G.μ k, off, none⟩ : Addr).add j) = some (us.getD (off + j) undef) := by
          intro j hj
          rw [hlen] at hj
          rw [add_off rfl]
          simp [World.cell?, hb, Array.getD, show off + j < us.size by omega]
        have hrep' : ∀ j (hj : j < ((cs.drop off).take n).length), Rep G w (us.getD (off + j) undef) ((cs.drop off).take n)[j] := by
          intro j hj
          have hj' : j < n := by rw [hlen] at hj; exact hj
          have := hrep (off + j) (by omega) (by omega)
          simpa [Array.getD, show off + j < us.size by omega] using this
        obtain ⟨r, h1, h2⟩ := load_at (P := P) (t := t) (g := g) (z := z) hg (by rw [hlen]; exact hn) hcell hrep' (by
          cases g with
          | true => simpa using h
          | false =>
            simp only [Bool.false_eq_true, if_false] at h ⊢
            split at h
            · rename_i hn1
              subst hn1
              obtain ⟨hlt2, hz⟩ := List.getElem?_eq_some_iff.1 h
              rw [List.drop_eq_getElem_cons hlt2]
              simp [hz]
            · cases h)
        exact ⟨r, by simp [Instr.loadAt, Instr.sureAddr, h1], h2⟩
      · cases h
    · cases h
  · cases h

end Go.Aa
