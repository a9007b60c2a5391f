/-
  SLICE LITERALS; all operations that make no call.
-/
import Derived.Test.YtmlipdlbeddijaaDoorAaB
set_option linter.unusedVariables false
set_option linter.unusedSimpArgs false
namespace Go.Aa
open Go.RowKit

variable {P : Program} {G G' : Ghost} {w w' : World}

theorem pasteV_get : ∀ (vs cells : List Value) (off q : Nat), off + vs.length ≤ cells.length → (pasteV cells off vs)[q]? = if off ≤ q ∧ q < off + vs.length then vs[q - off]? else cells[q]? := by
  intro vs cells off q h
  rw [pasteV_spec vs cells off h, List.append_assoc]
  by_cases h1 : q < off
  · rw [if_neg (by omega), List.getElem?_append_left (by simp; omega)]
    simp [List.getElem?_take, h1]
  · rw [List.getElem?_append_right (by simp; omega)]
    have e : (cells.take off).length = off := by simp; omega
    rw [e]
    by_cases h2 : q < off + vs.length
    · rw [if_pos ⟨by omega, h2⟩, List.getElem?_append_left (by omega)]
    · rw [if_neg (by omega), List.getElem?_append_right (by omega), List.getElem?_drop]
      congr 1; omega

theorem fill_rows (es : Nat) : ∀ (vals : List Value) (s : Nat) (cells : Array Value), (∀ v ∈ vals, v.cells.size = es) → (s + vals.length) * es ≤ cells.size →
    ∃ out, Instr.fill (fun i => some (i * es, es)) cells (vals.zipIdx s |>.map fun p => (p.2, p.1)) = some out ∧ out.size = cells.size ∧ (∀ q, q < s * es → out[q]? = cells[q]?) ∧
      ∀ i (hi : i < vals.length) j, j < es → out[(s + i) * es + j]? = (vals[i]).cells[j]? := by
  intro vals
  induction vals with
  | nil => intro s cells _ _; exact ⟨cells, rfl, rfl, fun _ _ => rfl, fun i hi => absurd hi (by simp)⟩
  | cons v vals ih =>
    intro s cells hv hle
    have hvs := hv v (by simp)
    simp only [List.zipIdx_cons, List.map_cons, Instr.fill]
    have hlen : s * es + es ≤ cells.size := by
      have := Nat.mul_le_mul_right es (show s + 1 ≤ s + (v :: vals).length by simp)
      rw [Nat.add_mul] at this; omega
    rw [if_neg (by simp [hvs]; omega)]
    generalize hc : v.cells.zipIdx.foldl (fun cs (x : Value × Nat) => match x with | (c, j) => cs.setIfInBounds (s * es + j) c) cells = cells'
    have e2 : cells'.toList = pasteV cells.toList (s * es) v.cells.toList := by
      rw [← hc]
      have e := foldl_paste v.cells.toList cells (s * es) 0
      rw [Nat.add_zero] at e
      rw [← e, ← Array.foldl_toList, Array.toList_zipIdx]
    have hget : ∀ q, cells'[q]? = if s * es ≤ q ∧ q < s * es + es then v.cells[q - s * es]? else cells[q]? := by
      intro q
      rw [← Array.getElem?_toList, e2, pasteV_get _ _ _ _ (by simp [hvs]; omega)]
      simp [hvs]
    have hsz : cells'.size = cells.size := by
      rw [← Array.length_toList, e2, pasteV_spec _ _ _ (by simp [hvs]; omega)]
      simp [hvs]; omega
    obtain ⟨out, h1, h2, h3, h4⟩ := ih (s + 1) cells' (fun x hx => hv x (by simp [hx])) (by rw [hsz]; simpa [Nat.add_assoc, Nat.add_comm 1] using hle)
    refine ⟨out, h1, by rw [h2, hsz], fun q hq => ?_, fun i hi j hj => ?_⟩
    · rw [h3 q (by rw [Nat.add_mul]; omega), hget, if_neg (by omega)]
    · cases i with
      | zero =>
        rw [Nat.add_zero, h3 _ (by rw [Nat.add_mul]; omega), hget, if_pos ⟨by omega, by omega⟩]
        simp
      | succ i =>
        have := h4 i (by simpa using hi) j hj
        rw [show s + (i + 1) = s + 1 + i by omega, this]
        simp

theorem Rep.shut2 {v : Value} {x : AV} (h : Rep G w v x) : Rep G w v (shut2 x) := by
  cases x <;> try exact h.shut1
  rename_i cs
  cases h with
  | agg us _ hn hr => exact .agg us _ (by simp [hn]) fun i h1 h2 => by simpa using (hr i h1 (by simpa using h2)).shut1

theorem Rep.shut {v : Value} {x : AV} (h : Rep G w v x) : Rep G w v (shutA x) := by
  cases x <;> try exact h.shut2
  rename_i cs
  cases h with
  | tuple us _ hn hr => exact .tuple us _ (by simp [hn]) fun i h1 h2 => by simpa using (hr i h1 (by simpa using h2)).shut2

theorem run_bslice {n : Nat} {a : Act} {T : Env} {t e : TypeId} {es m : Nat} {parts : Array (Nat × Operand)} {xs : List Opd} {H : Heap} (hH : HRep P G w H) (hT : TRep G w n a.tmps T)
    (ht : P.underlying t = some (.slice e)) (he : sizeT P e = some es) (hxs : cOpds (parts.toList.map (·.2)) = some xs) (hidx : parts.toList.map (·.1) = List.range m) (h0 : 0 < es) (hbig : m * es ≤ 16777216)
    (hz : ((P.info? e).bind (·.zero)).any (fun z => z.cells.size == es) = true)
    (hok : lenOk es (xs.map fun x => shut2 (ev T x)) = true) (hd : dataOk (xs.map fun x => shut2 (ev T x)) = true) :
    ∃ r w' G', (Instr.buildSlice t m (parts.map fun (i, x) => (i, a.eval x))).run P w = .ok r w' ∧ Grow G w G' w' ∧ Rep G' w' r (.sl .full (xs.map fun x => shut2 (ev T x))) := by
  obtain ⟨hl, hr⟩ := cOpds_rep (a := a) hT hxs
  generalize hvals : parts.toList.map (fun p => a.eval p.2) = vals
  generalize hL : xs.map (fun x => shut2 (ev T x)) = L at *
  have hlv : vals.length = m := by
    have := congrArg List.length hidx
    rw [← hvals]; simpa using this
  have hlL : L.length = m := by
    rw [← hL, List.length_map, ← hl, List.length_map]
    have := congrArg List.length hidx
    simpa using this
  have hrv : ∀ i (h1 : i < vals.length) (h2 : i < L.length), Rep G w vals[i] L[i] := by
    intro i h1 h2
    subst hL; subst hvals
    simp only [List.getElem_map]
    have := hr i (by simpa using h1) (by simpa using h2)
    simp only [List.getElem_map] at this
    exact this.shut2
  have hparts : (parts.map fun (i, x) => (i, a.eval x)).toList = vals.zipIdx.map fun p => (p.2, p.1) := by
    subst hvals
    apply List.ext_getElem?
    intro i
    have := congrArg (fun l => l[i]?) hidx
    simp only [List.getElem?_map] at this
    simp only [Array.toList_map, List.getElem?_map, List.getElem?_zipIdx, Nat.zero_add]
    cases hp : parts.toList[i]? with
    | none => simp
    | some p =>
      rw [hp] at this
      simp only [Option.map_some] at this ⊢
      have hi : i < m := by
        rcases Nat.lt_or_ge i m with h' | h'
        · exact h'
        · rw [List.getElem?_eq_none (by simpa using h')] at this; cases this
      rw [List.getElem?_range hi] at this
      simp only [Option.some.injEq] at this
      rw [this]
  have hsz : (sizeOf e).run P w = .ok es w := run_sizeT he
  have hcs : ∀ v ∈ vals, v.cells.size = es := by
    intro v hv
    obtain ⟨i, hi, rfl⟩ := List.getElem_of_mem hv
    exact ((hrv i hi (by omega)).cellsN (lenOk_get hok (by omega))).1
  cases hinfo : P.info? e with
  | none => simp [hinfo] at hz
  | some inf =>
    cases hzero : inf.zero with
    | none => simp [hinfo, hzero] at hz
    | some z =>
      simp only [hinfo, Option.bind_some, hzero, Option.any_some, beq_iff_eq] at hz
      rcases Nat.eq_zero_or_pos m with hm | hm
      · subst hm
        have hL0 : L = [] := List.eq_nil_of_length_eq_zero hlL
        have hv0 : vals = [] := List.eq_nil_of_length_eq_zero hlv
        subst hL0; subst hv0
        refine ⟨.slice (some ⟨w.heap.size, 0, none⟩) 0 0, w.alloc (.cells #[] e), G.set w.heap.size 0, ?_, Grow.alloc hH.base _ 0, .sl0 _ _ _ (fun _ => rfl) (fun t e => by cases e)⟩
        have hp0 : (parts.map fun (i, x) => (i, a.eval x)).toList = [] := by rw [hparts]; rfl
        simp only [Instr.buildSlice, Sem.run_bind, run_underlying ht, Result.andThen_ok, hsz, Nat.zero_mul, show ¬ (0 > 2 ^ 24) by decide, if_false, Sem.run_pure, if_true, hp0, Instr.fill, newRow]
        have e0 : ∀ f : Nat → Value, Array.map f (Array.range 0) = #[] := fun f => by simp
        simp only [e0]
        rfl
      · obtain ⟨out, h1, h2, _, h4⟩ := fill_rows es vals 0 ((Array.range (m * es)).map (z.cells[· % z.cells.size]!)) hcs (by simp [hlv])
        have hne : m * es ≠ 0 := Nat.mul_ne_zero (by omega) (by omega)
        have hg := Grow.alloc hH.base (.cells out e) (m * es)
        have hnew : (w.alloc (.cells out e)).heap[w.heap.size]? = some (.cells out e (0, 0)) := by
          show (w.heap.push _)[w.heap.size]? = _
          simp
        have hst := hg.step hH.base
        refine ⟨.slice (some ⟨w.heap.size, 0, none⟩) m m, w.alloc (.cells out e), _, ?_, hg, ?_⟩
        · have hzv : (zeroValue e).run P w = .ok z w := by simp [zeroValue, typeInfo, hinfo, hzero]
          simp only [Instr.buildSlice, Sem.run_bind, run_underlying ht, Result.andThen_ok, hsz, show ¬ (m * es > 2 ^ 24) by omega, if_false, Sem.run_pure, hne, hzv, Sem.run_ite, newRow, hparts]
          simp only [h1]
          rfl
        · refine Rep.row (us := fun i j => ((vals.getD i undef).cells.getD j undef)) (es := es) (cells := out) (e := e) (by intro h; rw [h] at hlL; simp at hlL; omega) hlL (Nat.le_refl _) (by have := Nat.le_mul_of_pos_right m h0; omega)
            (fun i hi => cells_of_N (lenOk_get hok hi)) h0 (fun x hx y hy => ?_) (by simp [Ghost.set]) ⟨_, hnew⟩ (fun i hi j hj => ?_) (fun i hi j hj => ?_) (fun _ => hlL.symm) (fun t e => by cases e)
          · obtain ⟨i, hi, rfl⟩ := List.getElem_of_mem hx
            obtain ⟨j, hj, rfl⟩ := List.getElem_of_mem hy
            have hA := (hrv i (by omega) hi).cellsN (lenOk_get hok hi)
            exact data0_data (dataOk_get hd hi hj) (hA.2.2 j (by rw [hA.2.1]; exact hj) hj)
          · have hi' : i < vals.length := by omega
            have := h4 i hi' j hj
            rw [Nat.zero_add] at this
            have hcj : j < (vals[i]).cells.size := by rw [hcs _ (List.getElem_mem hi')]; exact hj
            rw [this]
            simp [List.getD, hi', Array.getD, hcj]
          · have hi' : i < vals.length := by omega
            have hA := (hrv i hi' hi).cellsN (lenOk_get hok hi)
            have hcj : j < (vals[i]).cells.size := by rw [hA.1, ← cells_of_N (lenOk_get hok hi)]; exact hj
            have := (hA.2.2 j (by simpa using hcj) hj).step hst
            simpa [List.getD, hi', Array.getD, hcj] using this

end Go.Aa
