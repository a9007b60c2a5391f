/-
  THE HEAP, MORE: stores, new variables, slice literals, append.
-/
import Derived.Test.YtmlipdlbeddijaaDoorAa8
set_option linter.unusedVariables false
set_option linter.unusedSimpArgs false
namespace Go.Aa
open Go.RowKit

variable {P : Program} {G G' : Ghost} {w w' : World}

theorem Rep.one {v : Value} {x : AV} (h : Rep G w v x) (hx : cellOk x = true) : v.oneCell' = true := by
  cases h <;> first | rfl | (simp [cellOk] at hx; done)

theorem pasteV_spec : ∀ (vs cells : List Value) (off : Nat), off + vs.length ≤ cells.length → pasteV cells off vs = cells.take off ++ vs ++ cells.drop (off + vs.length)
  | [], cells, off, h => by simp [pasteV]
  | v :: vs, cells, off, h => by
    simp only [List.length_cons] at h
    rw [pasteV, pasteV_spec vs _ _ (by simp; omega)]
    have h1 : (cells.set off v).take (off + 1) = cells.take off ++ [v] := by
      rw [List.take_set, List.take_succ_eq_append_getElem (by omega)]
      rw [List.set_append_right _ _ (by simp; omega)]
      simp [show min off cells.length = off by omega]
    have h2 : (cells.set off v).drop (off + 1 + vs.length) = cells.drop (off + (v :: vs).length) := by
      rw [List.drop_set_of_lt (by omega)]
      congr 1
      simp; omega
    rw [h1, h2]
    simp

/-- A block of which nothing is settled may be written. -/
theorem Step.setRow {H : Heap} (hH : HRep P G w H) {k : Nat} (hk : k < G.nb) (cs : Array Value) : Step G w G (w.setRow (G.μ k) cs) := by
  refine ⟨rfl, rfl, rfl, by simp, fun _ => Nat.le_refl _, fun b off ho => ?_, Nat.le_refl _, fun _ _ => rfl, fun _ h1 h2 => absurd h2 (by omega), Nat.le_refl _, fun _ _ => Nat.le_refl _,
   fun _ _ _ => ⟨rfl, rfl⟩, fun _ _ => rfl, fun _ h => .inl ⟨h, rfl⟩, Nat.le_refl _, fun _ _ => rfl, fun _ h1 h2 => absurd h2 (by omega), fun b _ h1 _ _ => ⟨?_, rfl⟩⟩
  · by_cases e : b = G.μ k
    · rw [e, hH.μlim k hk] at ho; omega
    · exact cell_setRow_other _ _ _ _ e
  · exact setRow_other _ _ _ _ (h1 k hk)

theorem run_storeA {H H' : Heap} {x y : AV} {u v : Value} {t : TypeId} {n : Nat} (hH : HRep P G w H) (hx : Rep G w u x) (hy : Rep G w v y) (h : storeA n H x y = some H') (hn : sizeT P t = some n) :
    ∃ w', (Instr.storeAt t u v).run P w = .ok () w' ∧ Step G w G w' ∧ HRep P G w' H' := by
  unfold storeA at h
  split at h
  · rename_i k off
    split at h
    · rename_i cs hcs
      split at h
      · rename_i hok
        obtain ⟨hle, hN, hcell⟩ := hok
        simp only [Option.some.injEq] at h
        subst h
        cases hx with
        | ptr _ _ hk =>
        obtain ⟨hlt, hcs'⟩ := List.getElem?_eq_some_iff.1 hcs
        obtain ⟨us, e, hb, hsz, hrep⟩ := hH.box k hlt
        rw [hcs'] at hsz hrep
        obtain ⟨hvs, hvr⟩ := hy.cellsN hN
        have hone : ∀ c ∈ v.cells.toList, c.oneCell' = true := by
          intro c hc
          obtain ⟨i, hi, rfl⟩ := List.getElem_of_mem hc
          have hi2 : i < y.cells.length := by rw [← hvr.1]; exact hi
          exact (hvr.2 i hi hi2).one (List.all_eq_true.1 hcell _ (List.getElem_mem hi2))
        have hvl : v.cells.toList.length = n := by simpa using hvs
        have hrun := run_storeCells_at P (G.μ k) off e v.cells.toList 0 us w hb (by rw [hvl]; omega) hone
        simp only [Nat.add_zero] at hrun
        have hst := Step.setRow hH hk (us.toList.take off ++ v.cells.toList ++ us.toList.drop (off + v.cells.toList.length)).toArray
        refine ⟨_, ?_, hst, ?_⟩
        · simp only [Instr.storeAt, Instr.sureAddr, Sem.run_bind, Sem.run_pure, Result.andThen_ok, storeVar, run_sizeT hn, hvs, ne_eq, not_true, if_false]
          exact hrun
        · rw [← pasteV_spec _ _ _ (by rw [hvl]; simp; omega)] at hst ⊢
          have hnew := setRow_heap w (G.μ k) us (pasteV us.toList off v.cells.toList).toArray e (0, 0) hb
          refine ⟨fun b hb' => hH.base b (by simpa using hb'), by rw [hH.nb]; simp, hH.nt, hH.nl, fun j hj => ?_, hH.μinj, hH.μlim, fun t ht => ?_, hH.τinj, hH.μτ, fun l hl => ?_, hH.linj⟩
          · simp only [List.length_set] at hj
            by_cases ejk : k = j
            · subst ejk
              have hA : ARep G w us.toList (cs ++ List.replicate (us.size - cs.length) .undef) := by
                refine ⟨by simp; omega, fun i h1 h2 => ?_⟩
                rw [Array.getElem_toList, List.getElem_append]
                split
                · exact hrep i (by simpa using h1) (by assumption)
                · rw [List.getElem_replicate]; exact .undef _
              have hB := hA.paste hvr (off := off)
              refine ⟨_, e, hnew, ?_, fun i h1 h2 => ?_⟩
              · have hBl := hB.1
                rw [paste_length] at hBl
                simp only [List.getElem_set_self, paste_length, List.size_toArray]
                rw [hBl, List.length_append]; exact Nat.le_add_right _ _
              · simp only [List.getElem_set_self] at h2 ⊢
                rw [paste_length] at h2
                have hpre : ∀ (xs a b : List AV) (o : Nat), o + xs.length ≤ a.length → ∀ i (hi : i < a.length), (paste (a ++ b) o xs)[i]'(by rw [paste_length]; simp; omega) = (paste a o xs)[i]'(by rw [paste_length]; exact hi) := by
                  intro xs
                  induction xs with
                  | nil => intro a b o _ i hi; simp [paste, List.getElem_append_left hi]
                  | cons x xs ih =>
                    intro a b o ho i hi
                    simp only [List.length_cons] at ho
                    simp only [paste]
                    have e1 : (a ++ b).set o x = a.set o x ++ b := List.set_append_left _ _ (by omega)
                    simp only [e1]
                    exact ih (a.set o x) b (o + 1) (by simp; omega) i (by simpa using hi)
                have hyl : y.cells.length = n := by rw [← hvr.1]; exact hvl
                have := hB.2 i (by simpa using h1) (by rw [paste_length]; simp; omega)
                rw [hpre y.cells cs _ off (by omega) i h2] at this
                simpa using this.step hst
            · obtain ⟨us', e', hb', h1, h2⟩ := hH.box j hj
              simp only [List.getElem_set_ne ejk]
              refine ⟨us', e', ?_, h1, fun i j1 j2 => (h2 i j1 j2).step hst⟩
              rw [setRow_other _ _ _ _ (fun e => ejk (hH.μinj k j hk (by rw [hH.nb]; exact hj) e.symm))]
              exact hb'
          · obtain ⟨h0, us', e', hb', r⟩ := hH.tok t ht
            exact ⟨h0, us', e', by rw [setRow_other _ _ _ _ (fun e => hH.μτ k t hk (by rw [hH.nt]; exact ht) e.symm)]; exact hb', r⟩
          · obtain ⟨rec, hb', hr⟩ := hH.loop l hl
            exact ⟨rec, by rw [setRow_other _ _ _ _ (fun e => hH.μln hk (by rw [hH.nl]; exact hl) e.symm)]; exact hb', hr.step hst⟩
      · cases h
    · cases h
  · cases h

/-- A new box. -/
def Ghost.box (G : Ghost) (b : Nat) : Ghost := { G with nb := G.nb + 1, μ := fun k => if k = G.nb then b else G.μ k }

theorem box_new {H : Heap} {us : Array Value} {cs : List AV} (hH : HRep P G w H) (t : TypeId) (hsz : cs.length ≤ us.size) (hr : ∀ i (h1 : i < us.size) (h2 : i < cs.length), Rep G w us[i] cs[i]) :
    Step G w (G.box w.heap.size) (w.alloc (.cells us t)) ∧ HRep P (G.box w.heap.size) (w.alloc (.cells us t)) { H with boxes := H.boxes ++ [cs] } := by
  have hst : Step G w (G.box w.heap.size) (w.alloc (.cells us t)) := by
    refine ⟨rfl, rfl, rfl, by simp, fun _ => Nat.le_refl _, fun b off ho => ?_, by simp [Ghost.box], fun k hk => by simp [Ghost.box]; omega, fun k h1 h2 => ?_, Nat.le_refl _, fun _ _ => Nat.le_refl _,
      fun _ _ _ => ⟨rfl, rfl⟩, fun _ _ => rfl, fun _ h => .inl ⟨h, rfl⟩, Nat.le_refl _, fun _ _ => rfl, fun _ h1 h2 => absurd h2 (by simp [Ghost.box]; omega), fun b hb _ _ _ => ⟨Below.heap_alloc _ _ _ hb, rfl⟩⟩
    · have hlt : b < w.heap.size := by
        rcases Nat.lt_or_ge b w.heap.size with h' | h'
        · exact h'
        · rw [hH.base b h'] at ho; omega
      unfold World.cell?
      rw [Below.heap_alloc _ _ _ hlt]
    · simp only [Ghost.box] at h2 ⊢
      rw [if_pos (by omega)]
      exact Nat.le_refl _
  have hnew : (w.alloc (.cells us t)).heap[w.heap.size]? = some (.cells us t (0, 0)) := by
    show (w.heap.push _)[w.heap.size]? = _
    simp
  have old : ∀ b, b < w.heap.size → (w.alloc (.cells us t)).heap[b]? = w.heap[b]? := fun b hb => Below.heap_alloc _ _ _ hb
  refine ⟨hst, ⟨fun b hb => ?_, by simp [Ghost.box, hH.nb], hH.nt, hH.nl, fun j hj => ?_, fun i j hi hj he => ?_, fun k hk => ?_, fun t' ht => ?_, hH.τinj, fun k t' hk ht => ?_, fun l hl => ?_, hH.linj⟩⟩
  · exact hH.base b (by simp at hb; omega)
  · simp only [List.length_append, List.length_cons, List.length_nil] at hj
    by_cases e : j = H.boxes.length
    · subst e
      refine ⟨us, t, ?_, by simpa using hsz, fun i h1 h2 => ?_⟩
      · simp only [Ghost.box, hH.nb, if_pos]; exact hnew
      · simp only [List.getElem_append_right (Nat.le_refl _), Nat.sub_self, List.getElem_cons_zero] at h2 ⊢
        exact (hr i h1 h2).step hst
    · have hj' : j < H.boxes.length := by omega
      obtain ⟨us', e', hb', h1, h2⟩ := hH.box j hj'
      simp only [List.getElem_append_left hj']
      refine ⟨us', e', ?_, h1, fun i j1 j2 => (h2 i j1 j2).step hst⟩
      simp only [Ghost.box, hH.nb, if_neg e]
      rw [old _ (hH.μlt (by rw [hH.nb]; exact hj'))]
      exact hb'
  · simp only [Ghost.box] at hi hj he
    by_cases e1 : i = G.nb <;> by_cases e2 : j = G.nb
    · omega
    · rw [if_pos e1, if_neg e2] at he
      have := hH.μlt (k := j) (by omega); omega
    · rw [if_neg e1, if_pos e2] at he
      have := hH.μlt (k := i) (by omega); omega
    · rw [if_neg e1, if_neg e2] at he
      exact hH.μinj i j (by omega) (by omega) he
  · simp only [Ghost.box] at hk ⊢
    split
    · exact hH.base _ (Nat.le_refl _)
    · exact hH.μlim k (by omega)
  · obtain ⟨h0, us', e', hb', r⟩ := hH.tok t' ht
    exact ⟨h0, us', e', by show (w.alloc _).heap[G.τ t']? = _; rw [old _ (hH.τlt (by rw [hH.nt]; exact ht))]; exact hb', r⟩
  · show (if k = G.nb then w.heap.size else G.μ k) ≠ G.τ t'
    have hlt := hH.τlt (t := t') ht
    split
    · omega
    · exact hH.μτ k t' (by simp only [Ghost.box] at hk; omega) ht
  · obtain ⟨rec, hb', hr'⟩ := hH.loop l hl
    exact ⟨rec, by show (w.alloc _).heap[G.ln l]? = _; rw [old _ (hH.lnlt (by rw [hH.nl]; exact hl))]; exact hb', hr'.step hst⟩

theorem run_boxA {H : Heap} {x : AV} {v : Value} (hH : HRep P G w H) (hx : Rep G w v x) (h1 : x ≠ .undef) (h2 : ∀ vs, x ≠ .tuple vs) (e : TypeId) :
    (newVar e v).run P w = .ok ⟨w.heap.size, 0, none⟩ (w.alloc (.cells v.cells e)) ∧ Step G w (G.box w.heap.size) (w.alloc (.cells v.cells e)) ∧
      HRep P (G.box w.heap.size) (w.alloc (.cells v.cells e)) (boxA H x).2 ∧ Rep (G.box w.heap.size) (w.alloc (.cells v.cells e)) (.pointer (some ⟨w.heap.size, 0, none⟩)) (boxA H x).1 := by
  have hN : ∃ n, cellsN n x = true := by
    cases x <;> first | exact ⟨1, rfl⟩ | exact absurd rfl h1 | exact absurd rfl (h2 _) | exact ⟨_, by simp [cellsN]; rfl⟩
  obtain ⟨n, hN⟩ := hN
  obtain ⟨hs, hA⟩ := hx.cellsN hN
  obtain ⟨a1, a2⟩ := hA.to
  obtain ⟨r1, r2⟩ := box_new hH e (us := v.cells) (cs := x.cells) (by omega) a2
  refine ⟨rfl, r1, r2, ?_⟩
  have := Rep.ptr (G := G.box w.heap.size) (w := w.alloc (.cells v.cells e)) G.nb 0 (by simp [Ghost.box])
  simp only [Ghost.box, if_pos] at this
  rw [show (boxA H x).1 = .ptr G.nb 0 by simp [boxA, hH.nb]]
  exact this

end Go.Aa
