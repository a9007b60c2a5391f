/-
  A BLOCK OF ONE's OWN beside what the ghost knows: laid, turned, and no matter for the rest.
-/
import Derived.Test.YtmlipdlbeddijaaDoorAaL
import Derived.Laws.Pointers
import Derived.Test.YtmlipdlbeddijaaDoorAa5
set_option linter.unusedVariables false
set_option linter.unusedSimpArgs false
namespace Go.Aa
open Go.RowKit
variable {P : Program} {G G' : Ghost} {w w2 w3 : World} {H H' : Heap}

/-- 'b' is none of the ghost's blocks. -/
def Free (G : Ghost) (b : Nat) : Prop := G.lim b = 0 ∧ (∀ k, k < G.nb → b ≠ G.μ k) ∧ (∀ t, t < G.nt → b ≠ G.τ t) ∧ (∀ k, k < G.nl → b ≠ G.ln k)

theorem free_new (hH : HRep P G w H) : Free G w.heap.size :=
  ⟨hH.base _ (Nat.le_refl _), fun k hk e => by have := hH.μlt hk; omega, fun t ht e => by
    obtain ⟨_, us, u, h, _⟩ := hH.tok t (by rw [← hH.nt]; exact ht)
    rw [← e] at h
    exact absurd (Array.getElem?_eq_some_iff.1 h).1 (by omega),
   fun l hl e => by
    obtain ⟨rec, h, _⟩ := hH.loop l (by rw [← hH.nl]; exact hl)
    rw [← e] at h
    exact absurd (Array.getElem?_eq_some_iff.1 h).1 (by omega)⟩

/-- Another block is laid. -/
theorem lay_step (hH : HRep P G w H) (o : Obj) : Step G w G (w.alloc o) ∧ HRep P G (w.alloc o) H := by
  have hheap : ∀ b, b < w.heap.size → (w.alloc o).heap[b]? = w.heap[b]? := fun b hb => Below.heap_alloc w o b hb
  have hsz : (w.alloc o).heap.size = w.heap.size + 1 := by simp
  have hcell : ∀ b off, off < G.lim b → (w.alloc o).cell? ⟨b, off, none⟩ = w.cell? ⟨b, off, none⟩ := fun b off h => by
    have hb : b < w.heap.size := by
      rcases Nat.lt_or_ge b w.heap.size with h1 | h1
      · exact h1
      · rw [hH.base b h1] at h; omega
    unfold World.cell?
    rw [hheap b hb]
  have hst : Step G w G (w.alloc o) :=
    ⟨rfl, rfl, rfl, by omega, fun _ => Nat.le_refl _, hcell, Nat.le_refl _, fun _ _ => rfl, fun _ h1 h2 => absurd h2 (by omega), Nat.le_refl _, fun _ _ => Nat.le_refl _,
     fun _ _ _ => ⟨rfl, rfl⟩, fun _ _ => rfl, fun _ h => .inl ⟨h, rfl⟩, Nat.le_refl _, fun _ _ => rfl, fun _ h1 h2 => absurd h2 (by omega), fun b hb _ _ _ => ⟨hheap b hb, rfl⟩⟩
  refine ⟨hst, fun b hb => hH.base b (by omega), hH.nb, hH.nt, hH.nl, fun k hk => ?_, hH.μinj, hH.μlim, fun t ht => ?_, hH.τinj, hH.μτ, fun l hl => ?_, hH.linj⟩
  · obtain ⟨us, e, h, h1, h2⟩ := hH.box k hk
    exact ⟨us, e, by rw [hheap _ (Array.getElem?_eq_some_iff.1 h).1]; exact h, h1, fun i i1 i2 => (h2 i i1 i2).step hst⟩
  · obtain ⟨h0, us, e, h, h1⟩ := hH.tok t ht
    exact ⟨h0, us, e, by rw [hheap _ (Array.getElem?_eq_some_iff.1 h).1]; exact h, h1⟩
  · obtain ⟨rec, h, h1⟩ := hH.loop l hl
    exact ⟨rec, by rw [hheap _ (Array.getElem?_eq_some_iff.1 h).1]; exact h, h1.keep hst.keep⟩

/-- What was free, and is there, is free behind a step too. -/
theorem free_step {b : Nat} (hf : Free G b) (hb : b < w.heap.size) (hst : Step G w G' w2) (hlt : ∀ t, t < G.nt → G.τ t < w.heap.size) : Free G' b ∧ w2.heap[b]? = w.heap[b]? := by
  obtain ⟨h0, h1, h2, h3⟩ := hf
  obtain ⟨f1, f2⟩ := hst.frame b hb h1 h2 h3
  refine ⟨⟨by rw [f2]; exact h0, fun k hk e => ?_, fun t ht e => ?_, fun l hl e => ?_⟩, f1⟩
  · rcases Nat.lt_or_ge k G.nb with hk' | hk'
    · rw [hst.μ k hk'] at e; exact h1 k hk' e
    · have := hst.μnew k hk' hk; omega
  · rcases hst.τnew t ht with ⟨ht', e'⟩ | h
    · rw [e'] at e; exact h2 t ht' e
    · omega
  · rcases Nat.lt_or_ge l G.nl with hl' | hl'
    · rw [hst.ln l hl'] at e; exact h3 l hl' e
    · have := hst.lnew l hl' hl; omega

/-- A free block that is newer than where we began is turned. -/
theorem poke {b : Nat} (hf : Free G' b) (hbase : Base G w) (hb : w.heap.size ≤ b) (hst : Step G w G' w2) (hH2 : HRep P G' w2 H') (hother : ∀ k, k ≠ b → w3.heap[k]? = w2.heap[k]?) (hsz : w3.heap.size = w2.heap.size)
    (hos : w3.os = w2.os) (htape : w3.tape = w2.tape) (hout : w3.output = w2.output) : Step G w G' w3 ∧ HRep P G' w3 H' := by
  obtain ⟨h0, h1, h2, h3⟩ := hf
  have hkeep : Keep G' w2 G' w3 :=
    ⟨fun _ => Nat.le_refl _, fun c off h => by
      have : c ≠ b := fun e => by subst e; omega
      unfold World.cell?
      rw [hother c this], Nat.le_refl _, fun _ _ => rfl, Nat.le_refl _, fun _ _ => Nat.le_refl _, fun _ _ _ => ⟨rfl, rfl⟩, fun _ _ => rfl, Nat.le_refl _, fun _ _ => rfl⟩
  refine ⟨⟨hos.trans hst.os, htape.trans hst.tape, hout.trans hst.output, by rw [hsz]; exact hst.size, hst.lim, fun c off h => ?_, hst.nb, hst.μ, hst.μnew, hst.nt, hst.ext, hst.τ, hst.tes, hst.τnew, hst.nl, hst.ln, hst.lnew, fun c hc a1 a2 a3 => ?_⟩,
    fun c hc => hH2.base c (by omega), hH2.nb, hH2.nt, hH2.nl, fun k hk => ?_, hH2.μinj, hH2.μlim, fun t ht => ?_, hH2.τinj, hH2.μτ, fun l hl => ?_, hH2.linj⟩
  · rw [← hst.cell c off h]
    exact hkeep.cell c off (Nat.lt_of_lt_of_le h (hst.lim c))
  · obtain ⟨e1, e2⟩ := hst.frame c hc a1 a2 a3
    exact ⟨by rw [hother c (by omega)]; exact e1, e2⟩
  · obtain ⟨us, e, h, g1, g2⟩ := hH2.box k hk
    exact ⟨us, e, by rw [hother _ (Ne.symm (h1 k (by rw [hH2.nb]; exact hk)))]; exact h, g1, fun i i1 i2 => (g2 i i1 i2).keep hkeep⟩
  · obtain ⟨g0, us, e, h, g1⟩ := hH2.tok t ht
    exact ⟨g0, us, e, by rw [hother _ (Ne.symm (h2 t (by rw [hH2.nt]; exact ht)))]; exact h, g1⟩
  · obtain ⟨rec, h, g1⟩ := hH2.loop l hl
    exact ⟨rec, by rw [hother _ (Ne.symm (h3 l (by rw [hH2.nl]; exact hl)))]; exact h, g1.keep hkeep⟩
theorem tok_lt (hH : HRep P G w H) : ∀ t, t < G.nt → G.τ t < w.heap.size := fun t ht => by
  obtain ⟨_, us, u, h, _⟩ := hH.tok t (by rw [← hH.nt]; exact ht)
  exact (Array.getElem?_eq_some_iff.1 h).1
end Go.Aa
