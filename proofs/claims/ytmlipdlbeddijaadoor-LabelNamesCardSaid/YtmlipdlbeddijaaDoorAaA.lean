/-
  append AND SLICE LITERALS.
-/
import Derived.Test.YtmlipdlbeddijaaDoorAa9
set_option linter.unusedVariables false
set_option linter.unusedSimpArgs false
namespace Go.Aa
open Go.RowKit

variable {P : Program} {G G' : Ghost} {w w' : World}

/-- Rows' cells, one behind the other. -/
def flatV (us : Nat → Nat → Value) (es n : Nat) : List Value := (List.range (n * es)).map fun q => us (q / es) (q % es)
theorem flatV_length (us : Nat → Nat → Value) (es n : Nat) : (flatV us es n).length = n * es := by simp [flatV]
theorem flat_div {i j es : Nat} (hj : j < es) : (i * es + j) / es = i ∧ (i * es + j) % es = j := by
  have h0 : 0 < es := by omega
  constructor
  · rw [Nat.mul_comm, Nat.mul_add_div h0, Nat.div_eq_of_lt hj]; rfl
  · rw [Nat.mul_comm, Nat.mul_add_mod, Nat.mod_eq_of_lt hj]
theorem flatV_get {us : Nat → Nat → Value} {es n i j : Nat} (hi : i < n) (hj : j < es) : (flatV us es n)[i * es + j]? = some (us i j) := by
  have hlt : i * es + j < n * es := by have := row_le (es := es) hi; omega
  obtain ⟨h1, h2⟩ := flat_div (i := i) hj
  simp [flatV, hlt, h1, h2]
theorem flatV_at {us : Nat → Nat → Value} {es n q : Nat} {v : Value} (h : (flatV us es n)[q]? = some v) (h0 : 0 < es) : q / es < n ∧ q % es < es ∧ v = us (q / es) (q % es) ∧ q = q / es * es + q % es := by
  have hq : q < n * es := by
    have := (List.getElem?_eq_some_iff.1 h).1
    rwa [flatV_length] at this
  simp only [flatV, List.getElem?_map, List.getElem?_range hq, Option.map_some, Option.some.injEq] at h
  exact ⟨by rw [Nat.div_lt_iff_lt_mul h0]; exact hq, Nat.mod_lt _ h0, h.symm, by rw [Nat.mul_comm]; exact (Nat.div_add_mod q es).symm⟩

theorem data0_data {x : AV} (h : data0 x = true) {v : Value} (hr : Rep G w v x) : x.Data := by
  cases hr <;> simp only [data0, Bool.false_eq_true] at h <;> first | (constructor; done) | skip
  case sl0 a c k hc ht => exact .sl _ _ ht (fun x hx => by cases hx)
  case sl a c k l es us hl hc hcm hs hes he0 hd hlim hcell hrep hfull hown => exact .sl _ _ (fun t e => by subst e; simp at h) hd
  case ref a cs us hs hd hlim hcell hrep => exact .ref _ hd

theorem data0_cell {x : AV} (h : data0 x = true) : cellOk x = true := by
  cases x <;> first | rfl | (simp [data0] at h; done)

/-- A row of the call's own: its elements' cells in a block from its head on. -/
theorem Rep.row {b N c es : Nat} {k : SK} {l : List AV} {us : Nat → Nat → Value} {cells : Array Value} {e : TypeId} (hl : l ≠ []) (hN : l.length = N) (hc : N ≤ c) (hcm : c ≤ 9223372036854775807)
    (hes : ∀ i (hi : i < l.length), (l[i]).cells.length = es) (he0 : 0 < es) (hd : ∀ x ∈ l, ∀ y ∈ x.cells, AV.Data y) (hlim : N * es ≤ G.lim b) (hb : ∃ fr, w.heap[b]? = some (.cells cells e fr))
    (hcells : ∀ i, i < N → ∀ j, j < es → cells[i * es + j]? = some (us i j)) (hrep : ∀ i (hi : i < l.length) j (hj : j < (l[i]).cells.length), Rep G w (us i j) ((l[i]).cells[j]))
    (hfull : k = .full → c = l.length) (hown : ∀ t, k = .own t → t < G.nt ∧ es = G.tes t ∧ l.length ≤ G.ext t ∧ (l.length = G.ext t → b = G.τ t ∧ c = G.cap t)) : Rep G w (.slice (some ⟨b, 0, none⟩) N c) (.sl k l) := by
  subst hN
  obtain ⟨fr, hb⟩ := hb
  refine .sl _ c k l es us hl hc hcm rfl hes he0 hd (by simpa using hlim) (fun i hi j hj => ?_) hrep hfull (fun t ht => ?_)
  · rw [add_off rfl]
    simp only [World.cell?, hb, Option.isSome_none, Bool.false_eq_true, if_false, Nat.zero_add]
    exact hcells i hi j hj
  · obtain ⟨h1, h2, h3, h4⟩ := hown t ht
    exact ⟨h1, h2, h3, fun he => ⟨by rw [(h4 he).1], (h4 he).2⟩⟩

/-- A token's row, anew. -/
def Ghost.tokG (G : Ghost) (n t b N c es : Nat) : Ghost :=
  { G with nt := n, τ := fun x => if x = t then b else G.τ x, ext := fun x => if x = t then N else G.ext x, cap := fun x => if x = t then c else G.cap x, tes := fun x => if x = t then es else G.tes x, lim := fun x => if x = b then N * es else G.lim x }

theorem HRep.tokN {H : Heap} (hH : HRep P G w H) {n t b N c es : Nat} {toks' : List Nat} {us : Array Value} {e : TypeId} (hst : Step G w (G.tokG n t b N c es) w') (hn : n = toks'.length) (ht : t < n) (hnt : G.nt ≤ n)
    (hoth : ∀ x, x < n → x ≠ t → x < G.nt ∧ toks'[x]? = H.toks[x]?) (htok : toks'[t]? = some N) (hold : ∀ x, x < w.heap.size → x ≠ b → w'.heap[x]? = w.heap[x]?) (hbase : ∀ x, w'.heap.size ≤ x → x ≠ b) (hsz : w.heap.size ≤ w'.heap.size)
    (hblk : w'.heap[b]? = some (.cells us e (0, 0))) (h0 : 0 < es) (hus : us.size = c * es) (hNc : N ≤ c) (hc : c ≤ 9223372036854775807)
    (hbμ : ∀ k, k < G.nb → G.μ k ≠ b) (hbτ : ∀ x, x < G.nt → x ≠ t → G.τ x ≠ b) (hbl : ∀ l, l < G.nl → G.ln l ≠ b) : HRep P (G.tokG n t b N c es) w' { H with toks := toks' } := by
  refine ⟨fun x hx => ?_, hH.nb, hn, hH.nl, fun k hk => ?_, hH.μinj, fun k hk => ?_, fun x hx => ?_, fun i j hi hj he => ?_, fun k x hk hx => ?_, fun l hl => ?_, hH.linj⟩
  · simp only [Ghost.tokG]
    rw [if_neg (hbase x hx)]
    exact hH.base x (Nat.le_trans hsz hx)
  · obtain ⟨us', e', hb', h1, h2⟩ := hH.box k hk
    refine ⟨us', e', ?_, h1, fun i j1 j2 => (h2 i j1 j2).step hst⟩
    show w'.heap[G.μ k]? = _
    rw [hold _ (hH.μlt (by rw [hH.nb]; exact hk)) (hbμ k (by rw [hH.nb]; exact hk))]; exact hb'
  · show (if G.μ k = b then N * es else G.lim (G.μ k)) = 0
    rw [if_neg (hbμ k hk)]; exact hH.μlim k hk
  · by_cases e' : x = t
    · subst e'
      simp only [Ghost.tokG, if_pos]
      exact ⟨(List.getElem?_eq_some_iff.1 htok).2, us, e, hblk, h0, hus, by first | trivial | rfl, hNc, hc⟩
    · obtain ⟨hx1, hx2⟩ := hoth x (by rw [hn]; exact hx) e'
      have hx3 : x < H.toks.length := by rw [← hH.nt]; exact hx1
      obtain ⟨h1, us', e'', hb', r1, r2, r3, r4, r5⟩ := hH.tok x hx3
      have hne := hbτ x hx1 e'
      simp only [Ghost.tokG, if_neg e', if_neg hne]
      have hg : toks'[x] = H.toks[x] := by
        rw [List.getElem?_eq_getElem hx3] at hx2
        exact (List.getElem?_eq_some_iff.1 hx2).2
      exact ⟨by rw [hg]; exact h1, us', e'', by rw [hold _ (hH.τlt hx1) hne]; exact hb', r1, r2, r3, r4, r5⟩
  · simp only [Ghost.tokG] at hi hj he
    by_cases e1 : i = t <;> by_cases e2 : j = t
    · omega
    · rw [if_pos e1, if_neg e2] at he
      exact absurd he.symm (hbτ j (hoth j hj e2).1 e2)
    · rw [if_neg e1, if_pos e2] at he
      exact absurd he (hbτ i (hoth i hi e1).1 e1)
    · rw [if_neg e1, if_neg e2] at he
      exact hH.τinj i j (hoth i hi e1).1 (hoth j hj e2).1 he
  · show G.μ k ≠ (if x = t then b else G.τ x)
    split
    · exact hbμ k hk
    · rename_i e1; exact hH.μτ k x hk (hoth x hx e1).1
  · obtain ⟨rec, hb', hr⟩ := hH.loop l hl
    have hl' : l < G.nl := by rw [hH.nl]; exact hl
    refine ⟨rec, ?_, hr.step hst⟩
    show w'.heap[G.ln l]? = _
    rw [hold _ (hH.lnlt hl') (hbl l hl')]; exact hb'

theorem Step.tokGrow {H : Heap} (hH : HRep P G w H) {n t N c es : Nat} {o : Obj} (hnt : G.nt ≤ n) (hoth : ∀ x, x < n → x ≠ t → x < G.nt) (hold : t < G.nt → G.ext t < N ∧ es = G.tes t) :
    Step G w (G.tokG n t w.heap.size N c es) (w.drew.alloc o) := by
  refine ⟨rfl, rfl, rfl, by simp, fun b => ?_, fun b off ho => ?_, Nat.le_refl _, fun _ _ => rfl, fun _ h1 h2 => absurd h2 (by simp only [Ghost.tokG]; omega), hnt, fun x hx => ?_, fun x hx he => ?_, fun x hx => ?_, fun x hx => ?_, Nat.le_refl _, fun _ _ => rfl,
    fun _ h1 h2 => absurd h2 (by simp only [Ghost.tokG]; omega), fun b hb _ _ _ => ⟨?_, ?_⟩⟩
  · simp only [Ghost.tokG]
    split
    · rename_i e; rw [e, hH.base _ (Nat.le_refl _)]; exact Nat.zero_le _
    · exact Nat.le_refl _
  · have hlt : b < w.heap.size := by
      rcases Nat.lt_or_ge b w.heap.size with h' | h'
      · exact h'
      · rw [hH.base b h'] at ho; omega
    unfold World.cell?
    rw [Below.heap_alloc _ _ _ (by simpa using hlt)]
    rfl
  · simp only [Ghost.tokG]
    split
    · rename_i e; subst e; have := (hold hx).1; omega
    · exact Nat.le_refl _
  · simp only [Ghost.tokG] at he ⊢
    split at he
    · rename_i e; subst e; have := (hold hx).1; omega
    · rename_i e; rw [if_neg e, if_neg e]; exact ⟨rfl, rfl⟩
  · simp only [Ghost.tokG]
    split
    · rename_i e; subst e; exact (hold hx).2
    · rfl
  · simp only [Ghost.tokG] at hx ⊢
    by_cases e : x = t
    · rw [if_pos e]; exact .inr (Nat.le_refl _)
    · rw [if_neg e]; exact .inl ⟨hoth x hx e, rfl⟩
  · exact Below.heap_alloc w.drew o b (by simpa using hb)
  · simp only [Ghost.tokG]; rw [if_neg (by omega)]

theorem Step.tokRoom {H : Heap} (hH : HRep P G w H) {t N c es : Nat} {cs : Array Value} (ht : t < G.nt) (hN : G.ext t < N) (hes : es = G.tes t) (hlim : G.lim (G.τ t) = G.ext t * es)
    (hcell : ∀ j, j < G.ext t * es → (w.setRow (G.τ t) cs).cell? ⟨G.τ t, j, none⟩ = w.cell? ⟨G.τ t, j, none⟩) :
    Step G w (G.tokG G.nt t (G.τ t) N c es) (w.setRow (G.τ t) cs) := by
  refine ⟨rfl, rfl, rfl, by simp, fun b => ?_, fun b off ho => ?_, Nat.le_refl _, fun _ _ => rfl, fun _ h1 h2 => absurd h2 (by simp only [Ghost.tokG]; omega), Nat.le_refl _, fun x hx => ?_, fun x hx he => ?_, fun x hx => ?_, fun x hx => ?_, Nat.le_refl _, fun _ _ => rfl,
    fun _ h1 h2 => absurd h2 (by simp only [Ghost.tokG]; omega), fun b hb _ h2 _ => ⟨?_, ?_⟩⟩
  · simp only [Ghost.tokG]
    split
    · rename_i e; rw [e, hlim]; exact Nat.mul_le_mul_right _ (by omega)
    · exact Nat.le_refl _
  · by_cases e : b = G.τ t
    · subst e
      rw [hlim] at ho
      exact hcell off ho
    · exact cell_setRow_other _ _ _ _ e
  · simp only [Ghost.tokG]
    split
    · rename_i e; subst e; omega
    · exact Nat.le_refl _
  · simp only [Ghost.tokG] at he ⊢
    split at he
    · rename_i e; subst e; omega
    · rename_i e; rw [if_neg e, if_neg e]; exact ⟨rfl, rfl⟩
  · simp only [Ghost.tokG]
    split
    · rename_i e; subst e; exact hes
    · rfl
  · simp only [Ghost.tokG] at hx ⊢
    by_cases e : x = t
    · rw [if_pos e, e]; exact .inl ⟨ht, rfl⟩
    · rw [if_neg e]; exact .inl ⟨hx, rfl⟩
  · exact setRow_other _ _ _ _ (h2 t ht)
  · simp only [Ghost.tokG]; rw [if_neg (h2 t ht)]

end Go.Aa
