/-
  append AND SLICE LITERALS: the run.
-/
import Derived.Test.YtmlipdlbeddijaaDoorAaA
import Derived.Deep.Upon
set_option linter.unusedVariables false
set_option linter.unusedSimpArgs false
namespace Go.Aa
open Go.RowKit

variable {P : Program} {G G' : Ghost} {w w' : World}

theorem lenOk_get {es : Nat} {l : List AV} (h : lenOk es l = true) {i : Nat} (hi : i < l.length) : cellsN es l[i] = true := List.all_eq_true.1 h _ (List.getElem_mem hi)
theorem dataOk_get {l : List AV} (h : dataOk l = true) {i : Nat} (hi : i < l.length) {j : Nat} (hj : j < (l[i]).cells.length) : data0 (l[i]).cells[j] = true :=
  List.all_eq_true.1 (List.all_eq_true.1 h _ (List.getElem_mem hi)) _ (List.getElem_mem hj)

/-- Two rows, one behind the other. -/
def joinU (us um : Nat → Nat → Value) (n : Nat) : Nat → Nat → Value := fun i j => if i < n then us i j else um (i - n) j
theorem join_get {us um : Nat → Nat → Value} {es n m i j : Nat} (hi : i < n + m) (hj : j < es) : (flatV us es n ++ flatV um es m)[i * es + j]? = some (joinU us um n i j) := by
  unfold joinU
  by_cases h : i < n
  · rw [if_pos h, List.getElem?_append_left (by rw [flatV_length]; have := row_le (es := es) h; omega)]
    exact flatV_get h hj
  · rw [if_neg h, List.getElem?_append_right (by rw [flatV_length]; have := Nat.mul_le_mul_right es (show n ≤ i by omega); omega), flatV_length]
    have e : i * es + j - n * es = (i - n) * es + j := by
      rw [Nat.sub_mul]
      have := Nat.mul_le_mul_right es (show n ≤ i by omega)
      omega
    rw [e]
    exact flatV_get (by omega) hj

/-- The cells that a slice's value holds, in the world as it is. -/
theorem Rep.cellsOf {u : Value} {k : SK} {l : List AV} {es : Nat} (hx : Rep G w u (.sl k l)) (hl : l ≠ []) (hok : lenOk es l = true) :
    ∃ (a : Addr) (c : Nat) (us : Nat → Nat → Value), u = .slice (some a) l.length c ∧ a.spot = none ∧ l.length ≤ c ∧ c ≤ 9223372036854775807 ∧ 0 < es ∧ a.off + l.length * es ≤ G.lim a.block ∧ (∀ i (hi : i < l.length), (l[i]).cells.length = es) ∧
      (∀ x ∈ l, ∀ y ∈ x.cells, AV.Data y) ∧ (∀ i, i < l.length → ∀ j, j < es → w.cell? (a.add (i * es + j)) = some (us i j)) ∧ (∀ i (hi : i < l.length) j (hj : j < (l[i]).cells.length), Rep G w (us i j) ((l[i]).cells[j])) ∧
      (k = .full → c = l.length) ∧ (∀ t, k = .own t → t < G.nt ∧ es = G.tes t ∧ l.length ≤ G.ext t ∧ (l.length = G.ext t → a = ⟨G.τ t, 0, none⟩ ∧ c = G.cap t)) := by
  cases hx with
  | sl0 => exact absurd rfl hl
  | sl a c k l es' us hl hc hcm hs hes he0 hd hlim hcell hrep hfull hown =>
    have h0 : 0 < l.length := List.length_pos_iff.2 hl
    have : es' = es := by rw [← hes 0 h0]; exact cells_of_N (lenOk_get hok h0)
    subst this
    exact ⟨a, c, us, rfl, hs, hc, hcm, he0, hlim, hes, hd, hcell, hrep, hfull, hown⟩

theorem grownCap_ge (w : World) (need old : Nat) (e : TypeId) : need ≤ grownCap w need old e := by
  show need ≤ need + _ % _
  exact Nat.le_add_right _ _
theorem grownCap_lt (w : World) {need old : Nat} (e : TypeId) (h : need < 2 ^ 63) : grownCap w need old e ≤ 9223372036854775807 := by
  show need + _ % (2 ^ 63 - need) ≤ _
  have := Nat.mod_lt (w.tape w.drawn (.appendCap need old e)) (show 0 < 2 ^ 63 - need by omega)
  omega

section
variable {H : Heap} {t u e e2 ty : TypeId} {i : TypeInfo} {z : Value}

/-- The new row's cells, and what they read as. -/
theorem joined_data {l m : List AV} {es : Nat} (hes : ∀ i (hi : i < l.length), (l[i]).cells.length = es) (hem : lenOk es m = true) (hd : ∀ x ∈ l, ∀ y ∈ x.cells, AV.Data y) (hdm : ∀ x ∈ m, ∀ y ∈ x.cells, AV.Data y) :
    (∀ i (hi : i < (l ++ m).length), ((l ++ m)[i]).cells.length = es) ∧ (∀ x ∈ l ++ m, ∀ y ∈ x.cells, AV.Data y) := by
  refine ⟨fun i hi => ?_, fun x hx => ?_⟩
  · rw [List.getElem_append]
    split
    · exact hes i _
    · exact cells_of_N (lenOk_get hem _)
  · rcases List.mem_append.1 hx with h | h
    · exact hd x h
    · exact hdm x h

theorem joined_rep {l m : List AV} {us um : Nat → Nat → Value} (hr : ∀ i (hi : i < l.length) j (hj : j < (l[i]).cells.length), Rep G w (us i j) ((l[i]).cells[j]))
    (hm : ∀ i (hi : i < m.length) j (hj : j < (m[i]).cells.length), Rep G w (um i j) ((m[i]).cells[j])) :
    ∀ i (hi : i < (l ++ m).length) j (hj : j < ((l ++ m)[i]).cells.length), Rep G w (joinU us um l.length i j) (((l ++ m)[i]).cells[j]) := by
  intro i hi j hj
  unfold joinU
  by_cases h : i < l.length
  · rw [if_pos h]
    have e : (l ++ m)[i] = l[i] := List.getElem_append_left h
    have := hr i h j (by rw [e] at hj; exact hj)
    simpa [e] using this
  · rw [if_neg h]
    have hi' : i - l.length < m.length := by simp at hi; omega
    have e : (l ++ m)[i] = m[i - l.length] := List.getElem_append_right (by omega)
    have := hm (i - l.length) hi' j (by rw [e] at hj; exact hj)
    simpa [e] using this

theorem run_appendA {x y z' : AV} {H' : Heap} {ux uy : Value} (hH : HRep P G w H) (hx : Rep G w ux x) (hy : Rep G w uy y) (h : appendA i.size i.bytes H x y = some (z', H'))
    (ht : P.underlying t = some (.slice e)) (hu : P.underlying u = some (.slice e2)) (hi : P.info? e = some i) (hz : i.zero = some z) (hzs : z.cells.size = i.size) (h0 : 0 < i.size) (h0b : 0 < i.bytes) :
    ∃ r w' G', (Builtin.append_ #[t, u] ty #[ux, uy]).run P w = .ok r w' ∧ Step G w G' w' ∧ HRep P G' w' H' ∧ Rep G' w' r z' := by
  unfold appendA at h
  split at h
  · rename_i k l k' m
    cases m with
    | nil =>
      simp only [Option.some.injEq, Prod.mk.injEq] at h
      obtain ⟨rfl, rfl⟩ := h
      have hsrc : Src P i.size u uy 0 [] w := by
        cases hy with
        | sl0 a c =>
          cases a with
          | none => exact Src.ofNil w hu c
          | some a => exact Src.ofSlice w hu a 0 c [] (by simp) (by simp) (by simp)
        | sl _ _ _ _ _ _ hl => exact absurd rfl hl
      have hle : ∃ a n c, ux = .slice a n c ∧ n ≤ c := by
        cases hx with
        | sl0 a c => exact ⟨a, 0, c, rfl, Nat.zero_le _⟩
        | sl a c _ _ _ _ _ hc => exact ⟨some a, _, c, rfl, hc⟩
      obtain ⟨a, n, c, rfl, hnc⟩ := hle
      exact ⟨_, w, G, run_append_nothing w t u ty e i ht hi a n c hnc _ hsrc, .refl _ _, hH, hx⟩
    | cons m0 m' =>
      simp only at h
      split at h
      · rename_i hcond
        obtain ⟨hbytes, hokl, hokm, hdm⟩ := hcond
        generalize hm : m0 :: m' = m at *
        have hmne : m ≠ [] := by rw [← hm]; simp
        obtain ⟨am, cm, um, rfl, hsm, hcm, hcmm, he0, hlimm, hesm, hdatam, hcellm, hrepm, _, _⟩ := hy.cellsOf hmne hokm
        have hmpos : 0 < m.length := List.length_pos_iff.2 hmne
        have honem : ∀ v ∈ flatV um i.size m.length, v.oneCell' = true := by
          intro v hv
          obtain ⟨q, hq⟩ := List.mem_iff_getElem?.1 hv
          obtain ⟨h1, h2, rfl, _⟩ := flatV_at hq he0
          have hj : q % i.size < (m[q / i.size]).cells.length := by rw [hesm _ h1]; exact h2
          exact (hrepm _ h1 _ hj).one (data0_cell (dataOk_get hdm h1 hj))
        have hsrc : Src P i.size u (.slice (some am) m.length cm) m.length (flatV um i.size m.length) w :=
          Src.ofSlice w hu am m.length cm _ (flatV_length _ _ _) (fun q v hq => by
            obtain ⟨h1, h2, rfl, h3⟩ := flatV_at hq he0
            have := hcellm _ h1 _ h2
            rwa [← h3] at this) honem
        have hnb : 0 < (l.length + m.length) := by omega
        have hfit : ∀ c, c < l.length + m.length → Builtin.nextslicecap (l.length + m.length) c * i.bytes ≤ 281474976710656 := fun c hc => growslice_fits hc hbytes
        -- the way in which a new row is made
        have grow : ∀ (base : Option Addr) (c : Nat) (us : Nat → Nat → Value) (n tt : Nat) (toks' : List Nat), c < l.length + m.length → i.bytes ≠ 0 → ux = .slice base l.length c →
            (Builtin.firstCells i.size l.length (.slice base l.length c)).run P w.drew = .ok (flatV us i.size l.length).toArray w.drew →
            (∀ i' (hi : i' < l.length), (l[i']).cells.length = i.size) → (∀ x ∈ l, ∀ y ∈ x.cells, AV.Data y) →
            (∀ i' (hi : i' < l.length) j (hj : j < (l[i']).cells.length), Rep G w (us i' j) ((l[i']).cells[j])) →
            n = toks'.length → tt < n → G.nt ≤ n → (∀ x, x < n → x ≠ tt → x < G.nt ∧ toks'[x]? = H.toks[x]?) → toks'[tt]? = some (l.length + m.length) → (tt < G.nt → G.ext tt < l.length + m.length ∧ i.size = G.tes tt) →
            ∃ r w' G', (Builtin.append_ #[t, u] ty #[ux, .slice (some am) m.length cm]).run P w = .ok r w' ∧ Step G w G' w' ∧ HRep P G' w' { H with toks := toks' } ∧ Rep G' w' r (.sl (.own tt) (l ++ m)) := by
          intro base c us n tt toks' hc hb0 hux hfirst hesl hdl hrl hn htt hnt hoth htok hold
          subst hux
          have h63 : l.length + m.length < 2 ^ 63 := by
            have : (l.length + m.length) * 1 ≤ (l.length + m.length) * i.bytes := Nat.mul_le_mul_left _ (by omega)
            omega
          have hrun := run_append_grow_src (P := P) w t u ty e i z ht hi hz base l.length c (flatV us i.size l.length) hfirst _ m.length _ hsrc hc (by omega) (hfit c hc)
          generalize hcap : grownCap w (l.length + m.length) c e = cap at hrun
          have hcap1 : l.length + m.length ≤ cap := by rw [← hcap]; exact grownCap_ge _ _ _ _
          have hcap2 : cap ≤ 9223372036854775807 := by rw [← hcap]; exact grownCap_lt _ _ h63
          generalize hblk : ((flatV us i.size l.length ++ flatV um i.size m.length).toArray ++ Builtin.zeroCells z.cells (cap - (l.length + m.length))) = blk at hrun
          have hst := Step.tokGrow (n := n) (t := tt) (N := l.length + m.length) (c := cap) (es := i.size) (o := .cells blk e) hH hnt (fun x h1 h2 => (hoth x h1 h2).1) hold
          have hnew : (w.drew.alloc (.cells blk e)).heap[w.heap.size]? = some (.cells blk e (0, 0)) := by
            show (w.heap.push _)[w.heap.size]? = _
            simp
          have hblks : blk.size = cap * i.size := by
            rw [← hblk]
            simp only [Array.size_append, List.size_toArray, List.length_append, flatV_length, size_zeroCells, hzs]
            rw [← Nat.add_mul, ← Nat.add_mul]
            congr 1; omega
          have hHN := HRep.tokN (us := blk) (e := e) hH hst hn htt hnt hoth htok (fun x h1 h2 => Below.heap_alloc w.drew _ x h1) (fun x hx => by simp at hx; omega) (by simp) hnew h0 hblks hcap1 hcap2
            (fun k hk => by have := hH.μlt hk; omega) (fun x hx _ => by have := hH.τlt hx; omega) (fun l hl => by have := hH.lnlt hl; omega)
          refine ⟨_, _, _, hrun, hst, hHN, ?_⟩
          obtain ⟨j1, j2⟩ := joined_data hesl hokm hdl hdatam
          refine Rep.row (us := joinU us um l.length) (es := i.size) (cells := blk) (e := e) (by simp [hmne]) (by simp) hcap1 hcap2 j1 h0 j2 ?_ ⟨_, hnew⟩ (fun q hq j hj => ?_)
            (joined_rep (fun a b c d => (hrl a b c d).step hst) (fun a b c d => (hrepm a b c d).step hst)) (fun e => by cases e) (fun t' e => ?_)
          · simp [Ghost.tokG]
          · rw [← hblk]
            have hlt : q * i.size + j < (flatV us i.size l.length ++ flatV um i.size m.length).length := by
              have := row_le (es := i.size) hq
              simp only [List.length_append, flatV_length]
              rw [← Nat.add_mul]; omega
            rw [Array.getElem?_append_left (by simpa using hlt)]
            rw [List.getElem?_toArray]
            exact join_get hq hj
          · cases e
            refine ⟨htt, by simp [Ghost.tokG], by simp [Ghost.tokG], fun _ => ⟨by simp [Ghost.tokG], by simp [Ghost.tokG]⟩⟩
        have hb0 : i.bytes ≠ 0 := by omega
        cases k with
        | sh => simp at h
        | full =>
          simp only [Option.some.injEq, Prod.mk.injEq] at h
          obtain ⟨rfl, rfl⟩ := h
          have hgen : ∀ (base : Option Addr) (us : Nat → Nat → Value), ux = .slice base l.length l.length → (Builtin.firstCells i.size l.length (.slice base l.length l.length)).run P w.drew = .ok (flatV us i.size l.length).toArray w.drew →
              (∀ i' (hi : i' < l.length), (l[i']).cells.length = i.size) → (∀ x ∈ l, ∀ y ∈ x.cells, AV.Data y) → (∀ i' (hi : i' < l.length) j (hj : j < (l[i']).cells.length), Rep G w (us i' j) ((l[i']).cells[j])) → _ :=
            fun base us h1 h2 h3 h4 h5 => grow base l.length us (H.toks.length + 1) H.toks.length (H.toks ++ [l.length + m.length]) (by omega) hb0 h1 h2 h3 h4 h5 (by simp) (by omega) (by rw [hH.nt]; omega)
              (fun x h1 h2 => ⟨by rw [hH.nt]; omega, List.getElem?_append_left (by omega)⟩) (by simp) (fun hlt => by rw [hH.nt] at hlt; omega)
          by_cases hl : l = []
          · subst hl
            cases hx with
            | sl0 a c _ hc _ =>
              have hc0 := hc rfl
              subst hc0
              refine hgen a (fun _ _ => undef) rfl ?_ (fun i' hi' => absurd hi' (by simp)) (fun x hx => by cases hx) (fun i' hi' => absurd hi' (by simp))
              cases a with
              | none => simp [Builtin.firstCells, flatV]
              | some a => simp [Builtin.firstCells, flatV, loadCells, loadCellsFrom]
            | sl _ _ _ _ _ _ hl => exact absurd rfl hl
          · obtain ⟨a, c, us, rfl, hs, hc, hcm2, _, hlim, hes, hdl, hcell, hrep, hfull, _⟩ := hx.cellsOf hl hokl
            have := hfull rfl
            subst this
            refine hgen (some a) us rfl (run_firstCells_some (P := P) w.drew i.size l.length a l.length l.length _ (flatV_length _ _ _) (fun q v hq => by
              obtain ⟨h1, h2, rfl, h3⟩ := flatV_at hq he0
              have := hcell _ h1 _ h2
              rw [← h3] at this
              exact this)) hes hdl hrep
        | own tt =>
          simp only at h
          split at h
          · rename_i htok
            simp only [Option.some.injEq, Prod.mk.injEq] at h
            obtain ⟨rfl, rfl⟩ := h
            obtain ⟨htl, htv⟩ := List.getElem?_eq_some_iff.1 htok
            by_cases hl : l = []
            · subst hl
              cases hx with
              | sl0 a c _ hc ht => exact absurd rfl (ht tt)
              | sl _ _ _ _ _ _ hl => exact absurd rfl hl
            · obtain ⟨a, c, us, rfl, hs, hc, hcm2, _, hlim, hes, hdl, hcell, hrep, _, hown⟩ := hx.cellsOf hl hokl
              obtain ⟨ho1, ho2, ho3, ho4⟩ := hown tt rfl
              obtain ⟨hte, bus, be, hbb, hb1, hb2, hb3, hb4, hb5⟩ := hH.tok tt htl
              have hext : l.length = G.ext tt := by rw [← hte, htv]
              obtain ⟨rfl, rfl⟩ := ho4 hext
              by_cases hroom : l.length + m.length ≤ G.cap tt
              · -- in place
                have hfits : l.length * i.size + (flatV um i.size m.length).length ≤ bus.size := by
                  rw [flatV_length, hb2, ← ho2, ← Nat.add_mul]
                  exact Nat.mul_le_mul_right _ hroom
                have hstc := run_storeCells_at P (G.τ tt) (l.length * i.size) be (flatV um i.size m.length) 0 bus w hbb (by simpa using hfits) honem
                simp only [Nat.add_zero] at hstc
                generalize hblk : (bus.toList.take (l.length * i.size) ++ flatV um i.size m.length ++ bus.toList.drop (l.length * i.size + (flatV um i.size m.length).length)).toArray = blk at hstc
                have hrun : (Builtin.append_ #[t, u] ty #[.slice (some ⟨G.τ tt, 0, none⟩) l.length (G.cap tt), .slice (some am) m.length cm]).run P w =
                    .ok (.slice (some ⟨G.τ tt, 0, none⟩) (l.length + m.length) (G.cap tt)) (w.setRow (G.τ tt) blk) := by
                  have hf := hsrc.cells
                  simp [Builtin.append_, run_underlying ht, run_underlying hu, sizeOf, typeInfo, hi, Builtin.lenOf, hroom, hf, Addr.add_lit, hstc]
                have hblks : blk.size = bus.size := by
                  rw [← hblk]
                  simp only [List.size_toArray, List.length_append, List.length_take, List.length_drop, Array.length_toList]
                  omega
                have hnew := setRow_heap w (G.τ tt) bus blk be (0, 0) hbb
                have hlow : ∀ j, j < l.length * i.size → blk[j]? = bus[j]? := fun j hj => by
                  rw [← hblk, List.getElem?_toArray, List.append_assoc, List.getElem?_append_left (by simp; rw [flatV_length] at hfits; omega)]
                  simp [List.getElem?_take, hj]
                have hst := Step.tokRoom (t := tt) (N := l.length + m.length) (c := G.cap tt) (es := i.size) (cs := blk) hH ho1 (by omega) ho2 (by rw [hb3, ho2]) (fun j hj => by
                  rw [cell_setRow_same w _ j bus blk be (0, 0) hbb, hlow j (by rw [hext]; exact hj)]
                  simp [World.cell?, hbb])
                have hHN := HRep.tokN (us := blk) (e := be) (toks' := H.toks.set tt (l.length + m.length)) hH hst (by rw [hH.nt]; simp) ho1 (Nat.le_refl _) (fun x h1 h2 => ⟨h1, by rw [List.getElem?_set_ne (Ne.symm h2)]⟩) (by simp [htl])
                  (fun x _ h2 => setRow_other _ _ _ _ h2) (fun x hx => by have := hH.τlt ho1; simp at hx; omega) (by simp) hnew h0 (by rw [hblks, hb2, ho2]) hroom hb5
                  (fun k hk => hH.μτ k tt hk ho1) (fun x hx hne e => hne (hH.τinj x tt hx ho1 e)) (fun l hl e => hH.τln ho1 hl e.symm)
                refine ⟨_, _, _, hrun, hst, hHN, ?_⟩
                obtain ⟨j1, j2⟩ := joined_data hes hokm hdl hdatam
                refine Rep.row (us := joinU us um l.length) (es := i.size) (cells := blk) (e := be) (by simp [hmne]) (by simp) hroom hb5 j1 h0 j2 ?_ ⟨_, hnew⟩ (fun q hq j hj => ?_)
                  (joined_rep (fun a b c d => (hrep a b c d).step hst) (fun a b c d => (hrepm a b c d).step hst)) (fun e => by cases e) (fun t' e => ?_)
                · simp [Ghost.tokG]
                · by_cases hql : q < l.length
                  · have hlt := row_le (es := i.size) hql
                    rw [hlow _ (by omega)]
                    have := hcell q hql j hj
                    rw [add_off rfl] at this
                    simp only [World.cell?, hbb, Option.isSome_none, Bool.false_eq_true, if_false, Nat.zero_add] at this
                    rw [this]; simp [joinU, hql]
                  · have hle := Nat.mul_le_mul_right i.size (show l.length ≤ q by omega)
                    have hq' : q - l.length < m.length := by omega
                    have e : q * i.size + j = l.length * i.size + ((q - l.length) * i.size + j) := by rw [Nat.sub_mul]; omega
                    have hlt : (q - l.length) * i.size + j < (flatV um i.size m.length).length := by rw [flatV_length]; have := row_le (es := i.size) hq'; omega
                    rw [← hblk, List.getElem?_toArray, List.append_assoc, List.getElem?_append_right (by simp; omega)]
                    have e2 : q * i.size + j - (bus.toList.take (l.length * i.size)).length = (q - l.length) * i.size + j := by
                      simp only [List.length_take, Array.length_toList]
                      rw [Nat.min_eq_left (by omega)]; omega
                    rw [e2, List.getElem?_append_left hlt, flatV_get hq' hj]
                    simp [joinU, hql]
                · cases e
                  exact ⟨ho1, by simp [Ghost.tokG], by simp [Ghost.tokG], fun _ => ⟨by simp [Ghost.tokG], by simp [Ghost.tokG]⟩⟩
              · refine grow (some ⟨G.τ tt, 0, none⟩) (G.cap tt) us G.nt tt (H.toks.set tt (l.length + m.length)) (by omega) hb0 rfl (run_firstCells_some (P := P) w.drew i.size l.length _ l.length _ _ (flatV_length _ _ _) (fun q v hq => by
                  obtain ⟨h1, h2, rfl, h3⟩ := flatV_at hq he0
                  have := hcell _ h1 _ h2
                  rw [← h3] at this
                  exact this)) hes hdl hrep (by rw [hH.nt]; simp) ho1 (Nat.le_refl _) (fun x h1 h2 => ⟨h1, by rw [List.getElem?_set_ne (Ne.symm h2)]⟩) (by simp [htl]) (fun _ => ⟨by omega, ho2⟩)
          · cases h
      · cases h
  · cases h
end

end Go.Aa
