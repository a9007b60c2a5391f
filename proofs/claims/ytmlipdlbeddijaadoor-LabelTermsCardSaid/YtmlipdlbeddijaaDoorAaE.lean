/-
  CALLS, AND THE OPERATIONS OF A STATEMENT ONE AFTER THE OTHER.
-/
import Derived.Test.YtmlipdlbeddijaaDoorAaD
import Derived.CallsIn
import Derived.RangeFuncIn
import Derived.RangeFuncRecord
set_option linter.unusedVariables false
set_option linter.unusedSimpArgs false
namespace Go.Aa
open Go.RowKit

variable {P : Program} {G G' : Ghost} {w w' : World}

/-- The fence that shuts out nothing. -/
def W (ro : Option Nat) : Fence := { Fence.wide with round := ro }

/-- The arguments read as these. -/
def Args (G : Ghost) (w : World) (vs : Array Value) (as : List AV) : Prop := vs.size = as.length ∧ ∀ i (h1 : i < vs.size) (h2 : i < as.length), Rep G w vs[i] as[i]

theorem Args.step {vs : Array Value} {as : List AV} (h : Args G w vs as) (hst : Step G w G' w') : Args G' w' vs as := ⟨h.1, fun i h1 h2 => (h.2 i h1 h2).step hst⟩
theorem Args.append {us vs : Array Value} {as bs : List AV} (h : Args G w us as) (k : Args G w vs bs) : Args G w (us ++ vs) (as ++ bs) := by
  refine ⟨by simp [h.1, k.1], fun i h1 h2 => ?_⟩
  rw [Array.getElem_append, List.getElem_append]
  by_cases hi : i < us.size
  · rw [dif_pos hi, dif_pos (by rw [← h.1]; exact hi)]
    exact h.2 i hi _
  · rw [dif_neg hi, dif_neg (by rw [← h.1]; exact hi)]
    have e : i - us.size = i - as.length := by rw [h.1]
    have := k.2 (i - us.size) (by simp at h1; omega) (by have := h.1; simp at h2; omega)
    simpa [e] using this

/-- How a call has ended. -/
def EndOk (G : Ghost) (w : World) (e : Ending) : ARes → Prop
  | .ret v => ∃ u, e = .returned u ∧ Rep G w u v
  | .pan v => ∃ u, e = .panicked [{ v := u, recovered := false }] ∧ Rep G w u v

/-- What a call may leave. -/
def PostOk (P : Program) (G : Ghost) (w : World) (r : ARes) (H' : Heap) (e : Ending) (w' : World) : Prop := ∃ G', Step G w G' w' ∧ HRep P G' w' H' ∧ EndOk G' w' e r

/-- A call of a function: entered, or answered by the model at once. -/
def CallOk (P : Program) (f : FuncId) (vs : Array Value) (w : World) (R : Ending → World → Prop) : Prop :=
  (∃ w1, (callFunc f vs).run P w = .ok (.enter f vs) w ∧ Calls P f vs w R ∧ w1 = w) ∨ ∃ u w', (callFunc f vs).run P w = .ok (.value u) w' ∧ R (.returned u) w'

theorem CallOk.mono {f : FuncId} {vs : Array Value} {R R' : Ending → World → Prop} (h : CallOk P f vs w R) (hr : ∀ e w', R e w' → R' e w') : CallOk P f vs w R' := by
  rcases h with ⟨w1, h1, h2, h3⟩ | ⟨u, w', h1, h2⟩
  · exact .inl ⟨w1, h1, h2.mono hr, h3⟩
  · exact .inr ⟨u, w', h1, hr _ _ h2⟩

/-- The oracle's answers are the machine's. -/
structure CallSound (P : Program) (call : CallF) : Prop where
  fn : ∀ f as H r H', call (.fn f) as H = some (r, H') → ∀ G w vs, HRep P G w H → Args G w vs as → CallOk P f vs w (PostOk P G w r H')
  yl : ∀ l as H r H', call (.yl l) as H = some (r, H') → ∀ G w vs, HRep P G w H → Args G w vs as → l < H.loops.length →
    ∃ rec, w.heap[G.ln l]? = some (.loop rec) ∧ vs.size = rec.params.size ∧ RoundIn (W none) 0 P (G.ln l) rec.fn ((rec.params.zip vs).foldl (fun tmps (t, a) => tmps.setIfInBounds t a) rec.tmps) rec.assign rec.body w (PostOk P G w r H')

theorem calls_W {ro : Option Nat} {f : FuncId} {vs : Array Value} {R : Ending → World → Prop} (h : Calls P f vs w R) : CallsIn (W ro) 0 P f vs w R := callsIn_wide.2 h

/-! ### Data -/
theorem data1_data {x : AV} (h : data1 x = true) {v : Value} (hr : Rep G w v x) : x.Data := by
  cases x <;> try exact data0_data h hr
  · rename_i cs
    cases hr with
    | agg us _ hn hr =>
    exact .agg _ fun y hy => by
      obtain ⟨i, hi, rfl⟩ := List.getElem_of_mem hy
      exact data0_data (List.all_eq_true.1 h _ (List.getElem_mem hi)) (hr i (by omega) hi)
  · rename_i f cs
    cases hr with
    | func _ us _ hn hr =>
    exact .func _ _ fun y hy => by
      obtain ⟨i, hi, rfl⟩ := List.getElem_of_mem hy
      exact data0_data (List.all_eq_true.1 h _ (List.getElem_mem hi)) (hr i (by omega) hi)
theorem data2_data {x : AV} (h : data2 x = true) {v : Value} (hr : Rep G w v x) : x.Data := by
  cases x <;> try exact data1_data h hr
  rename_i t y
  cases hr with
  | iface _ u _ hr => exact .iface _ _ (data1_data h hr)
theorem isData_data {x : AV} (h : isData x = true) {v : Value} (hr : Rep G w v x) : x.Data := by
  cases x <;> try exact data2_data h hr
  rename_i cs
  cases hr with
  | tuple us _ hn hr =>
  exact .tuple _ fun y hy => by
    obtain ⟨i, hi, rfl⟩ := List.getElem_of_mem hy
    exact data2_data (List.all_eq_true.1 h _ (List.getElem_mem hi)) (hr i (by omega) hi)

/-- The ghost of a call that is handed data alone: it has no boxes, tokens, loops. -/
def Ghost.bare (G : Ghost) : Ghost := { G with nb := 0, nt := 0, nl := 0 }
theorem bare_heap {H : Heap} (hH : HRep P G w H) : HRep P G.bare w Heap.nil :=
  ⟨hH.base, rfl, rfl, rfl, fun k hk => absurd hk (by simp [Heap.nil]), fun i j hi => absurd hi (by simp [Ghost.bare]), fun k hk => absurd hk (by simp [Ghost.bare]), fun t ht => absurd ht (by simp [Heap.nil]), fun i j hi => absurd hi (by simp [Ghost.bare]),
   fun k t hk => absurd hk (by simp [Ghost.bare]), fun l hl => absurd hl (by simp [Heap.nil]), fun i j hi => absurd hi (by simp [Ghost.bare])⟩
theorem bare_args {vs : Array Value} {as : List AV} (h : Args G w vs as) (hd : ∀ x ∈ as, isData x = true) : Args G.bare w vs as :=
  ⟨h.1, fun i h1 h2 => (h.2 i h1 h2).data (isData_data (hd _ (List.getElem_mem h2)) (h.2 i h1 h2)) fun _ => Nat.le_refl _⟩

/-- What such a call leaves: new blocks alone. -/
theorem bare_grow {H : Heap} (hH : HRep P G w H) {G1 : Ghost} (hst : Step G.bare w G1 w') (hb : Base G1 w') : Grow G w { G with lim := G1.lim } w' :=
  ⟨rfl, hst.os, hst.tape, hst.output, hst.size, fun b hb' => hst.frame b hb' (fun k hk => absurd hk (by simp [Ghost.bare])) (fun t ht => absurd ht (by simp [Ghost.bare])) (fun l hl => absurd hl (by simp [Ghost.bare])), hb⟩

/-! ### What a call leaves of its boxes and tokens -/
theorem in0_fits {nb nt nl : Nat} {v : Value} {x : AV} (hr : Rep G w v x) (h : in0 nb nt x = true) : Fits nb nt nl x := by
  cases hr with
  | ptr k off hk => exact .ptr k off (by simpa [in0] using h)
  | msl k off n c hk hc => exact .msl k off n (by simpa [in0] using h)
  | sl a c k l es us hl hc hcm hs hes he0 hd hlim hcell hrep hfull hown => exact .sl k l fun t ht => by subst ht; simpa [in0] using h
  | sl0 a c k hc ht => exact .sl _ _ fun t e => absurd e (ht t)
  | agg => simp [in0] at h
  | tuple => simp [in0] at h
  | func => simp [in0] at h
  | iface => simp [in0] at h
  | yield => simp [in0] at h
  | ref a cs us hs hd => exact .data _ (.ref _ hd)
  | undef => exact .data _ .undef
  | bool => exact .data _ (.bool _)
  | int => exact .data _ (.int _ _)
  | flt => exact .data _ (.flt _)
  | nan _ hn => exact .data _ .nan
  | str => exact .data _ (.str _)
  | nilptr => exact .data _ .nilptr
  | nilFunc => exact .data _ .nilFunc
  | nilIface => exact .data _ .nilIface

theorem in1_fits {nb nt nl : Nat} {v : Value} {x : AV} (hr : Rep G w v x) (h : in1 nb nt x = true) : Fits nb nt nl x := by
  cases x <;> try exact in0_fits hr h
  · cases hr with
    | agg us _ hn hr => exact .agg _ fun y hy => by obtain ⟨i, hi, rfl⟩ := List.getElem_of_mem hy; exact in0_fits (hr i (by omega) hi) (List.all_eq_true.1 h _ hy)
  · cases hr with
    | func _ us _ hn hr => exact .func _ _ fun y hy => by obtain ⟨i, hi, rfl⟩ := List.getElem_of_mem hy; exact in0_fits (hr i (by omega) hi) (List.all_eq_true.1 h _ hy)
theorem in2_fits {nb nt nl : Nat} {v : Value} {x : AV} (hr : Rep G w v x) (h : in2 nb nt x = true) : Fits nb nt nl x := by
  cases x <;> try exact in1_fits hr h
  cases hr with
  | iface _ u _ hr => exact .iface _ _ (in1_fits hr h)
theorem within_fits {nb nt nl : Nat} {v : Value} {x : AV} (hr : Rep G w v x) (h : within nb nt x = true) : Fits nb nt nl x := by
  cases x <;> try exact in2_fits hr h
  cases hr with
  | tuple us _ hn hr => exact .tuple _ fun y hy => by obtain ⟨i, hi, rfl⟩ := List.getElem_of_mem hy; exact in2_fits (hr i (by omega) hi) (List.all_eq_true.1 h _ hy)

/-- Fewer names. -/
def Ghost.cut (G : Ghost) (nb nt nl : Nat) : Ghost := { G with nb := nb, nt := nt, nl := nl }

theorem Step.cut {nb nt nl : Nat} (h : Step G w G' w') (h1 : G.nb ≤ nb) (h2 : nb ≤ G'.nb) (h3 : G.nt ≤ nt) (h4 : nt ≤ G'.nt) (h5 : G.nl ≤ nl) (h6 : nl ≤ G'.nl) : Step G w (G'.cut nb nt nl) w' :=
  ⟨h.os, h.tape, h.output, h.size, h.lim, h.cell, h1, h.μ, fun k k1 k2 => h.μnew k k1 (Nat.lt_of_lt_of_le k2 h2), h3, h.ext, h.τ, h.tes, fun t ht => h.τnew t (Nat.lt_of_lt_of_le ht h4), h5, h.ln,
   fun k k1 k2 => h.lnew k k1 (Nat.lt_of_lt_of_le k2 h6), h.frame⟩

theorem HRep.cut {H : Heap} (h : HRep P G w H) {nb nt nl : Nat} (h1 : nb ≤ G.nb) (h2 : nt ≤ G.nt) (h3 : nl ≤ G.nl)
    (hb : ∀ cs ∈ H.boxes.take nb, ∀ x ∈ cs, ∀ v, Rep G w v x → Fits nb nt nl x) (hl : ∀ r ∈ H.loops.take nl, r.nb ≤ nb ∧ r.nt ≤ nt ∧ r.nl ≤ nl) :
    HRep P (G.cut nb nt nl) w ⟨H.boxes.take nb, H.toks.take nt, H.loops.take nl⟩ := by
  have eb := h.nb
  have et := h.nt
  have el := h.nl
  refine ⟨h.base, by simp [Ghost.cut]; omega, by simp [Ghost.cut]; omega, by simp [Ghost.cut]; omega, fun k hk => ?_, fun i j hi hj => h.μinj i j (Nat.lt_of_lt_of_le hi h1) (Nat.lt_of_lt_of_le hj h1),
    fun k hk => h.μlim k (Nat.lt_of_lt_of_le hk h1), fun t ht => ?_, fun i j hi hj => h.τinj i j (Nat.lt_of_lt_of_le hi h2) (Nat.lt_of_lt_of_le hj h2),
    fun k t hk ht => h.μτ k t (Nat.lt_of_lt_of_le hk h1) (Nat.lt_of_lt_of_le ht h2), fun l hl' => ?_, fun i j hi hj => h.linj i j (Nat.lt_of_lt_of_le hi h3) (Nat.lt_of_lt_of_le hj h3)⟩
  · have hk' : k < H.boxes.length := by simp at hk; omega
    obtain ⟨us, e, a1, a2, a3⟩ := h.box k hk'
    have hm : (H.boxes.take nb)[k] ∈ H.boxes.take nb := List.getElem_mem hk
    have hg : (H.boxes.take nb)[k] = H.boxes[k] := by simp
    refine ⟨us, e, a1, by simpa [hg] using a2, fun i i1 i2 => ?_⟩
    have i2' : i < (H.boxes[k]).length := by simpa using i2
    have r := a3 i i1 i2'
    have := r.cut (nb := nb) (nt := nt) (nl := nl) (hb _ hm _ (by rw [hg]; exact List.getElem_mem i2') _ r)
    simpa [Ghost.cut] using this
  · have ht' : t < H.toks.length := by simp at ht; omega
    obtain ⟨a1, a2⟩ := h.tok t ht'
    exact ⟨by simpa [Ghost.cut] using a1, a2⟩
  · have hl2 : l < H.loops.length := by simp at hl'; omega
    obtain ⟨rec, a1, a2⟩ := h.loop l hl2
    refine ⟨rec, a1, ?_⟩
    have hg : (H.loops.take nl)[l] = H.loops[l] := by simp
    obtain ⟨n1, n2, n3⟩ := hl _ (List.getElem_mem hl')
    simp only [hg] at n1 n2 n3
    obtain ⟨b1, b2, b3, b4, ⟨b5, b6, b7, b8⟩, nt', c1, c2⟩ := a2
    show LRep P (G.cut nb nt nl) w (H.loops.take nl)[l] rec
    rw [hg]
    exact ⟨b1, b2, b3, b4, ⟨n1, n2, n3, b8⟩, nt', ⟨c1.size, fun i => (c1.get i).cut ((b8 i).mono n1 n2 n3)⟩, c2⟩

theorem take_len {α : Type} (l : List α) : l.take l.length = l := by simp

/-- What is kept of the boxes and tokens. -/
theorem trunc_sound {H : Heap} {u : Value} {v : AV} (hst : Step G w G' w') (hH : HRep P G' w' H) (hr : Rep G' w' u v) : ∃ G'', Step G w G'' w' ∧ HRep P G'' w' (trunc G.nb G.nt v H) ∧ Rep G'' w' u v := by
  have eb := hH.nb
  have et := hH.nt
  have el := hH.nl
  have key : ∀ nb nt, G.nb ≤ nb → nb ≤ G'.nb → G.nt ≤ nt → nt ≤ G'.nt → (∀ cs ∈ H.boxes.take nb, ∀ x ∈ cs, ∀ v, Rep G' w' v x → Fits nb nt G'.nl x) → (∀ r ∈ H.loops, r.nb ≤ nb ∧ r.nt ≤ nt ∧ r.nl ≤ G'.nl) → Fits nb nt G'.nl v →
      ∃ G'', Step G w G'' w' ∧ HRep P G'' w' ⟨H.boxes.take nb, H.toks.take nt, H.loops⟩ ∧ Rep G'' w' u v := by
    intro nb nt h1 h2 h3 h4 hb hl hv
    refine ⟨G'.cut nb nt G'.nl, hst.cut h1 h2 h3 h4 hst.nl (Nat.le_refl _), ?_, hr.cut hv⟩
    have := hH.cut (nb := nb) (nt := nt) (nl := G'.nl) h2 h4 (Nat.le_refl _) hb (fun r hr => hl r (List.mem_of_mem_take hr))
    rwa [el, take_len, ← el] at this
  have hlo : ∀ r ∈ H.loops, r.nb ≤ G'.nb ∧ r.nt ≤ G'.nt ∧ r.nl ≤ G'.nl := fun r hr => by
    obtain ⟨l, hl, rfl⟩ := List.getElem_of_mem hr
    obtain ⟨rec, _, a2⟩ := hH.loop l hl
    exact ⟨a2.fits.1, a2.fits.2.1, a2.fits.2.2.1⟩
  have hst1 := hst.nb
  have hst2 := hst.nt
  unfold trunc
  simp only
  by_cases hB : (H.loops.all (fun r => decide (r.nb ≤ G.nb)) && within G.nb H.toks.length v && (H.boxes.take G.nb).all (·.all (in2 G.nb H.toks.length))) = true
  · rw [if_pos hB]
    simp only [Bool.and_eq_true, List.all_eq_true, decide_eq_true_eq] at hB
    obtain ⟨⟨b1, b2⟩, b3⟩ := hB
    have elen : (H.boxes.take G.nb).length = G.nb := by simp; omega
    by_cases hT : (H.loops.all (fun r => decide (r.nt ≤ G.nt)) && within (H.boxes.take G.nb).length G.nt v && (H.boxes.take G.nb).all (·.all (in2 (H.boxes.take G.nb).length G.nt))) = true
    · rw [if_pos hT]
      simp only [Bool.and_eq_true, List.all_eq_true, decide_eq_true_eq, elen] at hT
      obtain ⟨⟨t1, t2⟩, t3⟩ := hT
      exact key G.nb G.nt (Nat.le_refl _) hst1 (Nat.le_refl _) hst2 (fun cs hcs x hx v hv => in2_fits hv (t3 cs hcs x hx)) (fun r hr => ⟨b1 r hr, t1 r hr, (hlo r hr).2.2⟩) (within_fits hr t2)
    · rw [if_neg hT]
      have := key G.nb G'.nt (Nat.le_refl _) hst1 hst2 (Nat.le_refl _) (fun cs hcs x hx v hv => by rw [et]; exact in2_fits hv (b3 cs hcs x hx)) (fun r hr => ⟨b1 r hr, (hlo r hr).2⟩) (by rw [et]; exact within_fits hr b2)
      rwa [et, take_len] at this
  · rw [if_neg hB]
    by_cases hT : (H.loops.all (fun r => decide (r.nt ≤ G.nt)) && within H.boxes.length G.nt v && H.boxes.all (·.all (in2 H.boxes.length G.nt))) = true
    · rw [if_pos hT]
      simp only [Bool.and_eq_true, List.all_eq_true, decide_eq_true_eq] at hT
      obtain ⟨⟨t1, t2⟩, t3⟩ := hT
      have := key G'.nb G.nt hst1 (Nat.le_refl _) (Nat.le_refl _) hst2 (fun cs hcs x hx v hv => by rw [eb]; exact in2_fits hv (t3 cs (List.mem_of_mem_take hcs) x hx)) (fun r hr => ⟨(hlo r hr).1, t1 r hr, (hlo r hr).2.2⟩) (by rw [eb]; exact within_fits hr t2)
      rwa [eb, take_len] at this
    · rw [if_neg hT]
      exact ⟨G', hst, hH, hr⟩

end Go.Aa
