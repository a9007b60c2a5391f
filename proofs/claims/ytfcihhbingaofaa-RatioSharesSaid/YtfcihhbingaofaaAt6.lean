/-
  slices.Clone: what it hands back is memory of its own, that may be turned.
-/
import Derived.Test.YtfcihhbingaofaaAt5
set_option linter.unusedVariables false
set_option linter.unusedSimpArgs false
set_option maxRecDepth 100000
namespace Go.Aa
open Go.Proofs

open Go.Aa.T (leaf)
theorem Rep.leaf {G G' : Ghost} {w w' : World} {v : Value} {x : AV} (h : Rep G w v x) (hl : leaf x = true) : Rep G' w' v x := by
  cases h with
  | bool b => exact .bool b
  | int k n => exact .int k n
  | flt b => exact .flt b
  | nan b h => exact .nan b h
  | str s => exact .str s
  | nilptr => exact .nilptr
  | nilFunc => exact .nilFunc
  | nilIface => exact .nilIface
  | _ => simp [Go.Aa.T.leaf] at hl
theorem leaf_cells {x : AV} (hl : leaf x = true) : x.cells = [x] := by
  cases x <;> first | rfl | simp [Go.Aa.T.leaf] at hl

/-- A fresh row that grows by a token of its own becomes a box. -/
theorem thaw {P : Program} {G G1 : Ghost} {w w' : World} {H : Heap} {l : List AV} {u : Value} (hH : HRep P G w H) (hst : Step G.bare w G1 w') (h1 : HRep P G1 w' ⟨[], [l.length], []⟩) (hr : Rep G1 w' u (.sl (.own 0) l)) (hne : l ≠ []) (hl : l.all leaf = true) :
    ∃ G', Step G w G' w' ∧ HRep P G' w' { H with boxes := H.boxes ++ [l] } ∧ Rep G' w' u (.msl H.boxes.length 0 l.length) := by
  have hnt : G1.nt = 1 := h1.nt
  have hτ : w.heap.size ≤ G1.τ 0 := by
    rcases hst.τnew 0 (by omega) with ⟨h, _⟩ | h
    · exact absurd h (by simp [Ghost.bare])
    · exact h
  obtain ⟨hext, us, e, hb, ht0, hsz, hlim, hec, _⟩ := h1.tok 0 (by simp)
  have hext : l.length = G1.ext 0 := by simpa using hext
  have hsame : ∀ b, b < w.heap.size → w'.heap[b]? = w.heap[b]? ∧ G1.lim b = G.lim b := fun b hb' => hst.frame b hb' (fun k hk => absurd hk (by simp [Ghost.bare])) (fun t ht => absurd ht (by simp [Ghost.bare])) (fun k hk => absurd hk (by simp [Ghost.bare]))
  cases hr with
  | sl0 a c k hc ht => exact absurd rfl hne
  | sl a c k _ es vs hl' hc hcm hs hes he0 hd hlim' hcell hrep hfull hown =>
  obtain ⟨o1, o2, o3, o4⟩ := hown 0 rfl
  obtain ⟨rfl, hcap⟩ := o4 hext
  have hlf : ∀ i (hi : i < l.length), leaf l[i] = true := fun i hi => List.all_eq_true.1 hl _ (List.getElem_mem hi)
  have hes1 : es = 1 := by
    have h0 : 0 < l.length := List.length_pos_iff.2 hne
    have := hes 0 h0
    rw [leaf_cells (hlf 0 h0)] at this
    simpa using this.symm
  subst hes1
  have enb := hH.nb
  let G' : Ghost := { G with lim := fun b => if b = G1.τ 0 then 0 else G1.lim b, nb := G.nb + 1, μ := fun k => if k = G.nb then G1.τ 0 else G.μ k }
  have hμ : ∀ k, k < G.nb → G'.μ k = G.μ k := fun k hk => if_neg (by omega)
  have hlim2 : ∀ b, b < w.heap.size → G'.lim b = G.lim b := fun b hb' => by
    show (if b = G1.τ 0 then 0 else G1.lim b) = _
    rw [if_neg (by omega)]; exact (hsame b hb').2
  have hstep : Step G w G' w' := by
    refine ⟨hst.os, hst.tape, hst.output, hst.size, fun b => ?_, hst.cell, Nat.le_succ _, hμ, fun k k1 k2 => ?_, Nat.le_refl _, fun _ _ => Nat.le_refl _, fun _ _ _ => ⟨rfl, rfl⟩, fun _ _ => rfl, fun t ht => .inl ⟨ht, rfl⟩, Nat.le_refl _, fun _ _ => rfl,
      fun k k1 k2 => absurd k2 (by show ¬ k < G.nl; omega), fun b hb' _ _ _ => ⟨(hsame b hb').1, hlim2 b hb'⟩⟩
    · by_cases hlt : b < w.heap.size
      · rw [hlim2 b hlt]; exact Nat.le_refl _
      · rw [hH.base b (by omega)]; exact Nat.zero_le _
    · have : k = G.nb := by have : k < G.nb + 1 := k2; omega
      show w.heap.size ≤ (if k = G.nb then G1.τ 0 else G.μ k)
      rw [if_pos this]; exact hτ
  refine ⟨G', hstep, ⟨fun b hb' => ?_, by show G.nb + 1 = _; simp [enb], hH.nt, hH.nl, fun k hk => ?_, fun i j hi hj he => ?_, fun k hk => ?_, fun t ht => ?_, hH.τinj, fun k t hk ht => ?_, fun l' hl'' => ?_, hH.linj⟩, ?_⟩
  · show (if b = G1.τ 0 then 0 else G1.lim b) = 0
    split
    · rfl
    · exact h1.base b hb'
  · by_cases hlt : k < H.boxes.length
    · obtain ⟨us0, e0, a1, a2, a3⟩ := hH.box k hlt
      refine ⟨us0, e0, ?_, by simpa [List.getElem_append_left hlt] using a2, fun i i1 i2 => ?_⟩
      · rw [hμ k (by omega), (hsame _ (hH.μlt (by omega))).1]; exact a1
      · have i2' : i < (H.boxes[k]).length := by simpa [List.getElem_append_left hlt] using i2
        have := (a3 i i1 i2').step hstep
        simpa [List.getElem_append_left hlt] using this
    · have hk' : k = H.boxes.length := by simp at hk; omega
      subst hk'
      refine ⟨us, e, ?_, ?_, fun i i1 i2 => ?_⟩
      · show w'.heap[(if H.boxes.length = G.nb then G1.τ 0 else G.μ H.boxes.length)]? = _
        rw [if_pos enb.symm]; exact hb
      · rw [← o2, Nat.mul_one] at hsz
        simp; omega
      · have i2' : i < l.length := by simpa using i2
        have hc0 := hcell i i2' 0 (by omega)
        rw [add_off rfl] at hc0
        have hv : us[i] = vs i 0 := by
          simp only [World.cell?, hb] at hc0
          simpa [i1] using hc0
        have hr0 := hrep i i2' 0 (by rw [leaf_cells (hlf i i2')]; simp)
        have : (l[i]).cells[0]'(by rw [leaf_cells (hlf i i2')]; simp) = l[i] := by simp [leaf_cells (hlf i i2')]
        rw [this] at hr0
        have := (hr0.leaf (G' := G') (w' := w') (hlf i i2'))
        rw [← hv] at this
        simpa using this
  · have hi' : i < G.nb + 1 := hi
    have hj' : j < G.nb + 1 := hj
    have he' : (if i = G.nb then G1.τ 0 else G.μ i) = (if j = G.nb then G1.τ 0 else G.μ j) := he
    split at he' <;> split at he'
    · omega
    · have := hH.μlt (k := j) (by omega); omega
    · have := hH.μlt (k := i) (by omega); omega
    · exact hH.μinj i j (by omega) (by omega) he'
  · have hk' : k < G.nb + 1 := hk
    by_cases he : k = G.nb
    · show (if (if k = G.nb then G1.τ 0 else G.μ k) = G1.τ 0 then 0 else G1.lim (if k = G.nb then G1.τ 0 else G.μ k)) = 0
      rw [if_pos he, if_pos rfl]
    · rw [hμ k (by omega), hlim2 _ (hH.μlt (by omega))]; exact hH.μlim k (by omega)
  · obtain ⟨a0, us0, e0, a1, a2, a3, a4, a5, a6⟩ := hH.tok t ht
    have hlt := hH.τlt (t := t) (by rw [hH.nt]; exact ht)
    exact ⟨a0, us0, e0, by show w'.heap[G.τ t]? = _; rw [(hsame _ hlt).1]; exact a1, a2, a3, by show G'.lim (G.τ t) = _; rw [hlim2 _ hlt]; exact a4, a5, a6⟩
  · have hk' : k < G.nb + 1 := hk
    have hlt := hH.τlt (t := t) ht
    show (if k = G.nb then G1.τ 0 else G.μ k) ≠ G.τ t
    split
    · omega
    · exact hH.μτ k t (by omega) ht
  · obtain ⟨rec, a1, a2⟩ := hH.loop l' hl''
    have hlt := hH.lnlt (l := l') (by rw [hH.nl]; exact hl'')
    exact ⟨rec, by show w'.heap[G.ln l']? = _; rw [(hsame _ hlt).1]; exact a1, a2.step hstep⟩
  · have : (⟨G1.τ 0, 0, none⟩ : Addr) = ⟨G'.μ H.boxes.length, 0, none⟩ := by
      show _ = (⟨(if H.boxes.length = G.nb then G1.τ 0 else G.μ H.boxes.length), 0, none⟩ : Addr)
      rw [if_pos enb.symm]
    rw [this]
    exact .msl _ _ _ _ (by show H.boxes.length < G.nb + 1; omega) hc

end Go.Aa
namespace Go.Aa.T
open Go.Aa Go.Proofs

theorem lenOk_leaf {l : List AV} (h : l.all leaf = true) : lenOk 1 l = true := by
  refine List.all_eq_true.2 fun x hx => ?_
  have := List.all_eq_true.1 h x hx
  cases x <;> first | rfl | simp [leaf] at this
theorem dataOk_leaf {l : List AV} (h : l.all leaf = true) : dataOk l = true := by
  refine List.all_eq_true.2 fun x hx => ?_
  have := List.all_eq_true.1 h x hx
  cases x <;> first | rfl | simp [leaf] at this

theorem ext_clone : ExtOk Try.prog 33 cloneE := by
  intro xs H v H' h G w vs hH hargs
  unfold cloneE at h
  split at h
  · rename_i x l
    split at h <;> simp only [Option.some.injEq, Prod.mk.injEq, reduceCtorEq] at h
    rename_i hc
    obtain ⟨h1, h2⟩ := hc
    obtain ⟨rfl, rfl⟩ := h
    let call : CallF := fun _ _ _ => none
    have hcs : CallSound Try.prog call := ⟨fun f xs H r H' h => (by cases h), fun l xs H r H' h => (by cases h)⟩
    have hrun : run call a33 30 [.c a33.body] (initEnv [.sl .sh (x :: l)]) Heap.nil = some (.ret (.sl (.own 0) (x :: l)), ⟨[], [(x :: l).length], []⟩) := by
      have e1 := lenOk_leaf h1
      have e2 := dataOk_leaf h1
      have e3 : (l.length + 1) * 8 ≤ 140737488355328 := by simp at h2; omega
      simp [show a33.body = c33 from rfl, c33, r33, o33, run, exitA, regionA, runOps, wantedA, opStep, pureOp, setD, ev, upd, initEnv, eqnilA, appendA, retA, resAll, resA, Heap.nil, lenOk, dataOk]
      simp only [lenOk, List.all_cons, Bool.and_eq_true, List.all_eq_true] at e1
      simp only [dataOk, List.all_cons, Bool.and_eq_true, List.all_eq_true] at e2
      rw [if_pos ⟨e3, e1, e2.1, e2.2⟩]
      simp [upd]
    have hcall := fn_sound (G := G.bare) hcs (by kernel_rfl) Try.func33 k33 hrun (bare_heap hH) (bare_args hargs (by intro y hy; simp only [List.mem_singleton] at hy; subst hy; rfl))
    refine hcall.mono fun e w' hp => ?_
    obtain ⟨G1, s1, s2, u, rfl, s3⟩ := hp
    obtain ⟨G2, t1, t2, t3⟩ := thaw hH s1 s2 s3 (by simp) h1
    exact ⟨G2, t1, t2, u, rfl, t3⟩
  · simp at h

end Go.Aa.T
