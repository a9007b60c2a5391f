/-
  STRINGS' OWN FUNCTIONS, as the kit's contracts tell them.
-/
import Derived.Test.YtmlipdlbeddijaaDoorAaT
import Derived.Test.YtmlipdlbeddijaaDoorAaP
import Derived.Lib.SlTrimSet
import Derived.Shelf.Strings.SlTrimAscii
import Derived.Shelf.Strings.OnBuilder
import Derived.Shelf.Strings.Count
import Derived.Shelf.Strings.Search3
set_option linter.unusedVariables false
set_option linter.unusedSimpArgs false
namespace Go.Aa
open Go.RowKit
variable {P : Program} {G : Ghost} {w w' : World} {H : Heap}

theorem below_step (hH : HRep P G w H) (hB : Below w.heap.size w w') : Step G w G w' ∧ HRep P G w' H := by
  have hheap : ∀ b, b < w.heap.size → w'.heap[b]? = w.heap[b]? := fun b hb => hB.block b hb
  have hcell : ∀ b off, off < G.lim b → w'.cell? ⟨b, off, none⟩ = w.cell? ⟨b, off, none⟩ := fun b off h => by
    have hb : b < w.heap.size := by
      rcases Nat.lt_or_ge b w.heap.size with h1 | h1
      · exact h1
      · rw [hH.base b h1] at h; omega
    unfold World.cell?
    rw [hheap b hb]
  have hst : Step G w G w' :=
    ⟨hB.os, hB.tape, hB.output, hB.size, fun _ => Nat.le_refl _, hcell, Nat.le_refl _, fun _ _ => rfl, fun _ h1 h2 => absurd h2 (by omega), Nat.le_refl _, fun _ _ => Nat.le_refl _,
     fun _ _ _ => ⟨rfl, rfl⟩, fun _ _ => rfl, fun _ h => .inl ⟨h, rfl⟩, Nat.le_refl _, fun _ _ => rfl, fun _ h1 h2 => absurd h2 (by omega), fun b hb _ _ _ => ⟨hheap b hb, rfl⟩⟩
  refine ⟨hst, fun b hb => hH.base b (by have := hB.size; omega), hH.nb, hH.nt, hH.nl, fun k hk => ?_, hH.μinj, hH.μlim, fun t ht => ?_, hH.τinj, hH.μτ, fun l hl => ?_, hH.linj⟩
  · obtain ⟨us, e, h, h1, h2⟩ := hH.box k hk
    exact ⟨us, e, by rw [hheap _ (Array.getElem?_eq_some_iff.1 h).1]; exact h, h1, fun i i1 i2 => (h2 i i1 i2).step hst⟩
  · obtain ⟨h0, us, e, h, h1⟩ := hH.tok t ht
    exact ⟨h0, us, e, by rw [hheap _ (Array.getElem?_eq_some_iff.1 h).1]; exact h, h1⟩
  · obtain ⟨rec, h, h1⟩ := hH.loop l hl
    exact ⟨rec, by rw [hheap _ (Array.getElem?_eq_some_iff.1 h).1]; exact h, h1.keep hst.keep⟩

theorem args_two {vs : Array Value} {x y : AV} (h : Args G w vs [x, y]) : ∃ u v, vs = #[u, v] ∧ Rep G w u x ∧ Rep G w v y := by
  obtain ⟨h1, h2⟩ := h
  have hs : vs.size = 2 := by simpa using h1
  refine ⟨vs[0], vs[1], ?_, by simpa using h2 0 (by omega) (by simp), by simpa using h2 1 (by omega) (by simp)⟩
  apply Array.ext
  · simpa using hs
  · intro i i1 i2
    have : i = 0 ∨ i = 1 := by omega
    rcases this with rfl | rfl <;> rfl
theorem str_inv {v : Value} {s : List UInt8} (h : Rep G w v (.str s)) : v = .string ⟨s.toArray⟩ := by cases h; rfl

/-- A function with a body is entered. -/
def Enters (P : Program) (f : FuncId) : Prop := ∀ vs w, (callFunc f vs).run P w = .ok (.enter f vs) w

def indexE (xs : List AV) (H : Heap) : Option (AV × Heap) := match xs with
  | [.str s, .str [c]] => some (.int .i64 (Lib.indexByte s c), H)
  | _ => none
def countE (xs : List AV) (H : Heap) : Option (AV × Heap) := match xs with
  | [.str s, .str [c]] => some (.int .i64 (Lib.countByte s c), H)
  | _ => none
def trimE (xs : List AV) (H : Heap) : Option (AV × Heap) := match xs with
  | [.str s, .str cs] => if s.length ≤ 9223372036854775807 ∧ cs.length < 4294967281 ∧ cs.all (fun b => decide (b.toNat < 128)) = true then some (.str (Lib.trimS s cs), H) else none
  | _ => none
def strsA : List AV → Option (List (List UInt8))
  | [] => some []
  | .str s :: xs => (strsA xs).map (s :: ·)
  | _ => none
def joinE (xs : List AV) (H : Heap) : Option (AV × Heap) := match xs with
  | [.sl k l, .str sep] => match strsA l with
    | some ss => if ss.length ≤ 140737488355328 ∧ (Lib.join ss sep).length ≤ 140737488355328 then some (.str (Lib.join ss sep), H) else none
    | none => none
  | _ => none

theorem ext_index {f : FuncId} (hf : Enters P f) (h : ∀ (s : ByteArray) (c : UInt8) (w : World), Calls P f #[.string s, .string ⟨#[c]⟩] w fun e w' => e = .returned (.int .i64 (Lib.indexByte s.data.toList c)) ∧ w' = w) : ExtOk P f indexE := by
  intro xs H v H' hg G w vs hH hargs
  unfold indexE at hg
  split at hg <;> simp only [Option.some.injEq, Prod.mk.injEq, reduceCtorEq] at hg
  rename_i s c
  obtain ⟨rfl, rfl⟩ := hg
  obtain ⟨u, u', rfl, h1, h2⟩ := args_two hargs
  cases str_inv h1
  cases str_inv h2
  refine .inl ⟨w, hf _ _, (h ⟨s.toArray⟩ c w).mono fun e w' hh => ?_, rfl⟩
  obtain ⟨rfl, rfl⟩ := hh
  exact ⟨G, .refl _ _, hH, _, rfl, .int _ _⟩
theorem ext_count {f : FuncId} (hf : Enters P f) (h : ∀ (s : ByteArray) (c : UInt8) (w : World), Calls P f #[.string s, .string ⟨#[c]⟩] w fun e w' => e = .returned (.int .i64 (Lib.countByte s.data.toList c)) ∧ w' = w) : ExtOk P f countE := by
  intro xs H v H' hg G w vs hH hargs
  unfold countE at hg
  split at hg <;> simp only [Option.some.injEq, Prod.mk.injEq, reduceCtorEq] at hg
  rename_i s c
  obtain ⟨rfl, rfl⟩ := hg
  obtain ⟨u, u', rfl, h1, h2⟩ := args_two hargs
  cases str_inv h1
  cases str_inv h2
  refine .inl ⟨w, hf _ _, (h ⟨s.toArray⟩ c w).mono fun e w' hh => ?_, rfl⟩
  obtain ⟨rfl, rfl⟩ := hh
  exact ⟨G, .refl _ _, hH, _, rfl, .int _ _⟩
theorem ext_trim {f : FuncId} (hf : Enters P f) (h : ∀ (s cutset : ByteArray) (w : World), s.size ≤ 9223372036854775807 → cutset.size < 4294967281 → (∀ (j : Nat) (b : UInt8), cutset.data.toList[j]? = some b → b.toNat < 128) →
    Calls P f #[.string s, .string cutset] w fun e w' => e = .returned (.string ⟨(Lib.trimS s.data.toList cutset.data.toList).toArray⟩) ∧ Below w.heap.size w w') : ExtOk P f trimE := by
  intro xs H v H' hg G w vs hH hargs
  unfold trimE at hg
  split at hg
  · rename_i s cs
    split at hg <;> simp only [Option.some.injEq, Prod.mk.injEq, reduceCtorEq] at hg
    rename_i hc
    obtain ⟨rfl, rfl⟩ := hg
    obtain ⟨u, u', rfl, h1, h2⟩ := args_two hargs
    cases str_inv h1
    cases str_inv h2
    refine .inl ⟨w, hf _ _, (h ⟨s.toArray⟩ ⟨cs.toArray⟩ w hc.1 hc.2.1 fun j b hb => ?_).mono fun e w' hh => ?_, rfl⟩
    · have := List.all_eq_true.1 hc.2.2 b (List.mem_of_getElem? hb)
      simpa using this
    · obtain ⟨rfl, hB⟩ := hh
      obtain ⟨s1, s2⟩ := below_step hH hB
      exact ⟨G, s1, s2, _, rfl, .str _⟩
  · cases hg

theorem strsA_inv : ∀ {l : List AV} {ss : List (List UInt8)}, strsA l = some ss → l = ss.map .str
  | [], ss, h => by simp only [strsA, Option.some.injEq] at h; subst h; rfl
  | x :: l, ss, h => by
    cases x with
    | str s =>
      simp only [strsA] at h
      cases hl : strsA l with
      | none => rw [hl] at h; cases h
      | some ss' =>
        rw [hl] at h
        simp only [Option.map_some, Option.some.injEq] at h
        subst h
        rw [strsA_inv hl]; rfl
    | _ => cases h

theorem ext_join {f : FuncId} (hf : Enters P f)
    (h0 : ∀ (a : Option Addr) (c : Nat) (sep : ByteArray) (w : World), Calls P f #[.slice a 0 c, .string sep] w fun e w' => e = .returned (.string ⟨#[]⟩) ∧ w' = w)
    (h : ∀ (bk o c : Nat) (xs : List ByteArray) (sep : ByteArray) (w : World), (∀ (j : Nat) x, xs[j]? = some x → w.cell? ⟨bk, o + j, none⟩ = some (.string x)) → bk < w.heap.size → xs.length ≤ 140737488355328 → xs.length ≤ c →
      (Lib.join (xs.map (·.data.toList)) sep.data.toList).length ≤ 140737488355328 →
      Calls P f #[.slice (some ⟨bk, o, none⟩) xs.length c, .string sep] w fun e w' => e = .returned (.string ⟨(Lib.join (xs.map (·.data.toList)) sep.data.toList).toArray⟩) ∧ Below w.heap.size w w') : ExtOk P f joinE := by
  intro xs H v H' hg G w vs hH hargs
  unfold joinE at hg
  split at hg
  · rename_i k l sep
    split at hg
    · rename_i ss hss
      split at hg <;> simp only [Option.some.injEq, Prod.mk.injEq, reduceCtorEq] at hg
      rename_i hc
      obtain ⟨rfl, rfl⟩ := hg
      obtain ⟨u, u', rfl, h1, h2⟩ := args_two hargs
      cases str_inv h2
      have hl := strsA_inv hss
      cases h1 with
      | sl0 a c _ _ _ =>
        have : ss = [] := by cases ss with | nil => rfl | cons s ss => cases hl
        subst this
        refine .inl ⟨w, hf _ _, (h0 a c ⟨sep.toArray⟩ w).mono fun e w' hh => ?_, rfl⟩
        obtain ⟨rfl, rfl⟩ := hh
        exact ⟨G, .refl _ _, hH, _, rfl, .str _⟩
      | sl a c _ _ es us hne hlc hcm hs hes he0 hd hlim hcell hrep hfull hown =>
        subst hl
        have hlen : 0 < ss.length := by cases ss with | nil => exact absurd rfl hne | cons s ss => simp
        have he1 : es = 1 := by
          have := hes 0 (by simpa using hlen)
          simp only [List.getElem_map, AV.cells, List.length_singleton] at this
          exact this.symm
        subst he1
        have hval : ∀ i (hi : i < ss.length), us i 0 = .string ⟨ss[i].toArray⟩ := fun i hi => by
          have := hrep i (by simpa using hi) 0 (by simp [AV.cells])
          simp only [List.getElem_map, AV.cells, List.getElem_cons_zero] at this
          exact str_inv this
        obtain ⟨bk, o, spot⟩ := a
        simp only at hs
        subst hs
        have hc0 : ∀ i (hi : i < ss.length), w.cell? ⟨bk, o + i, none⟩ = some (.string ⟨ss[i].toArray⟩) := fun i hi => by
          have := hcell i (by simpa using hi) 0 (by omega)
          rw [hval i hi] at this
          rw [← this]
          simp [Addr.add]
          split <;> simp_all
        have hbk : bk < w.heap.size := by
          have := hc0 0 hlen
          unfold World.cell? at this
          split at this
          · rename_i hh; exact (Array.getElem?_eq_some_iff.1 hh).1
          · cases this
        have e1 : (ss.map (fun s => (⟨s.toArray⟩ : ByteArray))).map (fun x => x.data.toList) = ss := by
          rw [List.map_map]; conv => rhs; rw [← List.map_id ss]
          exact List.map_congr_left fun s _ => rfl
        have hcall := h bk o c (ss.map fun s => ⟨s.toArray⟩) ⟨sep.toArray⟩ w (fun j x hx => by
            rw [List.getElem?_map] at hx
            cases hj : ss[j]? with
            | none => rw [hj] at hx; cases hx
            | some s =>
              rw [hj] at hx
              simp only [Option.map_some, Option.some.injEq] at hx
              subst hx
              obtain ⟨hj1, rfl⟩ := List.getElem?_eq_some_iff.1 hj
              exact hc0 j hj1) hbk (by simpa using hc.1) (by simpa using hlc) (by rw [e1]; exact hc.2)
        rw [e1] at hcall
        simp only [List.length_map] at hcall ⊢
        refine .inl ⟨w, hf _ _, hcall.mono fun e w' hh => ?_, rfl⟩
        obtain ⟨rfl, hB⟩ := hh
        obtain ⟨s1, s2⟩ := below_step hH hB
        exact ⟨G, s1, s2, _, rfl, .str _⟩
    · cases hg
  · cases hg

end Go.Aa
