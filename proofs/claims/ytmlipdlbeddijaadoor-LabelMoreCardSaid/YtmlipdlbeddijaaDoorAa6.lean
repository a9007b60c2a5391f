/-
  WHAT THE ABSTRACT OPERATIONS ANSWER, THE MACHINE's ANSWER TOO: slices, strings, fields, building.
-/
import Derived.Test.YtmlipdlbeddijaaDoorAa5
set_option linter.unusedVariables false
set_option linter.unusedSimpArgs false
namespace Go.Aa
open Go.RowKit

variable {P : Program} {G G' : Ghost} {w w' : World}

theorem run_un {op : UnOp} {x z : AV} {u : Value} (hx : Rep G w u x) (h : unA op x = some z) : ∃ r, (Op.unary op u).run P w = .ok r w ∧ Rep G w r z := by
  cases x <;> simp only [unA, reduceCtorEq] at h <;> cases op <;> simp only [Option.some.injEq, reduceCtorEq] at h <;> subst h <;> cases hx
  · exact ⟨_, rfl, .bool _⟩
  · exact ⟨_, rfl, .int _ _⟩
  · exact ⟨_, rfl, .flt _⟩

theorem run_len {st : Bool} {x z : AV} {u : Value} {t ty : TypeId} (hx : Rep G w u x) (h : lenA st x = some z) (ht : if st then P.underlying t = some .string else ∃ e, P.underlying t = some (.slice e)) :
    ∃ r, (Builtin.len_ #[t] ty #[u]).run P w = .ok r w ∧ Rep G w r z := by
  cases st <;> cases x <;> simp only [lenA, reduceCtorEq, Option.some.injEq] at h <;> subst h
  · obtain ⟨e, ht⟩ := ht
    rename_i k l
    have hr : ∀ a n c, (Builtin.len_ #[t] ty #[.slice a n c]).run P w = .ok (.int .i64 n) w := by
      intro a n c
      simp [Builtin.len_, run_underlying ht, goInt]
    cases hx with
    | sl0 => exact ⟨_, hr _ _ _, .int _ _⟩
    | sl => exact ⟨_, hr _ _ _, .int _ _⟩
  · obtain ⟨e, ht⟩ := ht
    have hr : ∀ a n c, (Builtin.len_ #[t] ty #[.slice a n c]).run P w = .ok (.int .i64 n) w := by
      intro a n c
      simp [Builtin.len_, run_underlying ht, goInt]
    cases hx
    exact ⟨_, hr _ _ _, .int _ _⟩
  · rename_i s
    cases hx
    have hs : (⟨s.toArray⟩ : ByteArray).size = s.length := by simp [ByteArray.size]
    have ht' : P.underlying t = some .string := ht
    refine ⟨.int .i64 s.length, ?_, .int _ _⟩
    rw [← hs]
    simp only [Builtin.len_, List.getElem?_toArray, List.getElem?_cons_zero, Sem.run_bind, run_underlying ht', Result.andThen_ok, goInt]
    rfl

/-- The cells of element i of a slice. -/
theorem Rep.elem {u : Value} {k : SK} {l : List AV} {i : Nat} (hx : Rep G w u (.sl k l)) (hi : i < l.length) :
    ∃ (a : Addr) (c es : Nat) (us : Nat → Nat → Value), u = .slice (some a) l.length c ∧ a.spot = none ∧ l.length ≤ c ∧ c ≤ 9223372036854775807 ∧ (∀ j (hj : j < l.length), (l[j]).cells.length = es) ∧ 0 < es ∧ a.off + l.length * es ≤ G.lim a.block ∧
      (∀ x ∈ l, ∀ y ∈ x.cells, AV.Data y) ∧ (∀ i, i < l.length → ∀ j, j < es → w.cell? (a.add (i * es + j)) = some (us i j)) ∧ (∀ i (hi : i < l.length) j (hj : j < (l[i]).cells.length), Rep G w (us i j) ((l[i]).cells[j])) := by
  cases hx with
  | sl0 => simp at hi
  | sl a c k l es us hl hc hcm hs hes he0 hd hlim hcell hrep hfull hown => exact ⟨a, c, es, us, rfl, hs, hc, hcm, hes, he0, hlim, hd, hcell, hrep⟩

theorem cells_of_N {n : Nat} {x : AV} (h : cellsN n x = true) : x.cells.length = n := by
  cases x <;> simp [cellsN] at h <;> simp [AV.cells, h]

theorem row_le {i n es : Nat} (h : i < n) : i * es + es ≤ n * es := by
  have := Nat.mul_le_mul_right es (show i + 1 ≤ n from h)
  rw [Nat.add_mul] at this; omega

theorem add_add_off {a : Addr} (hs : a.spot = none) (m n : Nat) : (a.add m).add n = a.add (m + n) := by
  rw [add_off hs, add_off rfl, add_off hs]
  simp [Nat.add_assoc]

theorem idx_ref {u : Value} {k : SK} {l : List AV} {i es : Nat} {e : AV} (hx : Rep G w u (.sl k l)) (hi : l[i]? = some e) (he : cellsN es e = true) :
    ∃ (a : Addr) (c : Nat), u = .slice (some a) l.length c ∧ Rep G w (.pointer (some (a.add (i * es)))) (.ref e.cells) := by
  obtain ⟨hlt, hie⟩ := List.getElem?_eq_some_iff.1 hi
  obtain ⟨a, c, es', us, rfl, hs, hc, hcm, hes, he0, hlim, hd, hcell, hrep⟩ := hx.elem hlt
  have hes' : es' = es := by rw [← hes i hlt, hie]; exact cells_of_N he
  subst hes'
  have hcl : e.cells.length = es' := cells_of_N he
  have hr := row_le (es := es') hlt
  refine ⟨a, c, rfl, .ref _ _ (us i) (by rw [add_off hs]) (fun y hy => hd e (hie ▸ List.getElem_mem hlt) y hy) ?_ (fun j hj => ?_) (fun j hj => ?_)⟩
  · rw [add_off hs, hcl]; simp only; omega
  · rw [add_add_off hs]; exact hcell i hlt j (by omega)
  · have := hrep i hlt j (by rw [hie]; exact hj)
    simp only [hie] at this
    exact this

theorem run_idx {x y z : AV} {u v : Value} {t e : TypeId} {es : Nat} (hx : Rep G w u x) (hy : Rep G w v y) (h : idxA es x y = some z) (ht : P.underlying t = some (.slice e)) (he : sizeT P e = some es) :
    ∃ r, (Instr.indexAt t u v).run P w = .ok r w ∧ Rep G w r z := by
  have hsz : (sizeOf e).run P w = .ok es w := by
    simp only [sizeT, Option.map_eq_some_iff] at he
    obtain ⟨i, hi, rfl⟩ := he
    simp [sizeOf, typeInfo, hi]
  have hel : P.elem t = e := by simp [Program.elem, ht]
  unfold idxA at h
  split at h
  · rename_i k l kk i
    split at h
    · rename_i h0
      split at h
      · rename_i el hel'
        split at h
        · rename_i hN
          simp only [Option.some.injEq] at h
          subst h
          obtain ⟨a, c, rfl, hr⟩ := idx_ref hx hel' hN
          cases hy
          obtain ⟨hlt, _⟩ := List.getElem?_eq_some_iff.1 hel'
          refine ⟨_, ?_, hr⟩
          rw [run_indexAt_slice _ _ _ _ _ _ _ (by rw [hel]; exact ht), if_pos ⟨h0, by omega⟩, hel, hsz]
          rfl
        · cases h
      · cases h
    · cases h
  · rename_i k off n kk i
    split at h
    · rename_i h0
      simp only [Option.some.injEq] at h
      subst h
      cases hx with
      | msl _ _ _ c hk hc =>
      cases hy
      refine ⟨_, ?_, .ptr k (off + i.toNat * es) hk⟩
      rw [run_indexAt_slice _ _ _ _ _ _ _ (by rw [hel]; exact ht), if_pos h0, hel, hsz]
      simp only [Result.andThen_ok]
      rw [add_off rfl]
    · cases h
  · cases h

theorem run_idxs {x y z : AV} {u v : Value} {t : TypeId} (hx : Rep G w u x) (hy : Rep G w v y) (h : idxsA x y = some z) (ht : P.underlying t = some .string) :
    ∃ r, (Instr.index t u v).run P w = .ok r w ∧ Rep G w r z := by
  unfold idxsA at h
  split at h
  · rename_i s kk i
    split at h
    · rename_i h0
      split at h
      · rename_i b hb
        simp only [Option.some.injEq] at h
        subst h
        cases hx; cases hy
        refine ⟨.int .u8 b.toNat, ?_, .int _ _⟩
        have : (⟨s.toArray⟩ : ByteArray)[i.toNat]? = some b := by
          obtain ⟨hlt, he⟩ := List.getElem?_eq_some_iff.1 hb
          have hlt' : i.toNat < (⟨s.toArray⟩ : ByteArray).size := by simpa [ByteArray.size] using hlt
          rw [getElem?_pos (⟨s.toArray⟩ : ByteArray) i.toNat hlt']
          simp [← he, ByteArray.getElem_eq_getElem_data]
        simp [Instr.index, asIntOf, run_underlying ht, h0, this]
      · cases h
    · cases h
  · cases h

theorem run_fld {x z : AV} {u : Value} {s : TypeId} {i n : Nat} {f : Field} (hx : Rep G w u x) (h : fldA f.offset n x = some z) (hf : fieldT P s i = some f) (hn : sizeT P f.type = some n) (h0 : n ≠ 0) :
    ∃ r, (Instr.fieldAt s u i).run P w = .ok r w ∧ Rep G w r z := by
  have hsz : (sizeOf f.type).run P w = .ok n w := by
    simp only [sizeT, Option.map_eq_some_iff] at hn
    obtain ⟨i, hi, rfl⟩ := hn
    simp [sizeOf, typeInfo, hi]
  obtain ⟨fs, hu, hfi⟩ : ∃ fs, P.underlying s = some (.struct fs) ∧ fs[i]? = some f := by
    unfold fieldT at hf
    split at hf
    · exact ⟨_, ‹_›, hf⟩
    · cases hf
  have hrun : ∀ a : Addr, (Instr.fieldAt s (.pointer (some a)) i).run P w = .ok (.pointer (some (a.add f.offset))) w := by
    intro a
    simp [Instr.fieldAt, run_underlying hu, hfi, Instr.sureAddr, fieldPlace, hsz, h0]
  unfold fldA at h
  split at h
  · rename_i k o
    simp only [Option.some.injEq] at h
    subst h
    cases hx with
    | ptr _ _ hk =>
    refine ⟨_, hrun _, ?_⟩
    rw [add_off rfl]
    exact .ptr _ _ hk
  · rename_i cs
    split at h
    · rename_i hle
      simp only [Option.some.injEq] at h
      subst h
      cases hx with
      | ref a _ us hs hd hlim hcell hrep =>
      have hlen : ((cs.drop f.offset).take n).length = n := by simp; omega
      refine ⟨_, hrun _, .ref _ _ (fun j => us (f.offset + j)) (by rw [add_off hs]) (fun y hy => hd y (List.mem_of_mem_drop (List.mem_of_mem_take hy))) ?_ (fun j hj => ?_) (fun j hj => ?_)⟩
      · rw [add_off hs, hlen]; simp only; omega
      · rw [hlen] at hj
        rw [add_add_off hs]; exact hcell _ (by omega)
      · rw [hlen] at hj
        have := hrep (f.offset + j) (by omega)
        simpa using this
    · cases h
  · cases h

theorem run_fldv {x z : AV} {u : Value} {s : TypeId} {i n : Nat} {g : Bool} {f : Field} (hx : Rep G w u x) (h : fldvA g f.offset n x = some z) (hf : fieldT P s i = some f) (hg : aggT P f.type = some g) (hn : sizeT P f.type = some n) (h1 : ¬ (g = false ∧ n ≠ 1)) :
    ∃ r, (Instr.field s u i).run P w = .ok r w ∧ Rep G w r z := by
  have hsz : (sizeOf f.type).run P w = .ok n w := by
    simp only [sizeT, Option.map_eq_some_iff] at hn
    obtain ⟨i, hi, rfl⟩ := hn
    simp [sizeOf, typeInfo, hi]
  have hag : (isAgg f.type).run P w = .ok g w := by
    unfold aggT at hg
    unfold isAgg
    split at hg <;> simp only [Option.some.injEq, reduceCtorEq] at hg <;> subst hg
    · rename_i e; simp [run_underlying e]
    · rename_i e; simp [run_underlying e]
    · rename_i d e1 e2 e
      simp only [Sem.run_bind, run_underlying e, Result.andThen_ok]
      cases d <;> first | rfl | exact absurd e (e1 _) | exact absurd e (e2 _ _)
  obtain ⟨fs, hu, hfi⟩ : ∃ fs, P.underlying s = some (.struct fs) ∧ fs[i]? = some f := by
    unfold fieldT at hf
    split at hf
    · exact ⟨_, ‹_›, hf⟩
    · cases hf
  unfold fldvA at h
  split at h
  · rename_i cs
    split at h
    · rename_i hle
      cases hx with
      | agg us _ hn' hr =>
      cases g with
      | true =>
        simp only [if_true, Option.some.injEq] at h
        subst h
        refine ⟨.agg (us.extract f.offset (f.offset + n)), ?_, .agg _ _ (by simp; omega) fun j j1 j2 => ?_⟩
        · simp [Instr.field, run_underlying hu, hfi, part, hag, hsz, asAgg]
        · have := hr (f.offset + j) (by simp at j1; omega) (by simp at j2; omega)
          simpa using this
      | false =>
        simp only [Bool.false_eq_true, if_false] at h
        obtain ⟨hlt, hz⟩ := List.getElem?_eq_some_iff.1 h
        have hlt' : f.offset < us.size := by omega
        refine ⟨us[f.offset], ?_, hz ▸ hr _ hlt' hlt⟩
        simp [Instr.field, run_underlying hu, hfi, part, hag, asAgg, Array.getElem?_eq_getElem hlt']
    · cases h
  · cases h

theorem run_extract {x z : AV} {u : Value} {i : Nat} (hx : Rep G w u x) (h : extractA i x = some z) : ∃ r, (Instr.extract u i).run P w = .ok r w ∧ Rep G w r z := by
  unfold extractA at h
  split at h
  · rename_i vs
    cases hx with
    | tuple us _ hn hr =>
    obtain ⟨hlt, hz⟩ := List.getElem?_eq_some_iff.1 h
    have hlt' : i < us.size := by omega
    exact ⟨us[i], by simp [Instr.extract, Array.getElem?_eq_getElem hlt'], hz ▸ hr _ hlt' hlt⟩
  · cases h

theorem run_mm {mx : Bool} {x y z : AV} {u v : Value} {as : Array TypeId} {ty : TypeId} (hx : Rep G w u x) (hy : Rep G w v y) (h : mmA mx x y = some z) :
    ∃ r, (if mx then Builtin.max_ as ty #[u, v] else Builtin.min_ as ty #[u, v]).run P w = .ok r w ∧ Rep G w r z := by
  unfold mmA at h
  split at h
  · split at h
    · rename_i k a k' b hk
      simp only [Option.some.injEq] at h
      subst h; subst hk
      cases hx; cases hy
      cases mx
      · exact ⟨_, rfl, .int _ _⟩
      · exact ⟨_, rfl, .int _ _⟩
    · cases h
  · cases h


/-! ### Slices of slices and strings -/
theorem Rep.shut1 {v : Value} {x : AV} (h : Rep G w v x) : Rep G w v (shut1 x) := by
  cases h <;> try (simp only [Go.Aa.shut1]; first | assumption | (constructor <;> assumption))
  case sl0 a c k hc ht =>
    cases k with
    | sh => exact .sl0 _ _ _ hc ht
    | full => exact .sl0 _ _ _ (fun e => by cases e) (fun t e => by cases e)
    | own t => exact absurd rfl (ht t)
  case sl a c k l es us hl hc hcm hs hes he0 hd hlim hcell hrep hfull hown =>
    cases k with
    | sh => exact .sl a c _ l es us hl hc hcm hs hes he0 hd hlim hcell hrep hfull hown
    | full => exact .sl a c _ l es us hl hc hcm hs hes he0 hd hlim hcell hrep (fun e => by cases e) (fun t e => by cases e)
    | own t => exact .sl a c _ l es us hl hc hcm hs hes he0 hd hlim hcell hrep (fun e => by cases e) (fun t e => by cases e)

theorem bound_run {m m' : Nat} {x : Option AV} {d n : Nat} {v : Option Value} (h : boundA m x d = some n) (hm : m ≤ m') (hx : ∀ y, x = some y → ∃ u, v = some u ∧ Rep G w u y) (hn : x = none → v = none) :
    (x = none ∧ v = none ∧ n = d) ∨ ∃ u, v = some u ∧ n ≤ m ∧ ∀ code, (Instr.sliceBound u m' code).run P w = .ok n w := by
  unfold boundA at h
  split at h
  · simp only [Option.some.injEq] at h
    exact .inl ⟨rfl, hn rfl, h.symm⟩
  · rename_i k i
    split at h
    · rename_i hb
      simp only [Option.some.injEq] at h
      obtain ⟨u, hu, hr⟩ := hx _ rfl
      cases hr
      refine .inr ⟨_, hu, by omega, fun code => ?_⟩
      have hb' : 0 ≤ i ∧ i ≤ (m' : Int) := ⟨hb.1, by omega⟩
      simp [Instr.sliceBound, asIntOf, hb', h]
    · cases h
  · cases h

/-- The bounds of 'x[lo:hi]' at length n and capacity c. -/
theorem bounds_run {sl : Bool} {n c l h : Nat} {lo hi : Option AV} {vl vh : Option Value} (hc : n ≤ c) (hh : boundA n hi n = some h) (hl : boundA h lo 0 = some l)
    (rl : ∀ y, lo = some y → ∃ u, vl = some u ∧ Rep G w u y) (nl : lo = none → vl = none) (rh : ∀ y, hi = some y → ∃ u, vh = some u ∧ Rep G w u y) (nh : hi = none → vh = none) :
    (Instr.sliceBounds sl n c vl vh none).run P w = .ok (l, h, c) w ∧ l ≤ h ∧ h ≤ n := by
  have H := bound_run (P := P) hh hc rh nh
  have hle : h ≤ n := by
    rcases H with ⟨_, _, e⟩ | ⟨_, _, e, _⟩ <;> omega
  have L := bound_run (P := P) hl (Nat.le_refl h) rl nl
  have lle : l ≤ h := by
    rcases L with ⟨_, _, e⟩ | ⟨_, _, e, _⟩ <;> omega
  refine ⟨?_, lle, hle⟩
  unfold Instr.sliceBounds
  rcases H with ⟨_, rfl, rfl⟩ | ⟨uh, rfl, _, eh⟩ <;> rcases L with ⟨_, rfl, rfl⟩ | ⟨ul, rfl, _, el⟩
  · simp
  · simp [el]
  · simp [eh]
  · simp [eh, el]

theorem slice_sl {k : SK} {xs : List AV} {u : Value} {es l h : Nat} (hx : Rep G w u (.sl k xs)) (hlh : l ≤ h) (hh : h ≤ xs.length) (he : ∀ e, xs[l]? = some e → cellsN es e = true) :
    ∃ (a : Option Addr) (c : Nat), u = .slice a xs.length c ∧ xs.length ≤ c ∧ Rep G w (.slice (if c = l then a else a.map (·.add (l * es))) (h - l) (c - l)) (.sl .sh ((xs.take h).drop l)) := by
  have key : ∀ (a : Option Addr) (n c : Nat), n = 0 → Rep G w (.slice a n c) (.sl .sh []) := fun a n c hn => by
    subst hn; exact .sl0 _ _ _ (fun e => by cases e) (fun t e => by cases e)
  cases hx with
  | sl0 a c _ hc ht =>
    refine ⟨a, c, rfl, Nat.zero_le _, ?_⟩
    simp only [List.length_nil] at hh
    have : ((([] : List AV).take h).drop l) = [] := by simp
    rw [this]
    exact key _ _ _ (by omega)
  | sl a c _ _ es' us hl hc hcm hs hes he0 hd hlim hcell hrep hfull hown =>
    refine ⟨some a, c, rfl, hc, ?_⟩
    rcases Nat.lt_or_ge l h with hlt | hge
    · have hll : l < xs.length := by omega
      have hes' : es' = es := by
        rw [← hes l hll]
        exact cells_of_N (he _ (List.getElem?_eq_getElem hll))
      subst hes'
      have hlen : ((xs.take h).drop l).length = h - l := by simp; omega
      have hcl : ¬ c = l := by omega
      rw [if_neg hcl]
      have := Rep.sl (G := G) (w := w) (a.add (l * es')) (c - l) .sh ((xs.take h).drop l) es' (fun i => us (l + i)) (by intro e; rw [e] at hlen; simp at hlen; omega) (by rw [hlen]; omega) (by omega) (by rw [add_off hs])
        (fun i hi => by
          have := hes (l + i) (by rw [hlen] at hi; omega)
          simpa using this) he0
        (fun x hx => hd x (List.mem_of_mem_take (List.mem_of_mem_drop hx)))
        (by
          rw [add_off hs, hlen]; simp only
          have h1 : l * es' + (h - l) * es' = h * es' := by rw [← Nat.add_mul]; congr 1; omega
          have h2 : h * es' ≤ xs.length * es' := Nat.mul_le_mul_right _ hh
          omega)
        (fun i hi j hj => by
          rw [hlen] at hi
          rw [add_add_off hs, ← Nat.add_assoc, ← Nat.add_mul]
          exact hcell (l + i) (by omega) j hj)
        (fun i hi j hj => by
          have hi' : i < h - l := by rw [hlen] at hi; exact hi
          have e : ((xs.take h).drop l)[i] = xs[l + i] := by simp
          have := hrep (l + i) (by omega) j (by rw [e] at hj; exact hj)
          simpa [e] using this)
        (fun e => by cases e) (fun t e => by cases e)
      rw [hlen] at this
      exact this
    · have : ((xs.take h).drop l) = [] := List.drop_eq_nil_of_le (by simp; omega)
      rw [this]
      exact key _ _ _ (by omega)

theorem run_slice {x z : AV} {lo hi mx : Option AV} {u : Value} {vl vh vm : Option Value} {t : TypeId} {es : Nat} (hx : Rep G w u x) (h : sliceA es x lo hi mx = some z)
    (ht : (P.underlying t = some .string ∧ es = 0) ∨ ∃ e, P.underlying t = some (.slice e) ∧ sizeT P e = some es ∧ es ≠ 0)
    (rl : ∀ y, lo = some y → ∃ u, vl = some u ∧ Rep G w u y) (nl : lo = none → vl = none) (rh : ∀ y, hi = some y → ∃ u, vh = some u ∧ Rep G w u y) (nh : hi = none → vh = none)
    (rm : ∀ y, mx = some y → ∃ u, vm = some u ∧ Rep G w u y) (nm : mx = none → vm = none) :
    ∃ r, (Instr.sliceAt t u vl vh vm).run P w = .ok r w ∧ Rep G w r z := by
  have hsl : es ≠ 0 → ∃ e, P.underlying t = some (.slice e) ∧ (sizeOf e).run P w = .ok es w := by
    intro hne
    rcases ht with ⟨_, h0⟩ | ⟨e, h1, h2, _⟩
    · exact absurd h0 hne
    · refine ⟨e, h1, ?_⟩
      simp only [sizeT, Option.map_eq_some_iff] at h2
      obtain ⟨i, hi, rfl⟩ := h2
      simp [sizeOf, typeInfo, hi]
  have hstep : ∀ (a : Option Addr) (n c l hh : Nat) (e : TypeId), P.underlying t = some (.slice e) → (sizeOf e).run P w = .ok es w → (Instr.sliceBounds true n c vl vh none).run P w = .ok (l, hh, c) w →
      (Instr.sliceAt t (.slice a n c) vl vh none).run P w = .ok (.slice (if c = l then a else a.map (·.add (l * es))) (hh - l) (c - l)) w := by
    intro a n c l hh e h1 h2 h3
    simp [Instr.sliceAt, Instr.slice, run_underlying h1, h2, h3]
  unfold sliceA at h
  split at h
  · rename_i s
    split at h
    · rename_i h0
      have hst : P.underlying t = some .string := by
        rcases ht with ⟨h1, _⟩ | ⟨e, _, _, h1⟩
        · exact h1
        · exact absurd h0 h1
      unfold sliceStr at h
      split at h
      · cases h
      · rename_i hh e1
        split at h
        · cases h
        · rename_i l e2
          simp only [Option.some.injEq] at h
          subst h
          cases hx
          have hv : vm = none := nm rfl
          subst hv
          have hs : (⟨s.toArray⟩ : ByteArray).size = s.length := by simp [ByteArray.size]
          obtain ⟨hb, h1, h2⟩ := bounds_run (P := P) (sl := false) (Nat.le_refl s.length) e1 e2 rl nl rh nh
          have e : (⟨s.toArray⟩ : ByteArray).extract l hh = ⟨((s.take hh).drop l).toArray⟩ := by
            apply ByteArray.ext
            apply Array.ext'
            simp [List.drop_take]
          refine ⟨.string ((⟨s.toArray⟩ : ByteArray).extract l hh), ?_, by rw [e]; exact .str _⟩
          rw [← hs] at hb
          simp only [Instr.sliceAt, Instr.slice, Sem.run_bind, run_underlying hst, Result.andThen_ok, hb, Option.isSome_none, Bool.false_eq_true, if_false]
          rfl
    · cases h
  · rename_i k xs
    split at h
    · cases h
    · rename_i hne
      obtain ⟨e, h1, h2⟩ := hsl hne
      have hv : vm = none := nm rfl
      subst hv
      unfold sliceSl at h
      split at h
      · cases h
      · rename_i hh e1
        split at h
        · cases h
        · rename_i l e2
          have hz : ∃ c a, u = .slice a xs.length c ∧ xs.length ≤ c := by
            cases hx with
            | sl0 a c => exact ⟨c, a, rfl, Nat.zero_le _⟩
            | sl a c _ _ _ _ _ hc => exact ⟨c, some a, rfl, hc⟩
          obtain ⟨c0, a0, hu, hc0⟩ := hz
          obtain ⟨hb, hl1, hl2⟩ := bounds_run (P := P) (sl := true) hc0 e1 e2 rl nl rh nh
          split at h
          · rename_i hn
            simp only [Option.some.injEq] at h
            subst h
            have hll : xs.length ≤ l := by simpa using hn
            subst hu
            refine ⟨_, hstep _ _ _ _ _ e h1 h2 hb, ?_⟩
            have : hh - l = 0 := by omega
            rw [this]
            exact .sl0 _ _ _ (fun e => by cases e) (fun t e => by cases e)
          · rename_i el hn
            split at h
            · rename_i hN
              simp only [Option.some.injEq] at h
              subst h
              obtain ⟨a, c, hu', hc, hr⟩ := slice_sl (l := l) (h := hh) (es := es) hx hl1 hl2 (fun e' he' => by rw [hn] at he'; cases he'; exact hN)
              rw [hu] at hu'
              simp only [Value.slice.injEq] at hu'
              obtain ⟨rfl, _, rfl⟩ := hu'
              subst hu
              exact ⟨_, hstep _ _ _ _ _ e h1 h2 hb, hr⟩
            · cases h
  · rename_i k xs k' m
    split at h
    · cases h
    · rename_i hne
      obtain ⟨e, h1, h2⟩ := hsl hne
      split at h
      · rename_i hm
        subst hm
        split at h
        · rename_i e1 e2
          simp only [Option.some.injEq] at h
          subst h
          obtain ⟨um, rfl, hum⟩ := rm _ rfl
          cases hum
          have H := bound_run (P := P) (m' := 0) e1 (Nat.le_refl 0) rh nh
          have L := bound_run (P := P) (m' := 0) e2 (Nat.le_refl 0) rl nl
          rcases H with ⟨_, _, e⟩ | ⟨uh, rfl, _, eh⟩
          · cases e
          · have hz : ∃ c a n, u = .slice a n c := by
              cases hx with
              | sl0 a c => exact ⟨c, a, _, rfl⟩
              | sl a c => exact ⟨c, some a, _, rfl⟩
            obtain ⟨c, a, n, rfl⟩ := hz
            have hm : ∀ code, (Instr.sliceBound (.int k' 0) c code).run P w = .ok 0 w := fun code => by simp [Instr.sliceBound, asIntOf]
            have hb : (Instr.sliceBounds true n c vl (some uh) (some (.int k' 0))).run P w = .ok (0, 0, 0) w := by
              unfold Instr.sliceBounds
              rcases L with ⟨_, rfl, _⟩ | ⟨ul, rfl, _, el⟩
              · simp [hm, eh]
              · simp [hm, eh, el]
            refine ⟨.slice a 0 0, ?_, .sl0 _ _ _ (fun _ => rfl) (fun t e => by cases e)⟩
            simp [Instr.sliceAt, Instr.slice, run_underlying h1, h2, hb]
        · cases h
      · cases h
  · rename_i k off n
    split at h
    · cases h
    · rename_i hne
      obtain ⟨e, h1, h2⟩ := hsl hne
      have hv : vm = none := nm rfl
      subst hv
      unfold sliceM at h
      split at h
      · cases h
      · rename_i hh e1
        split at h
        · cases h
        · rename_i l e2
          split at h
          · rename_i hln
            simp only [Option.some.injEq] at h
            subst h
            cases hx with
            | msl _ _ _ c hk hc =>
            obtain ⟨hb, hl1, hl2⟩ := bounds_run (P := P) (sl := true) hc e1 e2 rl nl rh nh
            refine ⟨_, hstep _ _ _ _ _ e h1 h2 hb, ?_⟩
            rw [if_neg (by omega)]
            simp only [Option.map_some]
            rw [add_off rfl]
            exact .msl _ _ _ _ hk (by omega)
          · cases h
  · cases h

end Go.Aa
