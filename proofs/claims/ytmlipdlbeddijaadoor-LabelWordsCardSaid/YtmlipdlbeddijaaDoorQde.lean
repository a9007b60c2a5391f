/-
  WHAT THE LAW LEANS ON, part 5 of 6: a machine of values and its soundness; the functions of the law upon it; what they come to.
-/
import Derived.Test.YtmlipdlbeddijaaDoorQdd
import Derived.ChangeShapes
import Derived.ChangeReads
import Derived.ChangeOld
import Derived.ProofKit
import Derived.Carry
import Derived.DataElems
import Derived.Laws.Pointers
import Derived.Lib.SlTrimSet
import Derived.Shelf.Strings.SlTrimAscii
import Derived.Shelf.Strings.OnBuilder
import Derived.Shelf.Strings.Count
import Derived.Shelf.Strings.Search3
import Derived.Test.YtmlipdlbeddijaaDoorChecked
import Derived.Tactics
import Derived.Tactics2
import Derived.Defers
import Derived.Recover
import Derived.Sort.Walk0


set_option linter.unusedVariables false
set_option linter.unusedSimpArgs false
namespace Go.Aa
open Go.RowKit Go.ChangeShapes Go.WideShapes Go.ChangeAt
def fltOf (b : Nat) : AV := if (FloatKind.f64.format.read b).isNaN = true then .nan else .flt b
theorem fltOf_rep {G : Ghost} {w : World} (b : Nat) : Rep G w (.float .f64 b) (fltOf b) := by
  unfold fltOf
  split
  · rename_i h; exact .nan b h
  · exact .flt b
def tilesT (P : Program) : Nat → List Field → Nat → Bool
  | off, [], tot => off == tot
  | off, f :: fs, tot => (f.offset == off) && tilesT P (off + P.cellsOf f.type) fs tot
def isAgg (P : Program) (t : TypeId) : Bool := match P.underlying t with
  | some (.struct _) => true
  | _ => false
def plainT (P : Program) : Nat → TypeId → Bool
  | 0, _ => false
  | n + 1, t =>
    match P.underlying t with
    | some .bool => true
    | some (.int _) => true
    | some (.float .f64) => true
    | some .string => true
    | some (.slice e) => decide (0 < P.cellsOf e) && (isAgg P e || P.cellsOf e == 1) && plainT P n e
    | some (.struct fs) => tilesT P 0 fs.toList (P.cellsOf t) && fs.toList.all fun f => plainT P n f.type
    | _ => false
def Tys (R : TypeId → List AV → Prop) : List Field → List AV → Prop
  | [], xs => xs = []
  | f :: fs, xs => ∃ a b, xs = a ++ b ∧ R f.type a ∧ Tys R fs b
def Ty (P : Program) : Nat → TypeId → List AV → Prop
  | 0, _, _ => False
  | n + 1, t, xs =>
    match P.underlying t with
    | some .bool => ∃ b, xs = [.bool b]
    | some (.int k) => ∃ m, xs = [.int k m] ∧ (Lit.int k m).wf = true
    | some (.float .f64) => ∃ b, xs = [fltOf b] ∧ (Lit.float .f64 b).wf = true
    | some .string => ∃ s, xs = [.str s] ∧ s.length ≤ 9223372036854775807
    | some (.slice e) => ∃ l : List AV, xs = [.sl .sh l] ∧ l.length ≤ 9223372036854775807 ∧ ∀ x ∈ l, if isAgg P e then ∃ cs, x = .agg cs ∧ Ty P n e cs else Ty P n e [x]
    | some (.struct fs) => Tys (Ty P n) fs.toList xs
    | _ => False
section
variable {H : Type} {enc : TypeId × Value → H} {P : Program} {w : World} {base : Nat} {held : Bool} {G : Ghost}
theorem mapM_each {α β : Type} {f : α → Option β} {l : List α} {r : List β} (h : l.mapM f = some r) : r.length = l.length ∧ ∀ i (h1 : i < l.length) (h2 : i < r.length), f l[i] = some r[i] := by
  refine ⟨mapM_some_length h, fun i h1 h2 => ?_⟩
  have := mapM_some_get h i l[i] (List.getElem?_eq_getElem h1)
  rw [this, List.getElem?_eq_getElem h2]
theorem trod_spare : ∀ (n k : Nat) (t : TypeId) (cs : List Value) (x : DataW H × List MemPlace) (sp : Nat → Bool), plainT P k t = true → DataW.trod enc P w base (fun _ => true) held n t cs = some x →
    (∀ p ∈ x.2, sp p.block = true) → DataW.trod enc P w base sp held n t cs = some x := by
  intro n
  induction n with
  | zero => intro k t cs x sp _ h; simp [DataW.trod] at h
  | succ n ih =>
    intro k t cs x sp hp h hs
    cases k with
    | zero => cases hp
    | succ k =>
      unfold plainT at hp
      unfold DataW.trod at h ⊢
      cases hu : P.underlying t with
      | none => rw [hu] at hp; cases hp
      | some d =>
        rw [hu] at hp h
        cases d with
        | bool =>
          cases cs with
          | nil => cases h
          | cons v r =>
            cases r with
            | cons v' r' => cases v <;> cases h
            | nil => cases v <;> first | exact h | cases h
        | int q =>
          cases cs with
          | nil => cases h
          | cons v r =>
            cases r with
            | cons v' r' => cases v <;> cases h
            | nil => cases v <;> first | exact h | cases h
        | float q =>
          cases cs with
          | nil => cases h
          | cons v r =>
            cases r with
            | cons v' r' => cases v <;> cases h
            | nil => cases v <;> first | exact h | cases h
        | string =>
          cases cs with
          | nil => cases h
          | cons v r =>
            cases r with
            | cons v' r' => cases v <;> cases h
            | nil => cases v <;> first | exact h | cases h
        | slice e =>
          simp only [Bool.and_eq_true, decide_eq_true_eq] at hp
          obtain ⟨⟨he, _⟩, hpe⟩ := hp
          cases cs with
          | nil => cases h
          | cons v r =>
            cases r with
            | cons v' r' => exact (by cases v <;> first | (cases h; done) | (rename_i oa len cap; cases oa <;> cases len <;> cases cap <;> cases h))
            | nil =>
              cases v with
              | slice oa len cap =>
                cases oa with
                | none => cases len <;> cases cap <;> first | exact h | cases h
                | some a =>
                  simp only at h ⊢
                  split at h
                  · rename_i hc
                    rw [if_pos hc]
                    cases he1 : (List.range len).mapM fun i => (w.cells? base (a.add (i * P.cellsOf e)) (P.cellsOf e)).bind (DataW.trod enc P w base (fun _ => true) held n e) with
                    | none => rw [he1] at h; cases h
                    | some elems =>
                      rw [he1] at h
                      simp only [Option.bind_some, if_true] at h
                      cases he2 : (List.range (cap - len)).mapM fun j => (w.cells? base (a.add ((len + j) * P.cellsOf e)) (P.cellsOf e)).bind (DataW.trod enc P w base (fun _ => true) held n e) with
                      | none => rw [he2] at h; cases h
                      | some rest =>
                        rw [he2] at h
                        simp only [Option.map_some, Option.some.injEq] at h
                        subst h
                        have one : ∀ (i : Nat) (y : DataW H × List MemPlace), y ∈ elems ++ rest → (w.cells? base (a.add (i * P.cellsOf e)) (P.cellsOf e)).bind (DataW.trod enc P w base (fun _ => true) held n e) = some y →
                            (w.cells? base (a.add (i * P.cellsOf e)) (P.cellsOf e)).bind (DataW.trod enc P w base sp held n e) = some y := by
                          intro i y hy hf
                          cases hcs : w.cells? base (a.add (i * P.cellsOf e)) (P.cellsOf e) with
                          | none => rw [hcs] at hf; cases hf
                          | some cs' =>
                            rw [hcs] at hf
                            simp only [Option.bind_some] at hf ⊢
                            exact ih k e cs' y sp hpe hf fun p hp => hs p (by
                              simp only [List.mem_append, List.mem_flatMap]
                              exact .inr ⟨y, by simpa using hy, hp⟩)
                        rw [mapM_carry he1 (fun i y _ hy hf => one i y (by simp [hy]) hf)]
                        simp only [Option.bind_some]
                        have hrest : (if sp a.block = true then (List.range (cap - len)).mapM fun j => (w.cells? base (a.add ((len + j) * P.cellsOf e)) (P.cellsOf e)).bind (DataW.trod enc P w base sp held n e) else some []) = some rest := by
                          by_cases hsp : sp a.block = true
                          · rw [if_pos hsp]
                            exact mapM_carry he2 (fun j y _ hy hf => one (len + j) y (by simp [hy]) hf)
                          · rw [if_neg hsp]
                            have hr := (mapM_each he2).1
                            rw [List.length_range] at hr
                            cases rest with
                            | nil => rfl
                            | cons r0 rs =>
                              exfalso
                              refine hsp (hs (.cell a.block (a.off + 0)) ?_)
                              simp only [List.mem_append]
                              refine .inl (MemPlace.mem_row.2 ⟨0, ?_, rfl⟩)
                              simp only [List.length_cons]
                              exact Nat.mul_pos (by omega) he
                        rw [hrest]
                        rfl
                  · cases h
              | _ => cases h
        | struct fs =>
          simp only [Bool.and_eq_true, List.all_eq_true] at hp
          simp only at h ⊢
          split at h
          · rename_i hc
            rw [if_pos hc]
            cases he : fs.toList.mapM fun f => DataW.trod enc P w base (fun _ => true) held n f.type ((cs.drop f.offset).take (P.cellsOf f.type)) with
            | none => rw [he] at h; cases h
            | some ys =>
              rw [he] at h
              simp only [Option.map_some, Option.some.injEq] at h
              subst h
              rw [mapM_carry he (fun f y hf hy hfy => ih k f.type _ y sp (hp.2 f hf) hfy fun p hp' => hs p (by simp only [List.mem_flatMap]; exact ⟨y, hy, hp'⟩))]
              rfl
          · cases h
        | _ => cases hp
theorem cells_each {a : Addr} {n : Nat} {cs : List Value} (h : w.cells? base a n = some cs) : cs.length = n ∧ ∀ j (hj : j < cs.length), w.cell? (a.add j) = some cs[j] := by
  obtain ⟨_, h1, h2⟩ := World.cells?_some h
  exact ⟨h1, fun j hj => by rw [h2 j (by omega), List.getElem?_eq_getElem hj]⟩
theorem addr_off (a : Addr) (n : Nat) : (a.add n).off = a.off + n := by unfold Addr.add; split <;> simp_all
theorem addr_block (a : Addr) (n : Nat) : (a.add n).block = a.block := by unfold Addr.add; split <;> rfl
theorem addr_add (a : Addr) (m n : Nat) : (a.add m).add n = a.add (m + n) := Addr.add_add a m n
theorem cell_spot {a : Addr} {v : Value} (h : w.cell? a = some v) : a.spot = none := by
  unfold World.cell? at h
  split at h
  · split at h
    · cases h
    · rename_i hs; simpa using hs
  · cases h
def mkE (P : Program) (e : TypeId) (xs : List AV) : AV := if isAgg P e then .agg xs else xs.headD .undef
theorem single {k : Nat} {e : TypeId} {y : AV} (h : Ty P k e [y]) (hn : isAgg P e = false) : y.cells = [y] := by
  cases k with
  | zero => cases h
  | succ k =>
    unfold Ty at h
    unfold isAgg at hn
    cases hu : P.underlying e with
    | none => rw [hu] at h; cases h
    | some d =>
      rw [hu] at h hn
      cases d with
      | bool => obtain ⟨b, hb⟩ := h; cases hb; rfl
      | int q => obtain ⟨b, hb, _⟩ := h; cases hb; rfl
      | float q =>
        cases q with
        | f32 => cases h
        | f64 =>
          obtain ⟨b, hb, _⟩ := h
          simp only [List.cons.injEq, and_true] at hb
          subst hb
          unfold fltOf; split <;> rfl
      | string => obtain ⟨b, hb, _⟩ := h; cases hb; rfl
      | slice q => obtain ⟨b, hb, _⟩ := h; cases hb; rfl
      | struct fs => cases hn
      | _ => cases h
theorem mkE_cells {k : Nat} {e : TypeId} {xs : List AV} (h : Ty P k e xs) (hx : isAgg P e = true ∨ xs.length = 1) : (mkE P e xs).cells = xs := by
  unfold mkE
  cases ha : isAgg P e with
  | true => rfl
  | false =>
    rcases hx with h1 | h1
    · rw [ha] at h1; cases h1
    · obtain ⟨y, rfl⟩ := List.length_eq_one_iff.1 h1
      exact single h ha
theorem mkE_ty {k : Nat} {e : TypeId} {xs : List AV} (h : Ty P k e xs) (hx : isAgg P e = true ∨ xs.length = 1) : if isAgg P e then ∃ cs, mkE P e xs = .agg cs ∧ Ty P k e cs else Ty P k e [mkE P e xs] := by
  unfold mkE
  cases ha : isAgg P e with
  | true => exact ⟨xs, rfl, h⟩
  | false =>
    rcases hx with h1 | h1
    · rw [ha] at h1; cases h1
    · obtain ⟨y, rfl⟩ := List.length_eq_one_iff.1 h1
      exact h
theorem tiles_le : ∀ {fs : List Field} {off tot : Nat}, tilesT P off fs tot = true → off ≤ tot
  | [], off, tot, h => by simp [tilesT] at h; omega
  | f :: fs, off, tot, h => by
    simp only [tilesT, Bool.and_eq_true] at h
    have := tiles_le h.2
    omega
theorem fields_rep {n : Nat} {R : TypeId → List AV → Prop} {cs : List Value} {tot : Nat} (hcs : cs.length = tot) : ∀ {fs : List Field} {off : Nat} {ys : List (DataW H × List MemPlace)},
    (∀ f ∈ fs, ∀ y, DataW.trod enc P w base (fun _ => true) held n f.type ((cs.drop f.offset).take (P.cellsOf f.type)) = some y →
      ∃ xs : List AV, xs.length = ((cs.drop f.offset).take (P.cellsOf f.type)).length ∧ (∀ (i : Nat) v y, ((cs.drop f.offset).take (P.cellsOf f.type))[i]? = some v → xs[i]? = some y → Rep G w v y) ∧ (∀ y ∈ xs, AV.Data y) ∧ R f.type xs) →
    tilesT P off fs tot = true → (fs.mapM fun f => DataW.trod enc P w base (fun _ => true) held n f.type ((cs.drop f.offset).take (P.cellsOf f.type))) = some ys →
    ∃ xs : List AV, xs.length = tot - off ∧ (∀ (i : Nat) v y, cs[off + i]? = some v → xs[i]? = some y → Rep G w v y) ∧ (∀ y ∈ xs, AV.Data y) ∧ Tys R fs xs
  | [], off, ys, _, ht, _ => by
    simp [tilesT] at ht
    exact ⟨[], by simp; omega, fun i v y _ h => (by simp at h), fun y hy => (by cases hy), rfl⟩
  | f :: fs, off, ys, ih, ht, hm => by
    simp only [tilesT, Bool.and_eq_true, beq_iff_eq] at ht
    obtain ⟨hoff, ht⟩ := ht
    have hle := tiles_le ht
    rw [List.mapM_cons] at hm
    cases h1 : DataW.trod enc P w base (fun _ => true) held n f.type ((cs.drop f.offset).take (P.cellsOf f.type)) with
    | none => rw [h1] at hm; cases hm
    | some y =>
      rw [h1] at hm
      cases h2 : fs.mapM fun f => DataW.trod enc P w base (fun _ => true) held n f.type ((cs.drop f.offset).take (P.cellsOf f.type)) with
      | none => rw [h2] at hm; cases hm
      | some ys' =>
        obtain ⟨a, a1, a2, a3, a4⟩ := ih f (by simp) y h1
        obtain ⟨b, b1, b2, b3, b4⟩ := fields_rep hcs (fun f hf => ih f (by simp [hf])) ht h2
        rw [List.length_take, List.length_drop, hoff] at a1
        have la : a.length = P.cellsOf f.type := by omega
        refine ⟨a ++ b, by rw [List.length_append]; omega, fun i v y hv hy => ?_, fun y hy => ?_, a, b, rfl, a4, b4⟩
        · rcases Nat.lt_or_ge i a.length with hi | hi
          · rw [List.getElem?_append_left hi] at hy
            refine a2 i v y ?_ hy
            rw [List.getElem?_take, if_pos (by omega), List.getElem?_drop, hoff]
            exact hv
          · rw [List.getElem?_append_right hi] at hy
            refine b2 (i - a.length) v y ?_ hy
            rw [← hv]; congr 1; omega
        · rcases List.mem_append.1 hy with hy | hy
          · exact a3 y hy
          · exact b3 y hy
theorem trod_rep (hG : ∀ a v, w.cell? a = some v → a.off < G.lim a.block) : ∀ (n k : Nat) (t : TypeId) (cs : List Value) (x : DataW H × List MemPlace), plainT P k t = true → DataW.trod enc P w base (fun _ => true) held n t cs = some x →
    ∃ xs : List AV, xs.length = cs.length ∧ (∀ (i : Nat) v y, cs[i]? = some v → xs[i]? = some y → Rep G w v y) ∧ (∀ y ∈ xs, AV.Data y) ∧ Ty P k t xs := by
  intro n
  induction n with
  | zero => intro k t cs x _ h; simp [DataW.trod] at h
  | succ n ih =>
    intro k t cs x hp h
    cases k with
    | zero => cases hp
    | succ k =>
      unfold plainT at hp
      unfold DataW.trod at h
      unfold Ty
      cases hu : P.underlying t with
      | none => rw [hu] at hp; cases hp
      | some d =>
        rw [hu] at hp h
        have one : ∀ (v : Value) (y : AV), Rep G w v y → ∀ (i : Nat) v' y', [v][i]? = some v' → [y][i]? = some y' → Rep G w v' y' := fun v y hr i v' y' h1 h2 => by
          cases i with
          | zero => cases h1; cases h2; exact hr
          | succ i => cases h1
        have done : ∀ (v : Value) (y : AV), AV.Data y → Rep G w v y → ∀ z ∈ [y], AV.Data z := fun v y hd _ z hz => by
          rw [List.mem_singleton] at hz; subst hz; exact hd
        cases d with
        | bool =>
          cases cs with
          | nil => cases h
          | cons v r =>
            cases r with
            | cons v' r' => cases v <;> cases h
            | nil =>
              cases v with
              | bool b => exact ⟨[.bool b], rfl, one _ _ (.bool b), done _ _ (.bool b) (.bool (w := w) (G := G) b), b, rfl⟩
              | _ => cases h
        | int q =>
          cases cs with
          | nil => cases h
          | cons v r =>
            cases r with
            | cons v' r' => cases v <;> cases h
            | nil =>
              cases v with
              | int q' m =>
                simp only at h
                split at h
                · rename_i hc
                  obtain ⟨rfl, hw⟩ := hc
                  exact ⟨[.int q' m], rfl, one _ _ (.int q' m), done _ _ (.int q' m) (.int (w := w) (G := G) q' m), m, rfl, hw⟩
                · cases h
              | _ => cases h
        | float q =>
          cases q with
          | f32 => cases hp
          | f64 =>
          cases cs with
          | nil => cases h
          | cons v r =>
            cases r with
            | cons v' r' => cases v <;> cases h
            | nil =>
              cases v with
              | float q' m =>
                simp only at h
                split at h
                · rename_i hc
                  obtain ⟨rfl, hw⟩ := hc
                  refine ⟨[fltOf m], rfl, one _ _ (fltOf_rep m), done (.float .f64 m) _ ?_ (fltOf_rep m), m, rfl, hw⟩
                  unfold fltOf
                  split
                  · exact .nan
                  · exact .flt m
                · cases h
              | _ => cases h
        | string =>
          cases cs with
          | nil => cases h
          | cons v r =>
            cases r with
            | cons v' r' => cases v <;> cases h
            | nil =>
              cases v with
              | string b =>
                simp only at h
                split at h
                · rename_i hc
                  refine ⟨[.str b.data.toList], rfl, one _ _ (.str (w := w) (G := G) b.data.toList), done (.string b) _ (.str _) (.str (w := w) (G := G) b.data.toList), _, rfl, ?_⟩
                  exact hc
                · cases h
              | _ => cases h
        | slice e =>
          simp only [Bool.and_eq_true, decide_eq_true_eq] at hp
          obtain ⟨⟨he, hag⟩, hpe⟩ := hp
          cases cs with
          | nil => cases h
          | cons v r =>
            cases r with
            | cons v' r' => exact (by cases v <;> first | (cases h; done) | (rename_i oa len cap; cases oa <;> cases len <;> cases cap <;> cases h))
            | nil =>
              cases v with
              | slice oa len cap =>
                cases oa with
                | none =>
                  cases len with
                  | succ l => cases h
                  | zero =>
                    cases cap with
                    | succ l => cases h
                    | zero => exact ⟨[.sl .sh []], rfl, one _ _ (.sl0 none 0 .sh (fun hh => by cases hh) (fun t hh => by cases hh)), done (.slice none 0 0) _ (.sl _ _ (fun t hh => by cases hh) (fun x hx => by cases hx)) (.sl0 none 0 .sh (fun hh => by cases hh) (fun t hh => by cases hh)), [], rfl, by simp, fun x hx => by cases hx⟩
                | some a =>
                  simp only at h
                  split at h
                  · rename_i hc
                    cases he1 : (List.range len).mapM fun i => (w.cells? base (a.add (i * P.cellsOf e)) (P.cellsOf e)).bind (DataW.trod enc P w base (fun _ => true) held n e) with
                    | none => rw [he1] at h; cases h
                    | some elems =>
                      obtain ⟨hl, hel⟩ := mapM_each he1
                      rw [List.length_range] at hl
                      have each : ∀ i, ∃ p : List Value × List AV, i < len → p.1.length = P.cellsOf e ∧ (∀ j (hj : j < p.1.length), w.cell? (a.add (i * P.cellsOf e + j)) = some p.1[j]) ∧ p.2.length = P.cellsOf e ∧
                          (∀ (j : Nat) v y, p.1[j]? = some v → p.2[j]? = some y → Rep G w v y) ∧ (∀ y ∈ p.2, AV.Data y) ∧ Ty P k e p.2 := by
                        intro i
                        by_cases hi : i < len
                        · have := hel i (by simpa using hi) (by omega)
                          simp only [List.getElem_range] at this
                          cases hcs : w.cells? base (a.add (i * P.cellsOf e)) (P.cellsOf e) with
                          | none => rw [hcs] at this; cases this
                          | some row =>
                            rw [hcs] at this
                            obtain ⟨r1, r2⟩ := cells_each hcs
                            obtain ⟨xs, x1, x3, x4, x5⟩ := ih k e row _ hpe this
                            exact ⟨(row, xs), fun _ => ⟨r1, fun j hj => by rw [← r2 j hj, addr_add], by simp only; omega, x3, x4, x5⟩⟩
                        · exact ⟨([], []), fun hh => absurd hh hi⟩
                      obtain ⟨f, hf⟩ := Classical.axiomOfChoice each
                      have hcells : ∀ i, i < len → (mkE P e (f i).2).cells = (f i).2 := fun i hi => mkE_cells (hf i hi).2.2.2.2.2 (by
                        have := (hf i hi).2.2.1
                        rcases Bool.or_eq_true _ _ ▸ hag with h1 | h1
                        · exact .inl h1
                        · exact .inr (by rw [this]; simpa using h1))
                      have hlen : ((List.range len).map fun i => mkE P e (f i).2).length = len := by simp
                      have hget : ∀ i (hi : i < ((List.range len).map fun i => mkE P e (f i).2).length), ((List.range len).map fun i => mkE P e (f i).2)[i] = mkE P e (f i).2 := fun i hi => by simp
                      have hdat : ∀ x ∈ ((List.range len).map fun i => mkE P e (f i).2), ∀ y ∈ x.cells, AV.Data y := fun x hx y hy => by
                        obtain ⟨i, hi, rfl⟩ := List.mem_map.1 hx
                        rw [List.mem_range] at hi
                        rw [hcells i hi] at hy
                        exact (hf i hi).2.2.2.2.1 y hy
                      have hrep : Rep G w (.slice (some a) len cap) (.sl .sh ((List.range len).map fun i => mkE P e (f i).2)) := by
                        rcases Nat.eq_zero_or_pos len with h0 | h0
                        · subst h0
                          exact .sl0 (some a) cap .sh (fun hh => by cases hh) (fun t hh => by cases hh)
                        · have hs : a.spot = none := by
                            obtain ⟨r1, r2, _⟩ := hf 0 h0
                            have := r2 0 (by omega)
                            rw [show 0 * P.cellsOf e + 0 = 0 by omega] at this
                            exact cell_spot (a := a) this
                          have := Rep.sl (G := G) (w := w) a cap .sh ((List.range len).map fun i => mkE P e (f i).2) (P.cellsOf e) (fun i j => ((f i).1[j]?).getD Go.undef) (by
                              intro hh
                              have := congrArg List.length hh
                              rw [hlen] at this
                              simp at this; omega)
                            (by rw [hlen]; exact hc.2.1) hc.2.2 hs (fun i hi => by rw [hget i hi, hcells i (by omega)]; exact (hf i (by omega)).2.2.1) he hdat
                            (by
                              rw [hlen]
                              obtain ⟨r1, r2, _⟩ := hf (len - 1) (by omega)
                              have := hG _ _ (r2 (P.cellsOf e - 1) (by omega))
                              have e2 : (a.add ((len - 1) * P.cellsOf e + (P.cellsOf e - 1))).off = a.off + ((len - 1) * P.cellsOf e + (P.cellsOf e - 1)) := addr_off _ _
                              rw [e2] at this
                              have e3 : len * P.cellsOf e = (len - 1) * P.cellsOf e + P.cellsOf e := by
                                conv => lhs; rw [show len = (len - 1) + 1 by omega, Nat.add_mul, Nat.one_mul]
                              have e4 : (a.add ((len - 1) * P.cellsOf e + (P.cellsOf e - 1))).block = a.block := addr_block _ _
                              rw [e4] at this
                              omega)
                            (fun i hi j hj => by
                              rw [hlen] at hi
                              obtain ⟨r1, r2, _⟩ := hf i hi
                              have hj' : j < (f i).1.length := by omega
                              rw [r2 j hj', List.getElem?_eq_getElem hj']; rfl)
                            (fun i hi j hj => by
                              have hi' : i < len := by omega
                              obtain ⟨r1, r2, r3, r4, _⟩ := hf i hi'
                              simp only [hget i hi, hcells i hi'] at hj ⊢
                              have hj' : j < (f i).1.length := by omega
                              rw [List.getElem?_eq_getElem hj']
                              exact r4 j _ _ (List.getElem?_eq_getElem hj') (List.getElem?_eq_getElem hj))
                            (fun hh => by cases hh) (fun t hh => by cases hh)
                          rw [hlen] at this
                          exact this
                      refine ⟨_, rfl, one _ _ hrep, done _ _ (.sl _ _ (fun t hh => by cases hh) hdat) hrep, _, rfl, ?_, ?_⟩
                      · rw [hlen]
                        have := hc.2.2
                        have := hc.2.1
                        have e : maxLen = 9223372036854775807 := rfl
                        omega
                      · intro x hx
                        obtain ⟨i, hi, rfl⟩ := List.mem_map.1 hx
                        rw [List.mem_range] at hi
                        exact mkE_ty (hf i hi).2.2.2.2.2 (by
                          have := (hf i hi).2.2.1
                          rcases Bool.or_eq_true _ _ ▸ hag with h1 | h1
                          · exact .inl h1
                          · exact .inr (by rw [this]; simpa using h1))
                  · cases h
              | _ => cases h
        | struct fs =>
          simp only [Bool.and_eq_true, List.all_eq_true] at hp
          simp only at h
          split at h
          · rename_i hc
            cases he : fs.toList.mapM fun f => DataW.trod enc P w base (fun _ => true) held n f.type ((cs.drop f.offset).take (P.cellsOf f.type)) with
            | none => rw [he] at h; cases h
            | some ys =>
              obtain ⟨xs, x1, x2, x3, x4⟩ := fields_rep (R := Ty P k) (tot := P.cellsOf t) (cs := cs) hc (fun f hf ys hy => ih k f.type _ ys (hp.2 f hf) hy) hp.1 he
              exact ⟨xs, by omega, fun i v y h1 h2 => x2 i v y (by simpa using h1) h2, x3, x4⟩
          · cases h
        | _ => cases hp
def TyV (P : Program) (k : Nat) (t : TypeId) (x : AV) : Prop := if isAgg P t then ∃ cs, x = .agg cs ∧ Ty P k t cs else Ty P k t [x]
def TyAll (P : Program) (k : Nat) : List TypeId → List AV → Prop
  | [], [] => True
  | t :: ts, x :: xs => TyV P k t x ∧ TyAll P k ts xs
  | _, _ => False
theorem not_agg {k : Nat} {r : Reach} {b0 : Nat} {t : TypeId} {v : Value} (hp : plainT P k t = true) (ha : isAgg P t = false) (hval : Value.okWide P w r b0 t v) : v.cells = #[v] := by
  cases k with
  | zero => cases hp
  | succ k =>
    unfold plainT at hp
    unfold isAgg at ha
    unfold Value.okWide at hval
    cases hu : P.underlying t with
    | none => rw [hu] at hp; cases hp
    | some d =>
      rw [hu] at hp ha hval
      cases d with
      | struct fs => cases ha
      | bool => cases v <;> first | rfl | (simp [Cell.okWide, Cell.ok, hu] at hval; done)
      | int q => cases v <;> first | rfl | (simp [Cell.okWide, Cell.ok, hu] at hval; done)
      | float q => cases v <;> first | rfl | (simp [Cell.okWide, Cell.ok, hu] at hval; done)
      | string => cases v <;> first | rfl | (simp [Cell.okWide, Cell.ok, hu] at hval; done)
      | slice q => cases v <;> first | rfl | (simp [Cell.okWide, Cell.ok, hu] at hval; done)
      | _ => cases hp
theorem agg_of {r : Reach} {b0 : Nat} {t : TypeId} {v : Value} (ha : isAgg P t = true) (hval : Value.okWide P w r b0 t v) : ∃ cs, v = .agg cs := by
  unfold isAgg at ha
  unfold Value.okWide at hval
  cases hu : P.underlying t with
  | none => rw [hu] at ha; cases ha
  | some d =>
    rw [hu] at ha hval
    cases d with
    | struct fs => obtain ⟨cs, h, _⟩ := hval; exact ⟨cs, h⟩
    | _ => cases ha
theorem one_rep (hG : ∀ a v, w.cell? a = some v → a.off < G.lim a.block) {k : Nat} {r : Reach} {b0 : Nat} {t : TypeId} {v : Value} {d : DataW H} {ps : List MemPlace} (hp : plainT P k t = true) (hval : Value.okWide P w r b0 t v)
    (h : DataW.Trod enc P w base (fun _ => true) held t v d ps) : ∃ x, Rep G w v x ∧ TyV P k t x := by
  obtain ⟨n, hn⟩ := h
  obtain ⟨xs, x1, x2, x3, x4⟩ := trod_rep hG n k t _ _ hp hn
  unfold TyV
  cases ha : isAgg P t with
  | true =>
    obtain ⟨cs, rfl⟩ := agg_of ha hval
    refine ⟨.agg xs, .agg cs xs (by rw [x1]; exact Array.length_toList.symm) (fun i h1 h2 => x2 i _ _ ?_ (List.getElem?_eq_getElem h2)), xs, rfl, x4⟩
    rw [show (Value.agg cs).cells = cs from rfl, Array.getElem?_toList, Array.getElem?_eq_getElem h1]
  | false =>
    have hc := not_agg hp ha hval
    rw [hc] at x1 x2
    obtain ⟨y, rfl⟩ := List.length_eq_one_iff.1 (x1.trans rfl)
    exact ⟨y, x2 0 v y rfl rfl, x4⟩
theorem all_rep (hG : ∀ a v, w.cell? a = some v → a.off < G.lim a.block) {k : Nat} {r : Reach} {b0 : Nat} : ∀ {ts : List TypeId} {vs : List Value} {ds : List (DataW H)} {ps : List MemPlace}, ts.all (plainT P k) = true →
    (∀ (j : Nat) t v, ts[j]? = some t → vs[j]? = some v → Value.okWide P w r b0 t v) → DataW.TrodAll enc P w base (fun _ => true) held ts vs ds ps →
    ∃ xs : List AV, xs.length = vs.length ∧ (∀ (i : Nat) v y, vs[i]? = some v → xs[i]? = some y → Rep G w v y) ∧ TyAll P k ts xs
  | [], [], [], ps, _, _, _ => ⟨[], rfl, fun i v y h => (by simp at h), trivial⟩
  | t :: ts, v :: vs, d :: ds, ps, hp, hval, ⟨p, q, h1, h2, _⟩ => by
    rw [List.all_cons, Bool.and_eq_true] at hp
    obtain ⟨x, hx, hy⟩ := one_rep hG hp.1 (hval 0 t v rfl rfl) h1
    obtain ⟨xs, x1, x2, x3⟩ := all_rep hG hp.2 (fun j t v a b => hval (j + 1) t v a b) h2
    refine ⟨x :: xs, by simp [x1], fun i v' y' a b => ?_, hy, x3⟩
    cases i with
    | zero => cases a; cases b; exact hx
    | succ i => exact x2 i v' y' a b
  | [], [], _ :: _, _, _, _, h => h.elim
  | [], _ :: _, _, _, _, _, h => h.elim
  | _ :: _, [], _, _, _, _, h => h.elim
  | _ :: _, _ :: _, [], _, _, _, h => h.elim
theorem all_shut {w' : World} {k : Nat} {sp : Nat → Bool} (hB : Below w.heap.size w w') : ∀ {ts : List TypeId} {vs : List Value} {ds : List (DataW H)} {ps : List MemPlace}, ts.all (plainT P k) = true →
    (∀ p ∈ ps, sp p.block = true) → DataW.TrodAll enc P w base (fun _ => true) held ts vs ds ps → DataW.TrodAll enc P w' base sp held ts vs ds ps
  | [], [], [], ps, _, _, h => h
  | t :: ts, v :: vs, d :: ds, ps, hp, hs, ⟨p, q, ⟨n, h1⟩, h2, e⟩ => by
    subst e
    rw [List.all_cons, Bool.and_eq_true] at hp
    refine ⟨p, q, ⟨n, ?_⟩, all_shut hB hp.2 (fun x hx => hs x (by simp [hx])) h2, rfl⟩
    refine DataW.trod_carry n _ _ _ (trod_spare n k _ _ _ sp hp.1 h1 fun x hx => hs x (by simp [hx])) (fun x hx => hB.same (DataW.trod_lt n _ _ _ h1 x hx))
  | [], [], _ :: _, _, _, _, h => h.elim
  | [], _ :: _, _, _, _, _, h => h.elim
  | _ :: _, [], _, _, _, _, h => h.elim
  | _ :: _, _ :: _, [], _, _, _, h => h.elim
theorem all_len {sp : Nat → Bool} : ∀ {ts : List TypeId} {vs : List Value} {ds : List (DataW H)} {ps : List MemPlace}, DataW.TrodAll enc P w base sp held ts vs ds ps → vs.length = ts.length ∧ ds.length = ts.length
  | [], [], [], _, _ => ⟨rfl, rfl⟩
  | t :: ts, v :: vs, d :: ds, ps, ⟨p, q, h1, h2, e⟩ => by
    obtain ⟨a, b⟩ := all_len h2
    exact ⟨by simp [a], by simp [b]⟩
  | [], [], _ :: _, _, h => h.elim
  | [], _ :: _, _, _, h => h.elim
  | _ :: _, [], _, _, h => h.elim
  | _ :: _, _ :: _, [], _, h => h.elim
def GW (w : World) : Ghost := { lim := fun b => match w.heap[b]? with | some (.cells c _ _) => c.size | _ => 0, nb := 0, μ := fun _ => 0, nt := 0, τ := fun _ => 0, ext := fun _ => 0, cap := fun _ => 0, tes := fun _ => 0, nl := 0, ln := fun _ => 0, mc := fun _ => 0 }
theorem GW_heap (w : World) : HRep P (GW w) w Heap.nil :=
  ⟨fun b hb => by simp [GW, Array.getElem?_eq_none hb], rfl, rfl, rfl, fun k hk => absurd hk (by simp [Heap.nil]), fun i j hi => absurd hi (by simp [GW]), fun k hk => absurd hk (by simp [GW]), fun t ht => absurd ht (by simp [Heap.nil]), fun i j hi => absurd hi (by simp [GW]),
   fun k t hk => absurd hk (by simp [GW]), fun l hl => absurd hl (by simp [Heap.nil]), fun i j hi => absurd hi (by simp [GW])⟩
theorem GW_lim : ∀ a v, w.cell? a = some v → a.off < (GW w).lim a.block := by
  intro a v h
  unfold World.cell? at h
  unfold GW
  simp only
  split at h
  · rename_i c _ _ hc
    rw [hc]
    split at h
    · cases h
    · exact (Array.getElem?_eq_some_iff.1 h).1
  · cases h
theorem step_below {G : Ghost} {w w' : World} {G' : Ghost} (h : Step G w G' w') (h1 : G.nb = 0) (h2 : G.nt = 0) (h3 : G.nl = 0) : Below w.heap.size w w' :=
  ⟨h.os, h.tape, h.output, h.size, fun k hk => (h.frame k hk (fun i hi => absurd hi (by omega)) (fun i hi => absurd hi (by omega)) (fun i hi => absurd hi (by omega))).1⟩
theorem post_of_below {f : Func} {s : ChangeSpec} {apart fresh handsOn again : Bool} {W W' : World} {args : Array Value} {v : Value} {ds gs : List (DataW H)} {before pa pv : List MemPlace}
    (hW : DataW.Whole enc P f.params.toList s.vars apart W args.toList ds gs before)
    (hres : ∀ (b : Nat) (sp : Nat → Bool) (hd : Bool), DataW.TrodAll enc P W' b sp hd f.resultTypes.toList (v.resultList f.resultTypes.size) (s.fn H (ds ++ gs)).results [])
    (hargs : ∀ sp : Nat → Bool, (∀ p ∈ before, sp p.block = true) → DataW.TrodAll enc P W' 0 sp true f.params.toList args.toList (s.fn H (ds ++ gs)).args pa)
    (hvars : ∀ sp : Nat → Bool, (∀ p ∈ before, sp p.block = true) → DataW.TrodVars enc P W' sp s.vars (s.fn H (ds ++ gs)).vars pv)
    (hps : before = pa ++ pv) (hb : Below W.heap.size W W')
    (hok : ∀ (j : Nat) (t : TypeId) (r : Value), f.resultTypes[j]? = some t → (v.resultList f.resultTypes.size)[j]? = some r → Value.okWide P W' .any 0 t r) :
    s.post enc P f apart fresh handsOn again W args v W' := by
  have hlt : ∀ p ∈ before, p.block < W.heap.size := fun p hp => hW.lt p hp
  have hold : ∀ p ∈ before, (fun b => decide (b < W.heap.size)) p.block = true := fun p hp => by simpa using hlt p hp
  refine ⟨ds, gs, before, [], pa, pv, hW, hres _ _ _, hargs _ hold, hvars _ hold, World.keptBut_mono (fun p hp => ⟨hp, ?_⟩) (hb.frame (· ∈ before)), fun _ => ?_⟩
  · rw [hps, List.mem_append] at hp
    exact Or.inr hp
  · obtain ⟨_, _, _, _, _, hz, hn⟩ := hW
    refine ⟨hok, _, _, ([] ++ pa) ++ pv, ⟨[] ++ pa, pv, trodAll_append (hargs _ (fun _ _ => rfl)) (hres _ _ _), hvars _ (fun _ _ => rfl), rfl, ?_, ?_⟩, ?_⟩
    · intro b off hp
      have hin : MemPlace.cell b off ∈ before := by rw [hps]; simpa using hp
      rw [hb.frozen (hlt _ hin)]
      exact hz b off hin
    · intro ha
      have := hn ha
      rw [hps] at this
      simpa using this
    · intro p hp _
      rw [hps]
      simpa using hp
end

section
variable {P : Program} {k : Nat} {t : TypeId} {x : AV} {xs : List AV}
theorem ty_string (hu : P.underlying t = some .string) (h : Ty P (k + 1) t xs) : ∃ s, xs = [.str s] ∧ s.length ≤ 9223372036854775807 := by unfold Ty at h; rw [hu] at h; exact h
theorem tyv_string (hu : P.underlying t = some .string) (h : TyV P (k + 1) t x) : ∃ s, x = .str s ∧ s.length ≤ 9223372036854775807 := by
  unfold TyV isAgg at h; rw [hu] at h
  obtain ⟨b, e, hw⟩ := ty_string hu h
  exact ⟨b, by simpa using e, hw⟩
theorem tyall_1 {a : TypeId} (h : TyAll P k [a] xs) : ∃ x, xs = [x] ∧ TyV P k a x := by
  match xs, h with
  | [x], ⟨h, _⟩ => exact ⟨x, rfl, h⟩
end
end Go.Aa

set_option linter.unusedVariables false
set_option linter.unusedSimpArgs false
namespace Go.Aa
open Go.RowKit
variable {P : Program} {G G' : Ghost} {w w2 w3 : World} {H H' : Heap}
def Free (G : Ghost) (b : Nat) : Prop := G.lim b = 0 ∧ (∀ k, k < G.nb → b ≠ G.μ k) ∧ (∀ t, t < G.nt → b ≠ G.τ t) ∧ (∀ k, k < G.nl → b ≠ G.ln k)
theorem free_new (hH : HRep P G w H) : Free G w.heap.size :=
  ⟨hH.base _ (Nat.le_refl _), fun k hk e => by have := hH.μlt hk; omega, fun t ht e => by
    obtain ⟨_, us, u, h, _⟩ := hH.tok t (by rw [← hH.nt]; exact ht)
    rw [← e] at h
    exact absurd (Array.getElem?_eq_some_iff.1 h).1 (by omega),
   fun l hl e => by
    obtain ⟨rec, h, _⟩ := hH.loop l (by rw [← hH.nl]; exact hl)
    rw [← e] at h
    exact absurd (Array.getElem?_eq_some_iff.1 h).1 (by omega)⟩
theorem lay_step (hH : HRep P G w H) (o : Obj) : Step G w G (w.alloc o) ∧ HRep P G (w.alloc o) H := by
  have hheap : ∀ b, b < w.heap.size → (w.alloc o).heap[b]? = w.heap[b]? := fun b hb => Below.heap_alloc w o b hb
  have hsz : (w.alloc o).heap.size = w.heap.size + 1 := by simp
  have hcell : ∀ b off, off < G.lim b → (w.alloc o).cell? ⟨b, off, none⟩ = w.cell? ⟨b, off, none⟩ := fun b off h => by
    have hb : b < w.heap.size := by
      rcases Nat.lt_or_ge b w.heap.size with h1 | h1
      · exact h1
      · rw [hH.base b h1] at h; omega
    unfold World.cell?
    rw [hheap b hb]
  have hst : Step G w G (w.alloc o) :=
    ⟨rfl, rfl, rfl, by omega, fun _ => Nat.le_refl _, hcell, Nat.le_refl _, fun _ _ => rfl, fun k h => .inl ⟨k, h, rfl⟩, fun _ _ => rfl, Nat.le_refl _, fun _ _ => Nat.le_refl _,
     fun _ _ _ => ⟨rfl, rfl⟩, fun _ _ => rfl, fun _ h => .inl ⟨h, rfl⟩, Nat.le_refl _, fun _ _ => rfl, fun _ h1 h2 => absurd h2 (by omega), fun b hb _ _ _ => ⟨hheap b hb, rfl⟩⟩
  refine ⟨hst, fun b hb => hH.base b (by omega), hH.nb, hH.nt, hH.nl, fun k hk => ?_, hH.μinj, hH.μlim, fun t ht => ?_, hH.τinj, hH.μτ, fun l hl => ?_, hH.linj⟩
  · obtain ⟨us, e, h, h1, h2⟩ := hH.box k hk
    exact ⟨us, e, by rw [hheap _ (Array.getElem?_eq_some_iff.1 h).1]; exact h, h1, fun i i1 i2 => (h2 i i1 i2).step hst⟩
  · obtain ⟨h0, us, e, h, h1⟩ := hH.tok t ht
    exact ⟨h0, us, e, by rw [hheap _ (Array.getElem?_eq_some_iff.1 h).1]; exact h, h1⟩
  · obtain ⟨rec, h, h1⟩ := hH.loop l hl
    exact ⟨rec, by rw [hheap _ (Array.getElem?_eq_some_iff.1 h).1]; exact h, h1.keep hst.keep⟩
theorem free_step {b : Nat} (hf : Free G b) (hb : b < w.heap.size) (hst : Step G w G' w2) (hlt : ∀ t, t < G.nt → G.τ t < w.heap.size) : Free G' b ∧ w2.heap[b]? = w.heap[b]? := by
  obtain ⟨h0, h1, h2, h3⟩ := hf
  obtain ⟨f1, f2⟩ := hst.frame b hb h1 h2 h3
  refine ⟨⟨by rw [f2]; exact h0, fun k hk e => ?_, fun t ht e => ?_, fun l hl e => ?_⟩, f1⟩
  · rcases Nat.lt_or_ge k G.nb with hk' | hk'
    · rw [hst.μ k hk'] at e; exact h1 k hk' e
    · rcases hst.μnew k hk with ⟨j, hj, e2⟩ | h
      · exact h1 j hj (e.trans e2)
      · omega
  · rcases hst.τnew t ht with ⟨ht', e'⟩ | h
    · rw [e'] at e; exact h2 t ht' e
    · omega
  · rcases Nat.lt_or_ge l G.nl with hl' | hl'
    · rw [hst.ln l hl'] at e; exact h3 l hl' e
    · have := hst.lnew l hl' hl; omega
theorem poke {b : Nat} (hf : Free G' b) (hbase : Base G w) (hb : w.heap.size ≤ b) (hst : Step G w G' w2) (hH2 : HRep P G' w2 H') (hother : ∀ k, k ≠ b → w3.heap[k]? = w2.heap[k]?) (hsz : w3.heap.size = w2.heap.size)
    (hos : w3.os = w2.os) (htape : w3.tape = w2.tape) (hout : w3.output = w2.output) : Step G w G' w3 ∧ HRep P G' w3 H' := by
  obtain ⟨h0, h1, h2, h3⟩ := hf
  have hkeep : Keep G' w2 G' w3 :=
    ⟨fun _ => Nat.le_refl _, fun c off h => by
      have : c ≠ b := fun e => by subst e; omega
      unfold World.cell?
      rw [hother c this], Nat.le_refl _, fun _ _ => rfl, Nat.le_refl _, fun _ _ => Nat.le_refl _, fun _ _ _ => ⟨rfl, rfl⟩, fun _ _ => rfl, Nat.le_refl _, fun _ _ => rfl, fun _ _ => rfl⟩
  refine ⟨⟨hos.trans hst.os, htape.trans hst.tape, hout.trans hst.output, by rw [hsz]; exact hst.size, hst.lim, fun c off h => ?_, hst.nb, hst.μ, hst.μnew, hst.mc, hst.nt, hst.ext, hst.τ, hst.tes, hst.τnew, hst.nl, hst.ln, hst.lnew, fun c hc a1 a2 a3 => ?_⟩,
    fun c hc => hH2.base c (by omega), hH2.nb, hH2.nt, hH2.nl, fun k hk => ?_, hH2.μinj, hH2.μlim, fun t ht => ?_, hH2.τinj, hH2.μτ, fun l hl => ?_, hH2.linj⟩
  · rw [← hst.cell c off h]
    exact hkeep.cell c off (Nat.lt_of_lt_of_le h (hst.lim c))
  · obtain ⟨e1, e2⟩ := hst.frame c hc a1 a2 a3
    exact ⟨by rw [hother c (by omega)]; exact e1, e2⟩
  · obtain ⟨us, e, h, g1, g2⟩ := hH2.box k hk
    exact ⟨us, e, by rw [hother _ (Ne.symm (h1 k (by rw [hH2.nb]; exact hk)))]; exact h, g1, fun i i1 i2 => (g2 i i1 i2).keep hkeep⟩
  · obtain ⟨g0, us, e, h, g1⟩ := hH2.tok t ht
    exact ⟨g0, us, e, by rw [hother _ (Ne.symm (h2 t (by rw [hH2.nt]; exact ht)))]; exact h, g1⟩
  · obtain ⟨rec, h, g1⟩ := hH2.loop l hl
    exact ⟨rec, by rw [hother _ (Ne.symm (h3 l (by rw [hH2.nl]; exact hl)))]; exact h, g1.keep hkeep⟩
theorem tok_lt (hH : HRep P G w H) : ∀ t, t < G.nt → G.τ t < w.heap.size := fun t ht => by
  obtain ⟨_, us, u, h, _⟩ := hH.tok t (by rw [← hH.nt]; exact ht)
  exact (Array.getElem?_eq_some_iff.1 h).1
end Go.Aa

set_option linter.unusedVariables false
set_option linter.unusedSimpArgs false
namespace Go.Aa
open Go.RowKit
variable {P : Program} {G : Ghost} {w w' : World} {H : Heap}
theorem below_step (hH : HRep P G w H) (hB : Below w.heap.size w w') : Step G w G w' ∧ HRep P G w' H := by
  have hheap : ∀ b, b < w.heap.size → w'.heap[b]? = w.heap[b]? := fun b hb => hB.block b hb
  have hcell : ∀ b off, off < G.lim b → w'.cell? ⟨b, off, none⟩ = w.cell? ⟨b, off, none⟩ := fun b off h => by
    have hb : b < w.heap.size := by
      rcases Nat.lt_or_ge b w.heap.size with h1 | h1
      · exact h1
      · rw [hH.base b h1] at h; omega
    unfold World.cell?
    rw [hheap b hb]
  have hst : Step G w G w' :=
    ⟨hB.os, hB.tape, hB.output, hB.size, fun _ => Nat.le_refl _, hcell, Nat.le_refl _, fun _ _ => rfl, fun k h => .inl ⟨k, h, rfl⟩, fun _ _ => rfl, Nat.le_refl _, fun _ _ => Nat.le_refl _,
     fun _ _ _ => ⟨rfl, rfl⟩, fun _ _ => rfl, fun _ h => .inl ⟨h, rfl⟩, Nat.le_refl _, fun _ _ => rfl, fun _ h1 h2 => absurd h2 (by omega), fun b hb _ _ _ => ⟨hheap b hb, rfl⟩⟩
  refine ⟨hst, fun b hb => hH.base b (by have := hB.size; omega), hH.nb, hH.nt, hH.nl, fun k hk => ?_, hH.μinj, hH.μlim, fun t ht => ?_, hH.τinj, hH.μτ, fun l hl => ?_, hH.linj⟩
  · obtain ⟨us, e, h, h1, h2⟩ := hH.box k hk
    exact ⟨us, e, by rw [hheap _ (Array.getElem?_eq_some_iff.1 h).1]; exact h, h1, fun i i1 i2 => (h2 i i1 i2).step hst⟩
  · obtain ⟨h0, us, e, h, h1⟩ := hH.tok t ht
    exact ⟨h0, us, e, by rw [hheap _ (Array.getElem?_eq_some_iff.1 h).1]; exact h, h1⟩
  · obtain ⟨rec, h, h1⟩ := hH.loop l hl
    exact ⟨rec, by rw [hheap _ (Array.getElem?_eq_some_iff.1 h).1]; exact h, h1.keep hst.keep⟩
theorem args_two {vs : Array Value} {x y : AV} (h : Args G w vs [x, y]) : ∃ u v, vs = #[u, v] ∧ Rep G w u x ∧ Rep G w v y := by
  obtain ⟨h1, h2⟩ := h
  have hs : vs.size = 2 := by simpa using h1
  refine ⟨vs[0], vs[1], ?_, by simpa using h2 0 (by omega) (by simp), by simpa using h2 1 (by omega) (by simp)⟩
  apply Array.ext
  · simpa using hs
  · intro i i1 i2
    have : i = 0 ∨ i = 1 := by omega
    rcases this with rfl | rfl <;> rfl
theorem str_inv {v : Value} {s : List UInt8} (h : Rep G w v (.str s)) : v = .string ⟨s.toArray⟩ := by cases h; rfl
def Enters (P : Program) (f : FuncId) : Prop := ∀ vs w, (callFunc f vs).run P w = .ok (.enter f vs) w
def indexE (xs : List AV) (H : Heap) : Option (AV × Heap) := match xs with
  | [.str s, .str [c]] => some (.int .i64 (Lib.indexByte s c), H)
  | _ => none
def countE (xs : List AV) (H : Heap) : Option (AV × Heap) := match xs with
  | [.str s, .str [c]] => some (.int .i64 (Lib.countByte s c), H)
  | _ => none
def trimE (xs : List AV) (H : Heap) : Option (AV × Heap) := match xs with
  | [.str s, .str cs] => if s.length ≤ 9223372036854775807 ∧ cs.length < 4294967281 ∧ cs.all (fun b => decide (b.toNat < 128)) = true then some (.str (Lib.trimS s cs), H) else none
  | _ => none
def strsA : List AV → Option (List (List UInt8))
  | [] => some []
  | .str s :: xs => (strsA xs).map (s :: ·)
  | _ => none
def joinE (xs : List AV) (H : Heap) : Option (AV × Heap) := match xs with
  | [.sl k l, .str sep] => match strsA l with
    | some ss => if ss.length ≤ 140737488355328 ∧ (Lib.join ss sep).length ≤ 140737488355328 then some (.str (Lib.join ss sep), H) else none
    | none => none
  | _ => none
theorem ext_index {f : FuncId} (hf : Enters P f) (h : ∀ (s : ByteArray) (c : UInt8) (w : World), Calls P f #[.string s, .string ⟨#[c]⟩] w fun e w' => e = .returned (.int .i64 (Lib.indexByte s.data.toList c)) ∧ w' = w) : ExtOk P f indexE := by
  intro xs H v H' hg G w vs hH hargs
  unfold indexE at hg
  split at hg <;> simp only [Option.some.injEq, Prod.mk.injEq, reduceCtorEq] at hg
  rename_i s c
  obtain ⟨rfl, rfl⟩ := hg
  obtain ⟨u, u', rfl, h1, h2⟩ := args_two hargs
  cases str_inv h1
  cases str_inv h2
  refine .inl ⟨w, hf _ _, (h ⟨s.toArray⟩ c w).mono fun e w' hh => ?_, rfl⟩
  obtain ⟨rfl, rfl⟩ := hh
  exact ⟨G, .refl _ _, hH, _, rfl, .int _ _⟩
theorem ext_count {f : FuncId} (hf : Enters P f) (h : ∀ (s : ByteArray) (c : UInt8) (w : World), Calls P f #[.string s, .string ⟨#[c]⟩] w fun e w' => e = .returned (.int .i64 (Lib.countByte s.data.toList c)) ∧ w' = w) : ExtOk P f countE := by
  intro xs H v H' hg G w vs hH hargs
  unfold countE at hg
  split at hg <;> simp only [Option.some.injEq, Prod.mk.injEq, reduceCtorEq] at hg
  rename_i s c
  obtain ⟨rfl, rfl⟩ := hg
  obtain ⟨u, u', rfl, h1, h2⟩ := args_two hargs
  cases str_inv h1
  cases str_inv h2
  refine .inl ⟨w, hf _ _, (h ⟨s.toArray⟩ c w).mono fun e w' hh => ?_, rfl⟩
  obtain ⟨rfl, rfl⟩ := hh
  exact ⟨G, .refl _ _, hH, _, rfl, .int _ _⟩
theorem ext_trim {f : FuncId} (hf : Enters P f) (h : ∀ (s cutset : ByteArray) (w : World), s.size ≤ 9223372036854775807 → cutset.size < 4294967281 → (∀ (j : Nat) (b : UInt8), cutset.data.toList[j]? = some b → b.toNat < 128) →
    Calls P f #[.string s, .string cutset] w fun e w' => e = .returned (.string ⟨(Lib.trimS s.data.toList cutset.data.toList).toArray⟩) ∧ Below w.heap.size w w') : ExtOk P f trimE := by
  intro xs H v H' hg G w vs hH hargs
  unfold trimE at hg
  split at hg
  · rename_i s cs
    split at hg <;> simp only [Option.some.injEq, Prod.mk.injEq, reduceCtorEq] at hg
    rename_i hc
    obtain ⟨rfl, rfl⟩ := hg
    obtain ⟨u, u', rfl, h1, h2⟩ := args_two hargs
    cases str_inv h1
    cases str_inv h2
    refine .inl ⟨w, hf _ _, (h ⟨s.toArray⟩ ⟨cs.toArray⟩ w hc.1 hc.2.1 fun j b hb => ?_).mono fun e w' hh => ?_, rfl⟩
    · have := List.all_eq_true.1 hc.2.2 b (List.mem_of_getElem? hb)
      simpa using this
    · obtain ⟨rfl, hB⟩ := hh
      obtain ⟨s1, s2⟩ := below_step hH hB
      exact ⟨G, s1, s2, _, rfl, .str _⟩
  · cases hg
theorem strsA_inv : ∀ {l : List AV} {ss : List (List UInt8)}, strsA l = some ss → l = ss.map .str
  | [], ss, h => by simp only [strsA, Option.some.injEq] at h; subst h; rfl
  | x :: l, ss, h => by
    cases x with
    | str s =>
      simp only [strsA] at h
      cases hl : strsA l with
      | none => rw [hl] at h; cases h
      | some ss' =>
        rw [hl] at h
        simp only [Option.map_some, Option.some.injEq] at h
        subst h
        rw [strsA_inv hl]; rfl
    | _ => cases h
theorem ext_join {f : FuncId} (hf : Enters P f)
    (h0 : ∀ (a : Option Addr) (c : Nat) (sep : ByteArray) (w : World), Calls P f #[.slice a 0 c, .string sep] w fun e w' => e = .returned (.string ⟨#[]⟩) ∧ w' = w)
    (h : ∀ (bk o c : Nat) (xs : List ByteArray) (sep : ByteArray) (w : World), (∀ (j : Nat) x, xs[j]? = some x → w.cell? ⟨bk, o + j, none⟩ = some (.string x)) → bk < w.heap.size → xs.length ≤ 140737488355328 → xs.length ≤ c →
      (Lib.join (xs.map (·.data.toList)) sep.data.toList).length ≤ 140737488355328 →
      Calls P f #[.slice (some ⟨bk, o, none⟩) xs.length c, .string sep] w fun e w' => e = .returned (.string ⟨(Lib.join (xs.map (·.data.toList)) sep.data.toList).toArray⟩) ∧ Below w.heap.size w w') : ExtOk P f joinE := by
  intro xs H v H' hg G w vs hH hargs
  unfold joinE at hg
  split at hg
  · rename_i k l sep
    split at hg
    · rename_i ss hss
      split at hg <;> simp only [Option.some.injEq, Prod.mk.injEq, reduceCtorEq] at hg
      rename_i hc
      obtain ⟨rfl, rfl⟩ := hg
      obtain ⟨u, u', rfl, h1, h2⟩ := args_two hargs
      cases str_inv h2
      have hl := strsA_inv hss
      cases h1 with
      | sl0 a c _ _ _ =>
        have : ss = [] := by cases ss with | nil => rfl | cons s ss => cases hl
        subst this
        refine .inl ⟨w, hf _ _, (h0 a c ⟨sep.toArray⟩ w).mono fun e w' hh => ?_, rfl⟩
        obtain ⟨rfl, rfl⟩ := hh
        exact ⟨G, .refl _ _, hH, _, rfl, .str _⟩
      | sl a c _ _ es us hne hlc hcm hs hes he0 hd hlim hcell hrep hfull hown =>
        subst hl
        have hlen : 0 < ss.length := by cases ss with | nil => exact absurd rfl hne | cons s ss => simp
        have he1 : es = 1 := by
          have := hes 0 (by simpa using hlen)
          simp only [List.getElem_map, AV.cells, List.length_singleton] at this
          exact this.symm
        subst he1
        have hval : ∀ i (hi : i < ss.length), us i 0 = .string ⟨ss[i].toArray⟩ := fun i hi => by
          have := hrep i (by simpa using hi) 0 (by simp [AV.cells])
          simp only [List.getElem_map, AV.cells, List.getElem_cons_zero] at this
          exact str_inv this
        obtain ⟨bk, o, spot⟩ := a
        simp only at hs
        subst hs
        have hc0 : ∀ i (hi : i < ss.length), w.cell? ⟨bk, o + i, none⟩ = some (.string ⟨ss[i].toArray⟩) := fun i hi => by
          have := hcell i (by simpa using hi) 0 (by omega)
          rw [hval i hi] at this
          rw [← this]
          simp [Addr.add]
          split <;> simp_all
        have hbk : bk < w.heap.size := by
          have := hc0 0 hlen
          unfold World.cell? at this
          split at this
          · rename_i hh; exact (Array.getElem?_eq_some_iff.1 hh).1
          · cases this
        have e1 : (ss.map (fun s => (⟨s.toArray⟩ : ByteArray))).map (fun x => x.data.toList) = ss := by
          rw [List.map_map]; conv => rhs; rw [← List.map_id ss]
          exact List.map_congr_left fun s _ => rfl
        have hcall := h bk o c (ss.map fun s => ⟨s.toArray⟩) ⟨sep.toArray⟩ w (fun j x hx => by
            rw [List.getElem?_map] at hx
            cases hj : ss[j]? with
            | none => rw [hj] at hx; cases hx
            | some s =>
              rw [hj] at hx
              simp only [Option.map_some, Option.some.injEq] at hx
              subst hx
              obtain ⟨hj1, rfl⟩ := List.getElem?_eq_some_iff.1 hj
              exact hc0 j hj1) hbk (by simpa using hc.1) (by simpa using hlc) (by rw [e1]; exact hc.2)
        rw [e1] at hcall
        simp only [List.length_map] at hcall ⊢
        refine .inl ⟨w, hf _ _, hcall.mono fun e w' hh => ?_, rfl⟩
        obtain ⟨rfl, hB⟩ := hh
        obtain ⟨s1, s2⟩ := below_step hH hB
        exact ⟨G, s1, s2, _, rfl, .str _⟩
    · cases hg
  · cases hg
end Go.Aa

set_option linter.unusedVariables false
set_option linter.unusedSimpArgs false
namespace Go.Aa
open Go.RowKit Go.ChangeShapes Go.WideShapes Go.ChangeAt
section
variable {H : Type} {enc : TypeId × Value → H} {P : Program} {w : World} {base : Nat} {sp : Nat → Bool} {held : Bool} {G : Ghost}
theorem mapM_len {α β : Type} {f : α → Option β} : ∀ {l : List α} {r : List β}, l.mapM f = some r → r.length = l.length
  | [], r, h => by cases h; rfl
  | x :: l, r, h => by
    rw [List.mapM_cons] at h
    cases hx : f x with
    | none => rw [hx] at h; cases h
    | some y =>
      cases hl : l.mapM f with
      | none => rw [hx, hl] at h; cases h
      | some ys =>
        rw [hx, hl] at h
        cases h
        simp [mapM_len hl]
theorem slice_sz {t e : TypeId} {v : Value} {d : DataW H} {ps : List MemPlace} {l : List AV} {k : SK} (hu : P.underlying t = some (.slice e)) (hr : Rep G w v (.sl k l)) (ht : DataW.Trod enc P w base sp held t v d ps)
    (hw : (d.weights P t).all (· ≤ reachBytes) = true) : l.length * P.bytesOf e ≤ reachBytes := by
  cases hr with
  | sl0 => simp
  | sl a c _ _ es us hl hc hcm hs hes he0 hd hlim hcell hrep hfull hown =>
    obtain ⟨fuel, h⟩ := ht
    cases fuel with
    | zero => cases h
    | succ fuel =>
      simp only [DataW.trod, hu, Value.cells] at h
      split at h
      · cases he : (List.range l.length).mapM (fun i => (w.cells? base (a.add (i * P.cellsOf e)) (P.cellsOf e)).bind (DataW.trod enc P w base sp held fuel e)) with
        | none => rw [he] at h; cases h
        | some elems =>
          rw [he, Option.bind_some, Option.map_eq_some_iff] at h
          obtain ⟨rest, -, h⟩ := h
          cases h
          have e1 : elems.length = l.length := by rw [mapM_len he, List.length_range]
          simp only [DataW.weights, hu, List.all_cons, Bool.and_eq_true, decide_eq_true_eq, List.length_map] at hw
          have := hw.1
          rw [e1] at this
          exact Nat.le_trans (Nat.mul_le_mul_right _ (Nat.le_add_right _ _)) this
      · cases h
theorem str_sz {t : TypeId} {v : Value} {d : DataW H} {ps : List MemPlace} {s : List UInt8} (hu : P.underlying t = some .string) (hr : Rep G w v (.str s)) (ht : DataW.Trod enc P w base sp held t v d ps)
    (hw : (d.weights P t).all (· ≤ reachBytes) = true) : s.length ≤ reachBytes := by
  cases hr with
  | str s =>
    obtain ⟨fuel, h⟩ := ht
    cases fuel with
    | zero => cases h
    | succ fuel =>
      simp only [DataW.trod, hu, Value.cells] at h
      split at h
      · cases h
        simpa [DataW.weights] using hw
      · cases h
def Sz1 (P : Program) (t : TypeId) (x : AV) : Prop := (∀ e k l, P.underlying t = some (.slice e) → x = .sl k l → l.length * P.bytesOf e ≤ reachBytes) ∧ (∀ s, P.underlying t = some .string → x = .str s → s.length ≤ reachBytes)
def SzAll (P : Program) : List TypeId → List AV → Prop
  | t :: ts, x :: xs => Sz1 P t x ∧ SzAll P ts xs
  | _, _ => True
theorem all_sz : ∀ {ts us : List TypeId} {vs : List Value} {ds gs : List (DataW H)} {ps : List MemPlace} {xs : List AV}, DataW.TrodAll enc P w base sp held ts vs ds ps → (DataW.weightsEach P (ts ++ us) (ds ++ gs)).all (· ≤ reachBytes) = true →
    (∀ (i : Nat) v y, vs[i]? = some v → xs[i]? = some y → Rep G w v y) → SzAll P ts xs
  | [], _, _, _, _, _, _, _, _, _ => by unfold SzAll; trivial
  | t :: ts, us, [], ds, gs, ps, xs, h, _, _ => h.elim
  | t :: ts, us, v :: vs, [], gs, ps, xs, h, _, _ => h.elim
  | t :: ts, us, v :: vs, d :: ds, gs, ps, [], _, _, _ => by unfold SzAll; trivial
  | t :: ts, us, v :: vs, d :: ds, gs, ps, x :: xs, ⟨p, q, h1, h2, _⟩, hw, hr => by
    simp only [List.cons_append, DataW.weightsEach, List.all_append, Bool.and_eq_true] at hw
    refine ⟨⟨fun e k l hu hx => ?_, fun s hu hx => ?_⟩, all_sz h2 hw.2 (fun i v y a b => hr (i + 1) v y a b)⟩
    · subst hx; exact slice_sz hu (hr 0 _ _ rfl rfl) h1 hw.1
    · subst hx; exact str_sz hu (hr 0 _ _ rfl rfl) h1 hw.1
theorem law_rowZ {cfg : Cfg} (hcfg : CfgOk P cfg) {f : FuncId} (hF : (cfg.F f).isSome = true) (hx : cfg.ext f = none) (ht : cfg.tryF f = false) {fn : Func} {s : ChangeSpec} {k : Nat} {tb : TypeId} {apart fresh handsOn again : Bool}
    (hpl : fn.params.toList.all (plainT P k) = true) (hrt : fn.resultTypes = #[tb]) (hb : P.underlying tb = some .bool) (hsv : s.vars = [])
    (hfn : ∀ ds : List (DataW H), ds.length = fn.params.toList.length → s.fn H ds = { results := [.lit (.bool true)], args := ds })
    (hlaw : ∀ xs, TyAll P k fn.params.toList xs → SzAll P fn.params.toList xs → ∃ H', lim cfg (.fn f) xs Heap.nil = some (.ret (.bool true), H'))
    {W : World} {base : Nat} {args : Array Value} {ds gs : List (DataW H)} {before : List MemPlace}
    (hval : ∀ (j : Nat) t v, fn.params[j]? = some t → args[j]? = some v → Value.okWide P W .any base t v)
    (hW : DataW.Whole enc P fn.params.toList s.vars apart W args.toList ds gs before) (hwt : (DataW.weightsEach P (fn.params.toList ++ s.plain.varTypes P) (ds ++ gs)).all (· ≤ reachBytes) = true) :
    Calls P f args W fun e W' => ∃ v, e = .returned v ∧ s.post enc P fn apart fresh handsOn again W args v W' := by
  have hW' := hW
  obtain ⟨p, q, hA, hV, rfl, hfz, hnd⟩ := hW
  rw [hsv] at hV
  obtain ⟨rfl, rfl⟩ := trodVars_none hV
  rw [List.append_nil] at hW'
  obtain ⟨xs, x1, x2, x3⟩ := all_rep (G := GW W) GW_lim hpl (fun j t v a b => hval j t v (by simpa using a) (by simpa using b)) hA
  obtain ⟨H', hl⟩ := hlaw xs x3 (all_sz hA hwt x2)
  obtain ⟨n, hn⟩ := lim_iff.1 hl
  refine (calls_of hcfg hn hF hx ht (GW_heap W) ⟨by rw [x1]; simp, fun i h1 h2 => x2 i _ _ (by simp [h1]) (List.getElem?_eq_getElem h2)⟩).mono fun e W' ⟨u, G', he, hst, hr⟩ => ?_
  cases hr
  have hB := step_below hst rfl rfl rfl
  obtain ⟨l1, l2⟩ := all_len hA
  have hfn' := hfn ds l2
  refine ⟨_, he, post_of_below (pa := p) (pv := []) hW' ?_ ?_ ?_ (by simp) hB ?_⟩
  · intro b sp hd
    rw [List.append_nil, hfn', hrt]
    exact trodAll_mk1 (shut_bool hb _)
  · intro sp hsp
    rw [List.append_nil, hfn']
    exact all_shut hB hpl hsp hA
  · intro sp hsp
    rw [List.append_nil, hfn', hsv]
    rfl
  · exact ok_one hrt rfl (okWide_bool_mk hb _)
end
end Go.Aa

set_option linter.unusedVariables false
set_option maxRecDepth 100000
namespace Go.Aa.T
open Go.Aa
def extF : Nat → Option (List AV → Heap → Option (AV × Heap))
  | 97 => some trimE
  | 99 => some joinE
  | 105 => some indexE
  | 112 => some countE
  | 125 => some indexE
  | _ => none
def isTry (f : Nat) : Bool := f == 101
def cfg : Cfg := { F := tabF, ext := extF, tryF := isTry, stopT := 159 }
def okR : Option (ARes × Heap) → Bool
  | some (.ret (.bool b), _) => b
  | _ => false
theorem known38 : okR (callN cfg 3000 (.fn 38) [] Heap.nil) = true := by kernel_rfl
theorem known_ret38 : ∃ H', lim cfg (.fn 38) [] Heap.nil = some (.ret (.bool true), H') := by
  have h := known38
  unfold okR at h
  split at h
  · rename_i b H' hc
    subst h
    exact ⟨H', lim_of hc⟩
  · cases h
theorem l9 (xs : List AV) (H : Heap) : lim cfg (.fn 9) xs H = runL cfg a9 [.c c9] (initEnv xs) H := lim_fn rfl rfl rfl xs H
theorem l41 (xs : List AV) (H : Heap) : lim cfg (.fn 41) xs H = runL cfg a41 [.c c41] (initEnv xs) H := lim_fn rfl rfl rfl xs H
theorem l42 (xs : List AV) (H : Heap) : lim cfg (.fn 42) xs H = runL cfg a42 [.c c42] (initEnv xs) H := lim_fn rfl rfl rfl xs H
theorem l43 (xs : List AV) (H : Heap) : lim cfg (.fn 43) xs H = runL cfg a43 [.c c43] (initEnv xs) H := lim_fn rfl rfl rfl xs H
theorem l44 (xs : List AV) (H : Heap) : lim cfg (.fn 44) xs H = runL cfg a44 [.c c44] (initEnv xs) H := lim_fn rfl rfl rfl xs H
theorem l45 (xs : List AV) (H : Heap) : lim cfg (.fn 45) xs H = runL cfg a45 [.c c45] (initEnv xs) H := lim_fn rfl rfl rfl xs H
theorem l46 (xs : List AV) (H : Heap) : lim cfg (.fn 46) xs H = runL cfg a46 [.c c46] (initEnv xs) H := lim_fn rfl rfl rfl xs H
theorem l51 (xs : List AV) (H : Heap) : lim cfg (.fn 51) xs H = runL cfg a51 [.c c51] (initEnv xs) H := lim_fn rfl rfl rfl xs H
theorem l53 (xs : List AV) (H : Heap) : lim cfg (.fn 53) xs H = runL cfg a53 [.c c53] (initEnv xs) H := lim_fn rfl rfl rfl xs H
theorem l55 (xs : List AV) (H : Heap) : lim cfg (.fn 55) xs H = runL cfg a55 [.c c55] (initEnv xs) H := lim_fn rfl rfl rfl xs H
theorem l56 (xs : List AV) (H : Heap) : lim cfg (.fn 56) xs H = runL cfg a56 [.c c56] (initEnv xs) H := lim_fn rfl rfl rfl xs H
theorem l57 (xs : List AV) (H : Heap) : lim cfg (.fn 57) xs H = runL cfg a57 [.c c57] (initEnv xs) H := lim_fn rfl rfl rfl xs H
theorem l58 (xs : List AV) (H : Heap) : lim cfg (.fn 58) xs H = runL cfg a58 [.c c58] (initEnv xs) H := lim_fn rfl rfl rfl xs H
theorem l59 (xs : List AV) (H : Heap) : lim cfg (.fn 59) xs H = runL cfg a59 [.c c59] (initEnv xs) H := lim_fn rfl rfl rfl xs H
theorem l60 (xs : List AV) (H : Heap) : lim cfg (.fn 60) xs H = runL cfg a60 [.c c60] (initEnv xs) H := lim_fn rfl rfl rfl xs H
theorem l61 (xs : List AV) (H : Heap) : lim cfg (.fn 61) xs H = runL cfg a61 [.c c61] (initEnv xs) H := lim_fn rfl rfl rfl xs H
theorem l62 (xs : List AV) (H : Heap) : lim cfg (.fn 62) xs H = runL cfg a62 [.c c62] (initEnv xs) H := lim_fn rfl rfl rfl xs H
theorem l74 (xs : List AV) (H : Heap) : lim cfg (.fn 74) xs H = runL cfg a74 [.c c74] (initEnv xs) H := lim_fn rfl rfl rfl xs H
theorem l75 (xs : List AV) (H : Heap) : lim cfg (.fn 75) xs H = runL cfg a75 [.c c75] (initEnv xs) H := lim_fn rfl rfl rfl xs H
theorem l76 (xs : List AV) (H : Heap) : lim cfg (.fn 76) xs H = runL cfg a76 [.c c76] (initEnv xs) H := lim_fn rfl rfl rfl xs H
theorem l80 (xs : List AV) (H : Heap) : lim cfg (.fn 80) xs H = runL cfg a80 [.c c80] (initEnv xs) H := lim_fn rfl rfl rfl xs H
theorem l84 (xs : List AV) (H : Heap) : lim cfg (.fn 84) xs H = runL cfg a84 [.c c84] (initEnv xs) H := lim_fn rfl rfl rfl xs H
theorem l85 (xs : List AV) (H : Heap) : lim cfg (.fn 85) xs H = runL cfg a85 [.c c85] (initEnv xs) H := lim_fn rfl rfl rfl xs H
theorem l86 (xs : List AV) (H : Heap) : lim cfg (.fn 86) xs H = runL cfg a86 [.c c86] (initEnv xs) H := lim_fn rfl rfl rfl xs H
theorem l87 (xs : List AV) (H : Heap) : lim cfg (.fn 87) xs H = runL cfg a87 [.c c87] (initEnv xs) H := lim_fn rfl rfl rfl xs H
theorem l88 (xs : List AV) (H : Heap) : lim cfg (.fn 88) xs H = runL cfg a88 [.c c88] (initEnv xs) H := lim_fn rfl rfl rfl xs H
theorem l89 (xs : List AV) (H : Heap) : lim cfg (.fn 89) xs H = runL cfg a89 [.c c89] (initEnv xs) H := lim_fn rfl rfl rfl xs H
theorem l90 (xs : List AV) (H : Heap) : lim cfg (.fn 90) xs H = runL cfg a90 [.c c90] (initEnv xs) H := lim_fn rfl rfl rfl xs H
theorem l91 (xs : List AV) (H : Heap) : lim cfg (.fn 91) xs H = runL cfg a91 [.c c91] (initEnv xs) H := lim_fn rfl rfl rfl xs H
theorem l92 (xs : List AV) (H : Heap) : lim cfg (.fn 92) xs H = runL cfg a92 [.c c92] (initEnv xs) H := lim_fn rfl rfl rfl xs H
theorem l93 (xs : List AV) (H : Heap) : lim cfg (.fn 93) xs H = runL cfg a93 [.c c93] (initEnv xs) H := lim_fn rfl rfl rfl xs H
theorem l94 (xs : List AV) (H : Heap) : lim cfg (.fn 94) xs H = runL cfg a94 [.c c94] (initEnv xs) H := lim_fn rfl rfl rfl xs H
theorem l95 (xs : List AV) (H : Heap) : lim cfg (.fn 95) xs H = runL cfg a95 [.c c95] (initEnv xs) H := lim_fn rfl rfl rfl xs H
theorem l96 (xs : List AV) (H : Heap) : lim cfg (.fn 96) xs H = runL cfg a96 [.c c96] (initEnv xs) H := lim_fn rfl rfl rfl xs H
theorem l103 (xs : List AV) (H : Heap) : lim cfg (.fn 103) xs H = runL cfg a103 [.c c103] (initEnv xs) H := lim_fn rfl rfl rfl xs H
theorem l104 (xs : List AV) (H : Heap) : lim cfg (.fn 104) xs H = runL cfg a104 [.c c104] (initEnv xs) H := lim_fn rfl rfl rfl xs H
theorem l109 (xs : List AV) (H : Heap) : lim cfg (.fn 109) xs H = runL cfg a109 [.c c109] (initEnv xs) H := lim_fn rfl rfl rfl xs H
theorem l110 (xs : List AV) (H : Heap) : lim cfg (.fn 110) xs H = runL cfg a110 [.c c110] (initEnv xs) H := lim_fn rfl rfl rfl xs H
theorem l111 (xs : List AV) (H : Heap) : lim cfg (.fn 111) xs H = runL cfg a111 [.c c111] (initEnv xs) H := lim_fn rfl rfl rfl xs H
theorem l124 (xs : List AV) (H : Heap) : lim cfg (.fn 124) xs H = runL cfg a124 [.c c124] (initEnv xs) H := lim_fn rfl rfl rfl xs H
theorem l127 (xs : List AV) (H : Heap) : lim cfg (.fn 127) xs H = runL cfg a127 [.c c127] (initEnv xs) H := lim_fn rfl rfl rfl xs H
theorem l136 (xs : List AV) (H : Heap) : lim cfg (.fn 136) xs H = runL cfg a136 [.c c136] (initEnv xs) H := lim_fn rfl rfl rfl xs H
end Go.Aa.T

set_option linter.unusedVariables false
set_option linter.unusedSimpArgs false
set_option maxRecDepth 100000
namespace Go.Proofs.YtmlipdlbeddijaaDoor
open Go.RowKit
open Go.Aa
theorem T.catch_idle (p : Addr) (w : World) :
    CallsD Tryd.prog 123 #[.pointer (some p)] .returning w fun e u' w' => e = .returned (.tuple #[]) ∧ u' = .returning ∧ w' = w := by
  refine callsD_of_wpS Tryd.func123 rfl fun c₀ cs hu => ?_
  apply wpS_seq
  apply wpS_region
  simp [wpOpsS, go_sem, recoverD, hu, Tryd.ntmps123, Exit.thenS]
  refine wpS_of_wp ?_
  go_wp2
  cases c₀
  simp_all [bodyPostS, results, Tryd.results123]
theorem T.hta (v : Value) (w : World) : (Instr.typeAssert (.iface 159 v) 20 159 true).run Tryd.prog w = .ok (.tuple #[v, .bool true]) w := by kernel_rfl
set_option maxHeartbeats 4000000 in
theorem T.catch_stop (b : Nat) (x : Int) (n : Int) (older : List PanicEntry) (w : World) (hlt : b < w.heap.size) (hne : ¬ w.heap.size = b) (hne' : ¬ b = w.heap.size) (hc : w.cell? ⟨b, 0, none⟩ = some (.int .i64 x)) (hz : w.frozen? ⟨b, 0, none⟩ = false) :
    CallsD Tryd.prog 123 #[.pointer (some ⟨b, 0, none⟩)] (.panicking ({ v := .iface 159 (.agg #[.int .i64 n]), recovered := false } :: older)) w fun e u' w' =>
      e = .returned (.tuple #[]) ∧ u' = .panicking ({ v := .iface 159 (.agg #[.int .i64 n]), recovered := true } :: older) ∧ w' = (w.setCell ⟨b, 0, none⟩ (.int .i64 n)).alloc (.cells #[.int .i64 n] 159) := by
  have hta := T.hta
  have hz0 : ∀ w : World, (zeroValue 159).run Tryd.prog w = .ok (.agg #[.int .i64 0]) w := fun _ => by kernel_rfl
  have hsz : Tryd.prog.cellsOf 159 = 1 := by kernel_rfl
  have hag : ∀ w : World, (isAgg 159).run Tryd.prog w = .ok true w := fun _ => by kernel_rfl
  refine callsD_of_wpS Tryd.func123 rfl fun c₀ cs hu => ?_
  apply wpS_seq
  apply wpS_region
  simp [wpOpsS, go_sem, recoverD, hu, Tryd.ntmps123, Exit.thenS]
  refine wpS_of_wp ?_
  go_wp2
  cases c₀
  simp_all [bodyPostS, results, Tryd.results123]
theorem T.try_ok {call : CallF} (hcs : CallSound Tryd.prog call) {g : FuncId} {caps : List AV} {H H' : Heap} {r : ARes} (hr : tryA (call (.fn g) caps H) 159 = some (r, H')) {G : Ghost} {w : World} {us : Array Value} (hH : HRep Tryd.prog G w H) (hargs : Args G w us caps) :
    Calls Tryd.prog 101 #[.func (.func g) #[] us] w (PostOk Tryd.prog G w r H') := by
  have hmf : ∀ (fn : Fn) (first cap : Array Value) (w : World), (Instr.makeFunc fn first cap).run Tryd.prog w = .ok (.func fn first cap) w := fun _ _ _ _ => rfl
  obtain ⟨st1, hH1⟩ := lay_step hH (.cells #[.int .i64 0] 33)
  have hlt := tok_lt hH1
  have hfree := free_new hH
  have hsz : (w.alloc (.cells #[.int .i64 0] 33)).heap.size = w.heap.size + 1 := by simp
  have hb0 : (w.alloc (.cells #[.int .i64 0] 33)).heap[w.heap.size]? = some (.cells #[.int .i64 0] 33 (0, 0)) := World.alloc_heap_new w _
  have hcall : ∃ r1 H1, call (.fn g) caps H = some (r1, H1) ∧ ((∃ v, r1 = .ret v ∧ r = .ret (.int .i64 0) ∧ H1 = H') ∨ (∃ n, r1 = .pan (.iface 159 (.agg [.int .i64 n])) ∧ r = .ret (.int .i64 n) ∧ H1 = H')) := by
    cases hcc : call (.fn g) caps H with
    | none => rw [hcc] at hr; cases hr
    | some x =>
      obtain ⟨r1, H1⟩ := x
      rw [hcc] at hr
      cases r1 with
      | ret v =>
        simp only [tryA, Option.some.injEq, Prod.mk.injEq] at hr
        exact ⟨_, _, rfl, .inl ⟨v, rfl, hr.1.symm, hr.2⟩⟩
      | pan v =>
        unfold tryA at hr
        split at hr
        · rename_i h; cases h
        · rename_i h
          split at hr
          · rename_i ht
            subst ht
            simp only [Option.some.injEq, Prod.mk.injEq] at hr
            simp only [Option.some.injEq, Prod.mk.injEq, ARes.pan.injEq] at h
            obtain ⟨rfl, rfl⟩ := h
            exact ⟨_, _, rfl, .inr ⟨_, rfl, hr.1.symm, hr.2⟩⟩
          · cases hr
        · cases hr
  obtain ⟨r1, H1, hc, hend⟩ := hcall
  have hco := hcs.fn g caps H r1 H1 hc G _ us hH1 (hargs.step st1)
  go_enter_defers Tryd.func101, Tryd.ntmps101
  go_wp2
  rcases hco with ⟨_, hrun, hcalls, _⟩ | ⟨u, w', hrun, hpost⟩
  · rw [hrun]
    simp only [Oper.upon]
    refine hcalls.mono ?_
    rintro e w2 ⟨G2, st2, hH2, hend2⟩
    obtain ⟨hfree2, hb2⟩ := free_step hfree (by rw [hsz]; omega) st2 hlt
    rw [hb0] at hb2
    have hc2 : w2.cell? ⟨w.heap.size, 0, none⟩ = some (.int .i64 0) := by simp [World.cell?, hb2]
    have hz2 : w2.frozen? ⟨w.heap.size, 0, none⟩ = false := by simp [World.frozen?, hb2]
    have pk : ∀ n : Int, Step G w G2 (w2.setCell ⟨w.heap.size, 0, none⟩ (.int .i64 n)) ∧ HRep Tryd.prog G2 (w2.setCell ⟨w.heap.size, 0, none⟩ (.int .i64 n)) H1 := fun n =>
      poke hfree2 hH.base (Nat.le_refl _) (st1.trans st2) hH2 (fun k hk => Below.heap_setCell _ _ _ k hk) (by simp) rfl rfl rfl
    rcases hend with ⟨v, rfl, rfl, rfl⟩ | ⟨n, rfl, rfl, rfl⟩
    · obtain ⟨u, rfl, hu⟩ := hend2
      simp only
      apply ‹∀ (a : Act) (w : World), wpList _ _ _ _ a w → _›
      go_wp2
      refine leaves_cons (f := 123) (args := #[.pointer (some ⟨w.heap.size, 0, none⟩)]) (by simp) (by simp [go_sem]) ?_
      refine (T.catch_idle _ _).mono ?_
      rintro e u' w'' ⟨rfl, rfl, rfl⟩
      have hc3 : (w2.setCell ⟨w.heap.size, 0, none⟩ (.int .i64 0)).cell? ⟨w.heap.size, 0, none⟩ = some (.int .i64 0) := by first | exact World.cell?_setCell_same _ hc2 | exact World.cell?_setCell_same _ _ hc2 | exact World.cell?_setCell_same _ _ _ hc2
      simp [Leaves, settle, results, Tryd.results101, go_sem, hc3]
      exact ⟨G2, (pk 0).1, (pk 0).2, _, rfl, .int _ _⟩
    · obtain ⟨u, rfl, hu⟩ := hend2
      have hu' : u = .iface 159 (.agg #[.int .i64 n]) := by
        cases hu with
        | iface _ v _ hv =>
          cases hv with
          | agg us _ hn hv =>
            have h0 : us.size = 1 := hn
            have h1 := hv 0 (by omega) (by simp)
            have e : us = #[us[0]] := Array.ext (by simpa using h0) (fun i i1 i2 => by
              have : i = 0 := by omega
              subst this; rfl)
            rw [List.getElem_cons_zero] at h1
            generalize us[0] = y at h1 e
            cases h1
            rw [e]
      subst hu'
      have hb3 : w.heap.size < w2.heap.size := (Array.getElem?_eq_some_iff.1 hb2).1
      simp only [Exit.then]
      refine leaves_cons (f := 123) (args := #[.pointer (some ⟨w.heap.size, 0, none⟩)]) (by simp) (by simp [go_sem]) ?_
      refine (T.catch_stop w.heap.size 0 n [] w2 hb3 (by omega) (by omega) hc2 hz2).mono ?_
      rintro e u' w'' ⟨rfl, rfl, rfl⟩
      have hc3 : ((w2.setCell ⟨w.heap.size, 0, none⟩ (.int .i64 n)).alloc (.cells #[.int .i64 n] 159)).cell? ⟨w.heap.size, 0, none⟩ = some (.int .i64 n) := by
        have e1 := Below.heap_alloc (w2.setCell ⟨w.heap.size, 0, none⟩ (.int .i64 n)) (.cells #[.int .i64 n] 159) w.heap.size (by simpa using hb3)
        have c : (w2.setCell ⟨w.heap.size, 0, none⟩ (.int .i64 n)).cell? ⟨w.heap.size, 0, none⟩ = some (.int .i64 n) := by first | exact World.cell?_setCell_same _ hc2 | exact World.cell?_setCell_same _ _ hc2 | exact World.cell?_setCell_same _ _ _ hc2
        unfold World.cell? at c ⊢
        rw [e1]; exact c
      simp [Leaves, settle, results, Tryd.results101, go_sem, hc3]
      obtain ⟨s3, h3⟩ := pk n
      obtain ⟨s4, h4⟩ := lay_step h3 (.cells #[.int .i64 n] 159)
      exact ⟨G2, s3.trans s4, h4, _, rfl, .int _ _⟩
  · rw [hrun]
    simp only [Oper.upon]
    obtain ⟨G2, st2, hH2, hend2⟩ := hpost
    obtain ⟨hfree2, hb2⟩ := free_step hfree (by rw [hsz]; omega) st2 hlt
    rw [hb0] at hb2
    have hc2 : w'.cell? ⟨w.heap.size, 0, none⟩ = some (.int .i64 0) := by simp [World.cell?, hb2]
    have hz2 : w'.frozen? ⟨w.heap.size, 0, none⟩ = false := by simp [World.frozen?, hb2]
    have pk : ∀ n : Int, Step G w G2 (w'.setCell ⟨w.heap.size, 0, none⟩ (.int .i64 n)) ∧ HRep Tryd.prog G2 (w'.setCell ⟨w.heap.size, 0, none⟩ (.int .i64 n)) H1 := fun n =>
      poke hfree2 hH.base (Nat.le_refl _) (st1.trans st2) hH2 (fun k hk => Below.heap_setCell _ _ _ k hk) (by simp) rfl rfl rfl
    rcases hend with ⟨v, rfl, rfl, rfl⟩ | ⟨n, rfl, rfl, rfl⟩
    · obtain ⟨u', hu', hu⟩ := hend2
      apply ‹∀ (a : Act) (w : World), wpList _ _ _ _ a w → _›
      go_wp2
      refine leaves_cons (f := 123) (args := #[.pointer (some ⟨w.heap.size, 0, none⟩)]) (by simp) (by simp [go_sem]) ?_
      refine (T.catch_idle _ _).mono ?_
      rintro e u' w'' ⟨rfl, rfl, rfl⟩
      have hc3 : (w'.setCell ⟨w.heap.size, 0, none⟩ (.int .i64 0)).cell? ⟨w.heap.size, 0, none⟩ = some (.int .i64 0) := by first | exact World.cell?_setCell_same _ hc2 | exact World.cell?_setCell_same _ _ hc2 | exact World.cell?_setCell_same _ _ _ hc2
      simp [Leaves, settle, results, Tryd.results101, go_sem, hc3]
      exact ⟨G2, (pk 0).1, (pk 0).2, _, rfl, .int _ _⟩
    · obtain ⟨u', hu', hu⟩ := hend2
      cases hu'
theorem T.tryOk : TryOk Tryd.prog 101 159 := by
  intro call hcs g caps H r H' hr G w vs hH hargs
  obtain ⟨h1, h2⟩ := hargs
  have hs : vs.size = 1 := h1
  have e : vs = #[vs[0]] := Array.ext (by simpa using hs) (fun i i1 i2 => by
    have : i = 0 := by omega
    subst this; rfl)
  have hv := h2 0 (by omega) (by simp)
  rw [List.getElem_cons_zero] at hv
  generalize vs[0] = y at hv e
  subst e
  cases hv with
  | func _ us _ hn hu => exact .inl ⟨w, by kernel_rfl, T.try_ok hcs hr hH ⟨hn, hu⟩, rfl⟩
#print axioms T.tryOk
end Go.Proofs.YtmlipdlbeddijaaDoor

namespace Go.Proofs
open Go.Shelf
def Tryd.lays160_ren : Go.Shelf.Ren := ⟨fun | 160 => 97 | 232 => 114 | 231 => 113 | 227 => 115 | 234 => 117 | 233 => 116 | 236 => 119 | 235 => 118 | 228 => 130 | 271 => 133 | 151 => 132 | 197 => 131 | 120 => 143 | 152 => 142 | 260 => 141 | 137 => 148 | 119 => 149 | 224 => 139 | 225 => 138 | 217 => 137 | 266 => 146 | n => n, fun | 9 => 9 | 4 => 4 | 3 => 3 | 5 => 5 | 117 => 164 | 116 => 163 | 0 => 0 | 124 => 167 | 21 => 21 | 105 => 181 | 46 => 186 | 119 => 194 | 139 => 197 | 138 => 196 | n => n, fun | 3 => 1 | 4 => 2 | n => n⟩
theorem Tryd.lays160 : Go.Proofs.Lays.n160 Tryd.prog Tryd.lays160_ren := {
  mixed := by kernel_rfl
  f119 := Tryd.func149.trans (congrArg some (by kernel_rfl))
  f120 := Tryd.func143.trans (congrArg some (by kernel_rfl))
  f137 := Tryd.func148.trans (congrArg some (by kernel_rfl))
  f151 := Tryd.func132.trans (congrArg some (by kernel_rfl))
  f152 := Tryd.func142.trans (congrArg some (by kernel_rfl))
  f160 := Tryd.func97.trans (congrArg some (by kernel_rfl))
  f197 := Tryd.func131.trans (congrArg some (by kernel_rfl))
  f217 := Tryd.func137.trans (congrArg some (by kernel_rfl))
  f224 := Tryd.func139.trans (congrArg some (by kernel_rfl))
  f225 := Tryd.func138.trans (congrArg some (by kernel_rfl))
  f227 := Tryd.func115.trans (congrArg some (by kernel_rfl))
  f228 := Tryd.func130.trans (congrArg some (by kernel_rfl))
  f231 := Tryd.func113.trans (congrArg some (by kernel_rfl))
  f232 := Tryd.func114.trans (congrArg some (by kernel_rfl))
  f233 := Tryd.func116.trans (congrArg some (by kernel_rfl))
  f234 := Tryd.func117.trans (congrArg some (by kernel_rfl))
  f235 := Tryd.func118.trans (congrArg some (by kernel_rfl))
  f236 := Tryd.func119.trans (congrArg some (by kernel_rfl))
  f260 := Tryd.func141.trans (congrArg some (by kernel_rfl))
  f266 := Tryd.func146.trans (congrArg some (by kernel_rfl))
  f271 := Tryd.func133.trans (congrArg some (by kernel_rfl))
  t0 := Tryd.underlying0
  a0 := Tryd.isAgg0
  z0 := Tryd.sizeOf0
  v0 := Tryd.zeroValue0
  t3 := Tryd.underlying3
  a3 := Tryd.isAgg3
  z3 := Tryd.sizeOf3
  v3 := Tryd.zeroValue3
  t4 := Tryd.underlying4
  a4 := Tryd.isAgg4
  z4 := Tryd.sizeOf4
  v4 := Tryd.zeroValue4
  t5 := Tryd.underlying5
  a5 := Tryd.isAgg5
  z5 := Tryd.sizeOf5
  v5 := Tryd.zeroValue5
  t9 := Tryd.underlying9
  a9 := Tryd.isAgg9
  z9 := Tryd.sizeOf9
  v9 := Tryd.zeroValue9
  t21 := Tryd.underlying21
  a21 := Tryd.isAgg21
  z21 := Tryd.sizeOf21
  v21 := Tryd.zeroValue21
  t46 := Tryd.underlying186
  a46 := Tryd.isAgg186
  z46 := Tryd.sizeOf186
  v46 := Tryd.zeroValue186
  t105 := Tryd.underlying181
  a105 := Tryd.isAgg181
  z105 := Tryd.sizeOf181
  v105 := Tryd.zeroValue181
  t116 := Tryd.underlying163
  a116 := Tryd.isAgg163
  z116 := Tryd.sizeOf163
  t117 := Tryd.underlying164
  a117 := Tryd.isAgg164
  z117 := Tryd.sizeOf164
  v117 := Tryd.zeroValue164
  t119 := Tryd.underlying194
  a119 := Tryd.isAgg194
  z119 := Tryd.sizeOf194
  t124 := Tryd.underlying167
  a124 := Tryd.isAgg167
  z124 := Tryd.sizeOf167
  v124 := Tryd.zeroValue167
  t138 := Tryd.underlying196
  a138 := Tryd.isAgg196
  z138 := Tryd.sizeOf196
  v138 := Tryd.zeroValue196
  t139 := Tryd.underlying197
  a139 := Tryd.isAgg197
  z139 := Tryd.sizeOf197
  v139 := Tryd.zeroValue197
  g3 := by kernel_rfl
  g4 := by kernel_rfl }
def Tryd.lays156_ren : Go.Shelf.Ren := ⟨fun | 156 => 99 | 165 => 120 | 166 => 121 | 169 => 122 | 240 => 134 | 241 => 135 | 276 => 144 | 277 => 145 | n => n, fun | 31 => 67 | 9 => 9 | 3 => 3 | 4 => 4 | 0 => 0 | 20 => 20 | 72 => 171 | 76 => 175 | 70 => 168 | 37 => 169 | 75 => 174 | 127 => 184 | 164 => 188 | 5 => 5 | 80 => 177 | n => n, fun | n => n⟩
theorem Tryd.lays156 : Go.Proofs.Lays.n156 Tryd.prog Tryd.lays156_ren := {
  mixed := by kernel_rfl
  f156 := Tryd.func99.trans (congrArg some (by kernel_rfl))
  f165 := Tryd.func120.trans (congrArg some (by kernel_rfl))
  f166 := Tryd.func121.trans (congrArg some (by kernel_rfl))
  f169 := Tryd.func122.trans (congrArg some (by kernel_rfl))
  f240 := Tryd.func134.trans (congrArg some (by kernel_rfl))
  f241 := Tryd.func135.trans (congrArg some (by kernel_rfl))
  f276 := Tryd.func144.trans (congrArg some (by kernel_rfl))
  f277 := Tryd.func145.trans (congrArg some (by kernel_rfl))
  t0 := Tryd.underlying0
  a0 := Tryd.isAgg0
  z0 := Tryd.sizeOf0
  v0 := Tryd.zeroValue0
  t3 := Tryd.underlying3
  a3 := Tryd.isAgg3
  z3 := Tryd.sizeOf3
  v3 := Tryd.zeroValue3
  t4 := Tryd.underlying4
  a4 := Tryd.isAgg4
  z4 := Tryd.sizeOf4
  v4 := Tryd.zeroValue4
  t9 := Tryd.underlying9
  a9 := Tryd.isAgg9
  z9 := Tryd.sizeOf9
  v9 := Tryd.zeroValue9
  t20 := Tryd.underlying20
  a20 := Tryd.isAgg20
  z20 := Tryd.sizeOf20
  v20 := Tryd.zeroValue20
  t31 := Tryd.underlying67
  a31 := Tryd.isAgg67
  z31 := Tryd.sizeOf67
  v31 := Tryd.zeroValue67
  t37 := Tryd.underlying169
  a37 := Tryd.isAgg169
  z37 := Tryd.sizeOf169
  v37 := Tryd.zeroValue169
  t70 := Tryd.underlying168
  a70 := Tryd.isAgg168
  z70 := Tryd.sizeOf168
  v70 := Tryd.zeroValue168
  t72 := Tryd.underlying171
  a72 := Tryd.isAgg171
  z72 := Tryd.sizeOf171
  v72 := Tryd.zeroValue171
  t75 := Tryd.underlying174
  a75 := Tryd.isAgg174
  z75 := Tryd.sizeOf174
  v75 := Tryd.zeroValue174
  t76 := Tryd.underlying175
  a76 := Tryd.isAgg175
  z76 := Tryd.sizeOf175
  v76 := Tryd.zeroValue175
  t127 := Tryd.underlying184
  a127 := Tryd.isAgg184
  z127 := Tryd.sizeOf184
  v127 := Tryd.zeroValue184
  t164 := Tryd.underlying188
  a164 := Tryd.isAgg188
  z164 := Tryd.sizeOf188
  v164 := Tryd.zeroValue188 }
theorem Tryd.Builder_Extra_156 : Builder.Extra Tryd.prog Tryd.lays156_ren := {
  sizeBuilder := by kernel_rfl
  liesBuilder := by kernel_rfl
  t5 := Tryd.underlying5
  a5 := Tryd.isAgg5
  z5 := Tryd.sizeOf5
  v5 := Tryd.zeroValue5
  infoByte := by kernel_rfl
  cellsByte := by kernel_rfl
  sizeByte := by kernel_rfl
  neB5 := by decide }
def Tryd.lays143_ren : Go.Shelf.Ren := ⟨fun | 143 => 105 | 219 => 125 | 217 => 137 | 225 => 138 | 224 => 139 | 267 => 140 | 266 => 146 | 314 => 147 | n => n, fun | 9 => 9 | 3 => 3 | 4 => 4 | 5 => 5 | 46 => 186 | 146 => 192 | 51 => 191 | n => n, fun | 1 => 0 | n => n⟩
theorem Tryd.lays143 : Go.Proofs.Lays.n143 Tryd.prog Tryd.lays143_ren := {
  mixed := by kernel_rfl
  f143 := Tryd.func105.trans (congrArg some (by kernel_rfl))
  f217 := Tryd.func137.trans (congrArg some (by kernel_rfl))
  f219 := Tryd.func125.trans (congrArg some (by kernel_rfl))
  f224 := Tryd.func139.trans (congrArg some (by kernel_rfl))
  f225 := Tryd.func138.trans (congrArg some (by kernel_rfl))
  f266 := Tryd.func146.trans (congrArg some (by kernel_rfl))
  f267 := Tryd.func140.trans (congrArg some (by kernel_rfl))
  f314 := Tryd.func147.trans (congrArg some (by kernel_rfl))
  t3 := Tryd.underlying3
  a3 := Tryd.isAgg3
  z3 := Tryd.sizeOf3
  v3 := Tryd.zeroValue3
  t4 := Tryd.underlying4
  a4 := Tryd.isAgg4
  z4 := Tryd.sizeOf4
  v4 := Tryd.zeroValue4
  t5 := Tryd.underlying5
  a5 := Tryd.isAgg5
  z5 := Tryd.sizeOf5
  v5 := Tryd.zeroValue5
  t9 := Tryd.underlying9
  a9 := Tryd.isAgg9
  z9 := Tryd.sizeOf9
  v9 := Tryd.zeroValue9
  t46 := Tryd.underlying186
  a46 := Tryd.isAgg186
  z46 := Tryd.sizeOf186
  v46 := Tryd.zeroValue186
  t51 := Tryd.underlying191
  a51 := Tryd.isAgg191
  z51 := Tryd.sizeOf191
  v51 := Tryd.zeroValue191
  t146 := Tryd.underlying192
  a146 := Tryd.isAgg192
  z146 := Tryd.sizeOf192
  v146 := Tryd.zeroValue192
  g1 := by kernel_rfl }
def Tryd.lays138_ren : Go.Shelf.Ren := ⟨fun | 138 => 112 | 195 => 128 | 218 => 129 | 143 => 105 | 219 => 125 | 217 => 137 | 225 => 138 | 224 => 139 | 267 => 140 | 266 => 146 | 314 => 147 | n => n, fun | 9 => 9 | 3 => 3 | 4 => 4 | 5 => 5 | 0 => 0 | 46 => 186 | 146 => 192 | 51 => 191 | n => n, fun | 1 => 0 | n => n⟩
theorem Tryd.lays138 : Go.Proofs.Lays.n138 Tryd.prog Tryd.lays138_ren := {
  mixed := by kernel_rfl
  f138 := Tryd.func112.trans (congrArg some (by kernel_rfl))
  f143 := Tryd.func105.trans (congrArg some (by kernel_rfl))
  f195 := Tryd.func128.trans (congrArg some (by kernel_rfl))
  f217 := Tryd.func137.trans (congrArg some (by kernel_rfl))
  f218 := Tryd.func129.trans (congrArg some (by kernel_rfl))
  f219 := Tryd.func125.trans (congrArg some (by kernel_rfl))
  f224 := Tryd.func139.trans (congrArg some (by kernel_rfl))
  f225 := Tryd.func138.trans (congrArg some (by kernel_rfl))
  f266 := Tryd.func146.trans (congrArg some (by kernel_rfl))
  f267 := Tryd.func140.trans (congrArg some (by kernel_rfl))
  f314 := Tryd.func147.trans (congrArg some (by kernel_rfl))
  t0 := Tryd.underlying0
  a0 := Tryd.isAgg0
  z0 := Tryd.sizeOf0
  v0 := Tryd.zeroValue0
  t3 := Tryd.underlying3
  a3 := Tryd.isAgg3
  z3 := Tryd.sizeOf3
  v3 := Tryd.zeroValue3
  t4 := Tryd.underlying4
  a4 := Tryd.isAgg4
  z4 := Tryd.sizeOf4
  v4 := Tryd.zeroValue4
  t5 := Tryd.underlying5
  a5 := Tryd.isAgg5
  z5 := Tryd.sizeOf5
  v5 := Tryd.zeroValue5
  t9 := Tryd.underlying9
  a9 := Tryd.isAgg9
  z9 := Tryd.sizeOf9
  v9 := Tryd.zeroValue9
  t46 := Tryd.underlying186
  a46 := Tryd.isAgg186
  z46 := Tryd.sizeOf186
  v46 := Tryd.zeroValue186
  t51 := Tryd.underlying191
  a51 := Tryd.isAgg191
  z51 := Tryd.sizeOf191
  v51 := Tryd.zeroValue191
  t146 := Tryd.underlying192
  a146 := Tryd.isAgg192
  z146 := Tryd.sizeOf192
  v146 := Tryd.zeroValue192
  g1 := by kernel_rfl }
def Tryd.lays219_ren : Go.Shelf.Ren := ⟨fun | 219 => 125 | 217 => 137 | 225 => 138 | 224 => 139 | 267 => 140 | 266 => 146 | 314 => 147 | n => n, fun | 9 => 9 | 3 => 3 | 4 => 4 | 5 => 5 | 46 => 186 | 146 => 192 | 51 => 191 | n => n, fun | 1 => 0 | n => n⟩
theorem Tryd.lays219 : Go.Proofs.Lays.n219 Tryd.prog Tryd.lays219_ren := {
  mixed := by kernel_rfl
  f217 := Tryd.func137.trans (congrArg some (by kernel_rfl))
  f219 := Tryd.func125.trans (congrArg some (by kernel_rfl))
  f224 := Tryd.func139.trans (congrArg some (by kernel_rfl))
  f225 := Tryd.func138.trans (congrArg some (by kernel_rfl))
  f266 := Tryd.func146.trans (congrArg some (by kernel_rfl))
  f267 := Tryd.func140.trans (congrArg some (by kernel_rfl))
  f314 := Tryd.func147.trans (congrArg some (by kernel_rfl))
  t3 := Tryd.underlying3
  a3 := Tryd.isAgg3
  z3 := Tryd.sizeOf3
  v3 := Tryd.zeroValue3
  t4 := Tryd.underlying4
  a4 := Tryd.isAgg4
  z4 := Tryd.sizeOf4
  v4 := Tryd.zeroValue4
  t5 := Tryd.underlying5
  a5 := Tryd.isAgg5
  z5 := Tryd.sizeOf5
  v5 := Tryd.zeroValue5
  t9 := Tryd.underlying9
  a9 := Tryd.isAgg9
  z9 := Tryd.sizeOf9
  v9 := Tryd.zeroValue9
  t46 := Tryd.underlying186
  a46 := Tryd.isAgg186
  z46 := Tryd.sizeOf186
  v46 := Tryd.zeroValue186
  t51 := Tryd.underlying191
  a51 := Tryd.isAgg191
  z51 := Tryd.sizeOf191
  v51 := Tryd.zeroValue191
  t146 := Tryd.underlying192
  a146 := Tryd.isAgg192
  z146 := Tryd.sizeOf192
  v146 := Tryd.zeroValue192
  g1 := by kernel_rfl }
end Go.Proofs

set_option linter.unusedVariables false
set_option linter.unusedSimpArgs false
set_option maxRecDepth 100000
namespace Go.Aa.T
open Go.Aa Go.Proofs Go.RowKit Go.Shelf
theorem cfgOk : CfgOk Tryd.prog cfg := by
  refine ⟨by kernel_rfl, fun f A h => tab_fn h, fun f g h => ?_, fun f h => ?_⟩
  · have h : extF f = some g := h
    unfold extF at h
    split at h <;> simp only [Option.some.injEq, reduceCtorEq] at h <;> subst h
    · exact ext_trim (fun _ _ => by kernel_rfl) fun s c w h1 h2 h3 => Any.strings_Trim_laid Tryd.lays160 (by kernel_rfl) s c w h1 h2 h3
    · exact ext_join (fun _ _ => by kernel_rfl) (fun a c sep w => Any.strings_Join_none Tryd.lays156 Tryd.Builder_Extra_156 a c sep w) fun bk o c xs sep w h1 h2 h3 h4 h5 => Any.strings_Join Tryd.lays156 Tryd.Builder_Extra_156 bk o c xs sep w h1 h2 h3 h4 h5
    · exact ext_index (fun _ _ => by kernel_rfl) fun s c w => Any.strings_Index_one Tryd.lays143 s c w
    · exact ext_count (fun _ _ => by kernel_rfl) fun s c w => Any.strings_Count_one Tryd.lays138 s c w
    · exact ext_index (fun _ _ => by kernel_rfl) fun s c w => Any.stringslite_Index_one Tryd.lays219 s c w
  · have h : (f == 101) = true := h
    have : f = 101 := by simpa using h
    subst this
    exact Go.Proofs.YtmlipdlbeddijaaDoor.T.tryOk
#print axioms cfgOk
end Go.Aa.T

set_option linter.unusedVariables false
set_option maxRecDepth 100000
namespace Go.Aa.T
open Go.Aa
def b41_0 : ACode := (.seq (.seq (.region [⟨some 5, .mov (.t 4), none, []⟩, ⟨some 6, .mov (.t 0), none, []⟩, ⟨some 7, .len false (.t 6), none, []⟩, ⟨some 8, .bin .lss (.t 5) (.t 7), none, []⟩] false) (.cond (.t 8) .skip (.exit 0))) (.seq (.block 1 (.region [⟨some 11, .mov (.t 3), none, []⟩, ⟨some 12, .mov (.t 0), none, []⟩, ⟨some 13, .mov (.t 4), none, []⟩, ⟨some 14, .idx 2 (.t 12) (.t 13), none, [2, 1]⟩, ⟨some 15, .fld 0 1 (.t 14), none, [1, 2, 3]⟩, ⟨some 16, .load false 1 (.t 15), none, [3, 2, 1, 4]⟩, ⟨some 17, .mov (.t 0), none, []⟩, ⟨some 18, .mov (.t 4), none, []⟩, ⟨some 19, .idx 2 (.t 17) (.t 18), none, [7, 6]⟩, ⟨some 20, .fld 1 1 (.t 19), none, [6, 7, 8]⟩, ⟨some 21, .load false 1 (.t 20), none, [8, 7, 6, 9]⟩, ⟨some 22, .build [(.str []), (.str [])] [(0, 1, (.t 16)), (1, 1, (.t 21))], none, [9, 6, 7, 8, 10, 4, 1, 2, 3, 5]⟩, ⟨some 23, .bslice 2 [(.t 22)], none, [5, 3, 2, 1, 4, 10, 8, 7, 6, 9, 11]⟩, ⟨some 24, .append 2 32 (.t 11) (.t 23), none, [11, 9, 6, 7, 8, 10, 4, 1, 2, 3, 5, 12, 0]⟩, ⟨some 3, .mov (.t 24), none, [0, 12, 5, 3, 2, 1, 4, 10, 8, 7, 6, 9, 11, 13]⟩] true)) (.region [⟨some 9, .mov (.t 4), none, []⟩, ⟨some 10, .bin .add (.t 9) (.c (.int .i64 1)), none, []⟩, ⟨some 4, .mov (.t 10), none, []⟩] false)))
def k41_0 : List AIt := [.lp b41_0, .blk 0, .c (.seq (.region [⟨some 25, .mov (.t 3), none, []⟩, ⟨some 2, .mov (.t 25), none, []⟩] false) .ret)]
def b42_0 : ACode := (.seq (.seq (.region [⟨some 5, .mov (.t 4), none, []⟩, ⟨some 6, .mov (.t 0), none, []⟩, ⟨some 7, .len false (.t 6), none, []⟩, ⟨some 8, .bin .lss (.t 5) (.t 7), none, []⟩] false) (.cond (.t 8) .skip (.exit 0))) (.seq (.block 1 (.region [⟨some 11, .mov (.t 3), none, []⟩, ⟨some 12, .mov (.t 0), none, []⟩, ⟨some 13, .mov (.t 4), none, []⟩, ⟨some 14, .idx 3 (.t 12) (.t 13), none, [2, 1]⟩, ⟨some 15, .fld 0 1 (.t 14), none, [1, 2, 3]⟩, ⟨some 16, .load false 1 (.t 15), none, [3, 2, 1, 4]⟩, ⟨some 17, .mov (.t 0), none, []⟩, ⟨some 18, .mov (.t 4), none, []⟩, ⟨some 19, .idx 3 (.t 17) (.t 18), none, [7, 6]⟩, ⟨some 20, .fld 1 1 (.t 19), none, [6, 7, 8]⟩, ⟨some 21, .load false 1 (.t 20), none, [8, 7, 6, 9]⟩, ⟨some 22, .mov (.t 0), none, []⟩, ⟨some 23, .mov (.t 4), none, []⟩, ⟨some 24, .idx 3 (.t 22) (.t 23), none, [12, 11]⟩, ⟨some 25, .fld 2 1 (.t 24), none, [11, 12, 13]⟩, ⟨some 26, .load false 1 (.t 25), none, [13, 12, 11, 14]⟩, ⟨some 27, .build [(.int .i64 0), (.str []), (.str [])] [(0, 1, (.t 16)), (1, 1, (.t 21)), (2, 1, (.t 26))], none, [14, 11, 12, 13, 15, 9, 6, 7, 8, 10, 4, 1, 2, 3, 5]⟩, ⟨some 28, .bslice 3 [(.t 27)], none, [5, 3, 2, 1, 4, 10, 8, 7, 6, 9, 15, 13, 12, 11, 14, 16]⟩, ⟨some 29, .append 3 40 (.t 11) (.t 28), none, [16, 14, 11, 12, 13, 15, 9, 6, 7, 8, 10, 4, 1, 2, 3, 5, 17, 0]⟩, ⟨some 3, .mov (.t 29), none, [0, 17, 5, 3, 2, 1, 4, 10, 8, 7, 6, 9, 15, 13, 12, 11, 14, 16, 18]⟩] true)) (.region [⟨some 9, .mov (.t 4), none, []⟩, ⟨some 10, .bin .add (.t 9) (.c (.int .i64 1)), none, []⟩, ⟨some 4, .mov (.t 10), none, []⟩] false)))
def k42_0 : List AIt := [.lp b42_0, .blk 0, .c (.seq (.region [⟨some 30, .mov (.t 3), none, []⟩, ⟨some 2, .mov (.t 30), none, []⟩] false) .ret)]
def b43_0 : ACode := (.seq (.seq (.region [⟨some 7, .mov (.t 3), none, []⟩, ⟨some 8, .mov (.t 0), none, []⟩, ⟨some 9, .len false (.t 8), none, []⟩, ⟨some 10, .bin .lss (.t 7) (.t 9), none, []⟩] false) (.cond (.t 10) .skip (.exit 0))) (.seq (.block 1 (.seq (.seq (.region [⟨some 13, .mov (.t 0), none, []⟩, ⟨some 14, .mov (.t 3), none, []⟩, ⟨some 15, .idx 2 (.t 13) (.t 14), none, []⟩, ⟨some 16, .fld 0 1 (.t 15), none, []⟩, ⟨some 17, .load false 1 (.t 16), none, []⟩, ⟨some 18, .call (.c (.func 61 [])) [(.t 17)], none, []⟩, ⟨some 19, .un .not (.t 18), none, []⟩, ⟨some 20, .mov (.t 19), none, []⟩, ⟨some 21, .mov (.t 0), some (20, false), []⟩, ⟨some 22, .mov (.t 3), some (20, false), []⟩, ⟨some 23, .idx 2 (.t 21) (.t 22), some (20, false), []⟩, ⟨some 24, .fld 1 1 (.t 23), some (20, false), []⟩, ⟨some 25, .load false 1 (.t 24), some (20, false), []⟩, ⟨some 26, .call (.c (.func 61 [])) [(.t 25)], some (20, false), []⟩, ⟨some 27, .un .not (.t 26), some (20, false), []⟩, ⟨some 28, .pick (.t 20) (.c (.bool true)) (.t 27), none, []⟩] false) (.cond (.t 28) (.seq (.region [⟨some 2, .mov (.c (.int .i64 3)), none, []⟩] false) .ret) .skip)) (.seq (.region [⟨some 29, .mov (.t 3), none, []⟩, ⟨some 30, .bin .gtr (.t 29) (.c (.int .i64 0)), none, [0]⟩, ⟨some 31, .mov (.t 30), none, [0, 1]⟩, ⟨some 32, .mov (.t 0), some (31, true), [1, 0, 2]⟩, ⟨some 33, .mov (.t 3), some (31, true), [1, 0, 2]⟩, ⟨some 34, .idx 2 (.t 32) (.t 33), some (31, true), [4, 2, 0, 1, 3]⟩, ⟨some 35, .fld 0 1 (.t 34), some (31, true), [3, 1, 0, 2, 4, 5]⟩, ⟨some 36, .load false 1 (.t 35), some (31, true), [5, 4, 2, 0, 1, 3, 6]⟩, ⟨some 37, .mov (.t 0), some (31, true), [1, 0, 2]⟩, ⟨some 38, .mov (.t 3), some (31, true), [1, 0, 2]⟩, ⟨some 39, .bin .sub (.t 38) (.c (.int .i64 1)), some (31, true), [2, 0, 1, 9]⟩, ⟨some 40, .idx 2 (.t 37) (.t 39), some (31, true), [9, 10, 2, 0, 1, 8]⟩, ⟨some 41, .fld 0 1 (.t 40), some (31, true), [8, 1, 0, 2, 10, 9, 11]⟩, ⟨some 42, .load false 1 (.t 41), some (31, true), [11, 9, 10, 2, 0, 1, 8, 12]⟩, ⟨some 43, .bin .leq (.t 36) (.t 42), some (31, true), [12, 8, 10, 9, 11, 13, 6, 3, 1, 0, 2, 4, 5, 7]⟩, ⟨some 44, .pick (.t 31) (.t 43) (.c (.bool false)), none, [7, 5, 4, 3, 6, 13, 11, 9, 10, 8, 12, 14, 1, 0, 2]⟩] true) (.cond (.t 44) (.seq (.region [⟨some 2, .mov (.c (.int .i64 13)), none, []⟩] false) .ret) .skip)))) (.region [⟨some 11, .mov (.t 3), none, []⟩, ⟨some 12, .bin .add (.t 11) (.c (.int .i64 1)), none, []⟩, ⟨some 3, .mov (.t 12), none, []⟩] false)))
def k43_0 : List AIt := [.lp b43_0, .blk 0, .c (.seq (.region [⟨some 2, .mov (.c (.int .i64 0)), none, []⟩] false) .ret)]
def b44_0 : ACode := (.seq (.seq (.region [⟨some 8, .mov (.t 3), none, []⟩, ⟨some 9, .mov (.t 0), none, []⟩, ⟨some 10, .len false (.t 9), none, []⟩, ⟨some 11, .bin .lss (.t 8) (.t 10), none, []⟩] false) (.cond (.t 11) .skip (.exit 0))) (.seq (.block 1 (.seq (.region [⟨some 14, .mov (.t 0), none, []⟩, ⟨some 15, .mov (.t 3), none, []⟩, ⟨some 16, .idx 3 (.t 14) (.t 15), none, []⟩, ⟨some 17, .load true 3 (.t 16), none, []⟩, ⟨some 4, .box (.c (.agg [(.int .i64 0), (.str []), (.str [])])), none, []⟩, ⟨none, .store 3 (.t 4) (.t 17), none, []⟩] false) (.seq (.seq (.region [⟨some 18, .fld 0 1 (.t 4), none, []⟩, ⟨some 19, .load false 1 (.t 18), none, []⟩, ⟨some 20, .bin .lss (.t 19) (.c (.int .i64 1)), none, []⟩, ⟨some 21, .mov (.t 20), none, []⟩, ⟨some 22, .fld 0 1 (.t 4), some (21, false), []⟩, ⟨some 23, .load false 1 (.t 22), some (21, false), []⟩, ⟨some 24, .bin .gtr (.t 23) (.c (.int .i64 4)), some (21, false), []⟩, ⟨some 25, .pick (.t 21) (.c (.bool true)) (.t 24), none, []⟩] false) (.cond (.t 25) (.seq (.region [⟨some 2, .mov (.c (.int .i64 1)), none, []⟩] false) .ret) .skip)) (.seq (.region [⟨some 26, .fld 1 1 (.t 4), none, []⟩, ⟨some 27, .load false 1 (.t 26), none, []⟩, ⟨some 28, .call (.c (.func 61 [])) [(.t 27)], none, []⟩, ⟨some 29, .un .not (.t 28), none, []⟩, ⟨some 30, .mov (.t 29), none, []⟩, ⟨some 31, .fld 0 1 (.t 4), some (30, false), []⟩, ⟨some 32, .load false 1 (.t 31), some (30, false), []⟩, ⟨some 33, .bin .leq (.t 32) (.c (.int .i64 2)), some (30, false), []⟩, ⟨some 34, .mov (.t 33), some (30, false), []⟩, ⟨some 35, .fld 2 1 (.t 4), some (34, true), []⟩, ⟨some 36, .load false 1 (.t 35), some (34, true), []⟩, ⟨some 37, .call (.c (.func 61 [])) [(.t 36)], some (34, true), []⟩, ⟨some 38, .un .not (.t 37), some (34, true), []⟩, ⟨some 39, .pick (.t 34) (.t 38) (.c (.bool false)), some (30, false), []⟩, ⟨some 40, .pick (.t 30) (.c (.bool true)) (.t 39), none, []⟩, ⟨some 41, .mov (.t 40), none, []⟩, ⟨some 42, .fld 0 1 (.t 4), some (41, false), []⟩, ⟨some 43, .load false 1 (.t 42), some (41, false), []⟩, ⟨some 44, .bin .geq (.t 43) (.c (.int .i64 3)), some (41, false), []⟩, ⟨some 45, .mov (.t 44), some (41, false), []⟩, ⟨some 46, .fld 2 1 (.t 4), some (45, true), []⟩, ⟨some 47, .load false 1 (.t 46), some (45, true), []⟩, ⟨some 48, .bin .neq (.t 47) (.c (.str [])), some (45, true), []⟩, ⟨some 49, .pick (.t 45) (.t 48) (.c (.bool false)), some (41, false), []⟩, ⟨some 50, .pick (.t 41) (.c (.bool true)) (.t 49), none, []⟩] false) (.cond (.t 50) (.seq (.region [⟨some 2, .mov (.c (.int .i64 3)), none, []⟩] false) .ret) .skip))))) (.region [⟨some 12, .mov (.t 3), none, []⟩, ⟨some 13, .bin .add (.t 12) (.c (.int .i64 1)), none, []⟩, ⟨some 3, .mov (.t 13), none, []⟩] false)))
def k44_0 : List AIt := [.lp b44_0, .blk 0, .c (.seq (.region [⟨some 2, .mov (.c (.int .i64 0)), none, []⟩] false) .ret)]
def b45_0 : ACode := (.seq (.region [⟨some 11, .bin .lss (.t 10) (.t 9), none, []⟩] false) (.seq (.cond (.t 11) .skip (.exit 0)) (.seq (.block 1 (.seq (.region [⟨some 12, .mov (.t 10), none, []⟩, ⟨some 13, .idx 2 (.t 8) (.t 10), none, []⟩, ⟨some 14, .load true 2 (.t 13), none, []⟩, ⟨some 4, .box (.c (.agg [(.str []), (.str [])])), none, []⟩, ⟨some 3, .mov (.t 12), none, []⟩, ⟨none, .store 2 (.t 4) (.t 14), none, []⟩] false) (.block 2 (.seq (.region [⟨some 16, .fld 0 1 (.t 4), none, []⟩, ⟨some 17, .load false 1 (.t 16), none, []⟩, ⟨some 18, .call (.c (.func 62 [])) [(.t 17)], none, []⟩, ⟨some 19, .un .not (.t 18), none, []⟩, ⟨some 20, .mov (.t 19), none, []⟩, ⟨some 21, .fld 1 1 (.t 4), some (20, false), []⟩, ⟨some 22, .load false 1 (.t 21), some (20, false), []⟩, ⟨some 23, .call (.c (.func 62 [])) [(.t 22)], some (20, false), []⟩, ⟨some 24, .un .not (.t 23), some (20, false), []⟩, ⟨some 25, .pick (.t 20) (.c (.bool true)) (.t 24), none, []⟩, ⟨some 15, .mov (.t 25), none, []⟩] false) (.cond (.t 15) (.seq (.region [⟨some 2, .mov (.c (.int .i64 3)), none, []⟩] false) .ret) (.seq (.region [⟨some 27, .mov (.t 3), none, []⟩, ⟨some 28, .bin .gtr (.t 27) (.c (.int .i64 0)), none, [0]⟩, ⟨some 29, .mov (.t 28), none, [0, 1]⟩, ⟨some 30, .fld 0 1 (.t 4), some (29, true), [1, 0, 2]⟩, ⟨some 31, .load false 1 (.t 30), some (29, true), [2, 0, 1, 3]⟩, ⟨some 32, .mov (.t 0), some (29, true), [1, 0, 2]⟩, ⟨some 33, .mov (.t 3), some (29, true), [1, 0, 2]⟩, ⟨some 34, .bin .sub (.t 33) (.c (.int .i64 1)), some (29, true), [2, 0, 1, 6]⟩, ⟨some 35, .idx 2 (.t 32) (.t 34), some (29, true), [6, 7, 2, 0, 1, 5]⟩, ⟨some 36, .fld 0 1 (.t 35), some (29, true), [5, 1, 0, 2, 7, 6, 8]⟩, ⟨some 37, .load false 1 (.t 36), some (29, true), [8, 6, 7, 2, 0, 1, 5, 9]⟩, ⟨some 38, .bin .leq (.t 31) (.t 37), some (29, true), [9, 5, 7, 6, 8, 10, 3, 1, 0, 2, 4]⟩, ⟨some 39, .pick (.t 29) (.t 38) (.c (.bool false)), none, [4, 3, 10, 8, 6, 7, 5, 9, 11, 1, 0, 2]⟩, ⟨some 26, .mov (.t 39), none, [2, 0, 1, 11, 9, 5, 7, 6, 8, 10, 3, 4, 12]⟩] true) (.cond (.t 26) (.seq (.region [⟨some 2, .mov (.c (.int .i64 13)), none, []⟩] false) .ret) .skip))))))) (.region [⟨some 40, .bin .add (.t 10) (.c (.int .i64 1)), none, []⟩, ⟨some 10, .mov (.t 40), none, []⟩] false))))
def k45_0 : List AIt := [.lp b45_0, .blk 0, .c (.seq (.region [⟨some 2, .mov (.c (.int .i64 0)), none, []⟩] false) .ret)]
def b46_0 : ACode := (.seq (.region [⟨some 12, .bin .lss (.t 11) (.t 10), none, []⟩] false) (.seq (.cond (.t 12) .skip (.exit 0)) (.seq (.block 1 (.seq (.region [⟨some 13, .idx 3 (.t 9) (.t 11), none, []⟩, ⟨some 14, .load true 3 (.t 13), none, []⟩, ⟨some 4, .box (.c (.agg [(.int .i64 0), (.str []), (.str [])])), none, []⟩, ⟨none, .store 3 (.t 4) (.t 14), none, []⟩] false) (.seq (.region [⟨some 15, .fld 2 1 (.t 4), none, []⟩, ⟨some 16, .load false 1 (.t 15), none, []⟩, ⟨some 17, .bin .eql (.t 16) (.c (.str [])), none, []⟩, ⟨some 5, .mov (.t 17), none, []⟩] false) (.seq (.seq (.region [⟨some 18, .fld 0 1 (.t 4), none, []⟩, ⟨some 19, .load false 1 (.t 18), none, []⟩] false) (.block 2 (.seq (.seq (.region [⟨some 21, .bin .eql (.t 19) (.c (.int .i64 1)), none, []⟩, ⟨some 20, .mov (.t 21), none, []⟩] false) (.cond (.t 20) .skip (.region [⟨some 22, .bin .eql (.t 19) (.c (.int .i64 2)), none, []⟩, ⟨some 20, .mov (.t 22), none, []⟩] false))) (.cond (.t 20) (.region [⟨some 23, .fld 2 1 (.t 4), none, []⟩, ⟨some 24, .load false 1 (.t 23), none, []⟩, ⟨some 25, .call (.c (.func 62 [])) [(.t 24)], none, []⟩, ⟨some 5, .mov (.t 25), none, []⟩] false) (.seq (.seq (.region [⟨some 27, .bin .eql (.t 19) (.c (.int .i64 3)), none, []⟩, ⟨some 26, .mov (.t 27), none, []⟩] false) (.cond (.t 26) .skip (.region [⟨some 28, .bin .eql (.t 19) (.c (.int .i64 4)), none, []⟩, ⟨some 26, .mov (.t 28), none, []⟩] false))) (.cond (.t 26) .skip (.seq (.region [⟨some 2, .mov (.c (.int .i64 1)), none, []⟩] false) .ret))))))) (.seq (.region [⟨some 29, .fld 1 1 (.t 4), none, []⟩, ⟨some 30, .load false 1 (.t 29), none, []⟩, ⟨some 31, .call (.c (.func 62 [])) [(.t 30)], none, []⟩, ⟨some 32, .un .not (.t 31), none, []⟩, ⟨some 33, .mov (.t 32), none, []⟩, ⟨some 34, .mov (.t 5), some (33, false), []⟩, ⟨some 35, .un .not (.t 34), some (33, false), []⟩, ⟨some 36, .pick (.t 33) (.c (.bool true)) (.t 35), none, []⟩] false) (.cond (.t 36) (.seq (.region [⟨some 2, .mov (.c (.int .i64 3)), none, []⟩] false) .ret) .skip)))))) (.region [⟨some 37, .bin .add (.t 11) (.c (.int .i64 1)), none, []⟩, ⟨some 11, .mov (.t 37), none, []⟩] false))))
def k46_0 : List AIt := [.lp b46_0, .blk 0, .c (.seq (.region [⟨some 2, .mov (.c (.int .i64 0)), none, []⟩] false) .ret)]
def b57_0 : ACode := (.seq (.seq (.region [⟨some 11, .mov (.t 5), none, []⟩, ⟨some 12, .mov (.t 0), none, []⟩, ⟨some 13, .len false (.t 12), none, []⟩, ⟨some 14, .bin .lss (.t 11) (.t 13), none, []⟩] false) (.cond (.t 14) .skip (.exit 0))) (.seq (.block 1 (.seq (.region [⟨some 17, .mov (.t 0), none, []⟩, ⟨some 18, .mov (.t 5), none, []⟩, ⟨some 19, .idx 2 (.t 17) (.t 18), none, [1, 0]⟩, ⟨some 20, .load true 2 (.t 19), none, [0, 1, 2]⟩, ⟨some 21, .mov (.t 1), none, []⟩, ⟨some 22, .mov (.t 5), none, []⟩, ⟨some 23, .idx 2 (.t 21) (.t 22), none, [5, 4]⟩, ⟨some 24, .load true 2 (.t 23), none, [4, 5, 6]⟩, ⟨some 25, .eqst true [.s, .s] (.t 20) (.t 24), none, [6, 5, 4, 7, 2, 1, 0, 3]⟩] true) (.cond (.t 25) (.seq (.region [⟨some 4, .mov (.c (.bool false)), none, []⟩] false) .ret) .skip))) (.region [⟨some 15, .mov (.t 5), none, []⟩, ⟨some 16, .bin .add (.t 15) (.c (.int .i64 1)), none, []⟩, ⟨some 5, .mov (.t 16), none, []⟩] false)))
def k57_0 : List AIt := [.lp b57_0, .blk 0, .c (.seq (.region [⟨some 4, .mov (.c (.bool true)), none, []⟩] false) .ret)]
def b58_0 : ACode := (.seq (.seq (.region [⟨some 11, .mov (.t 5), none, []⟩, ⟨some 12, .mov (.t 0), none, []⟩, ⟨some 13, .len false (.t 12), none, []⟩, ⟨some 14, .bin .lss (.t 11) (.t 13), none, []⟩] false) (.cond (.t 14) .skip (.exit 0))) (.seq (.block 1 (.seq (.region [⟨some 17, .mov (.t 0), none, []⟩, ⟨some 18, .mov (.t 5), none, []⟩, ⟨some 19, .idx 3 (.t 17) (.t 18), none, [1, 0]⟩, ⟨some 20, .load true 3 (.t 19), none, [0, 1, 2]⟩, ⟨some 21, .mov (.t 1), none, []⟩, ⟨some 22, .mov (.t 5), none, []⟩, ⟨some 23, .idx 3 (.t 21) (.t 22), none, [5, 4]⟩, ⟨some 24, .load true 3 (.t 23), none, [4, 5, 6]⟩, ⟨some 25, .eqst true [.i, .s, .s] (.t 20) (.t 24), none, [6, 5, 4, 7, 2, 1, 0, 3]⟩] true) (.cond (.t 25) (.seq (.region [⟨some 4, .mov (.c (.bool false)), none, []⟩] false) .ret) .skip))) (.region [⟨some 15, .mov (.t 5), none, []⟩, ⟨some 16, .bin .add (.t 15) (.c (.int .i64 1)), none, []⟩, ⟨some 5, .mov (.t 16), none, []⟩] false)))
def k58_0 : List AIt := [.lp b58_0, .blk 0, .c (.seq (.region [⟨some 4, .mov (.c (.bool true)), none, []⟩] false) .ret)]
def b59_0 : ACode := (.seq (.seq (.region [⟨some 13, .mov (.t 6), none, []⟩, ⟨some 14, .mov (.t 4), none, []⟩, ⟨some 15, .len false (.t 14), none, []⟩, ⟨some 16, .bin .lss (.t 13) (.t 15), none, []⟩] false) (.cond (.t 16) .skip (.exit 0))) (.seq (.block 1 (.seq (.region [⟨some 19, .mov (.t 4), none, []⟩, ⟨some 20, .mov (.t 6), none, []⟩, ⟨some 21, .idx 1 (.t 19) (.t 20), none, []⟩, ⟨some 22, .load false 1 (.t 21), none, []⟩, ⟨some 23, .call (.c (.func 80 [])) [(.t 22), (.c (.int .u8 58))], none, []⟩, ⟨some 7, .mov (.t 23), none, []⟩] false) (.seq (.seq (.region [⟨some 24, .mov (.t 7), none, []⟩, ⟨some 25, .len false (.t 24), none, []⟩, ⟨some 26, .bin .neq (.t 25) (.c (.int .i64 2)), none, []⟩] false) (.cond (.t 26) (.seq (.region [⟨some 2, .mov (.c (.sl .full [])), none, []⟩, ⟨some 3, .mov (.c (.int .i64 2)), none, []⟩] false) .ret) .skip)) (.region [⟨some 27, .mov (.t 5), none, []⟩, ⟨some 28, .mov (.t 7), none, []⟩, ⟨some 29, .idx 1 (.t 28) (.c (.int .i64 0)), none, [1]⟩, ⟨some 30, .load false 1 (.t 29), none, [1, 2]⟩, ⟨some 31, .mov (.t 7), none, []⟩, ⟨some 32, .idx 1 (.t 31) (.c (.int .i64 1)), none, [4]⟩, ⟨some 33, .load false 1 (.t 32), none, [4, 5]⟩, ⟨some 34, .build [(.str []), (.str [])] [(0, 1, (.t 30)), (1, 1, (.t 33))], none, [5, 4, 6, 2, 1, 3]⟩, ⟨some 35, .bslice 2 [(.t 34)], none, [3, 1, 2, 6, 4, 5, 7]⟩, ⟨some 36, .append 2 32 (.t 27) (.t 35), none, [7, 5, 4, 6, 2, 1, 3, 8, 0]⟩, ⟨some 5, .mov (.t 36), none, [0, 8, 3, 1, 2, 6, 4, 5, 7, 9]⟩] true)))) (.region [⟨some 17, .mov (.t 6), none, []⟩, ⟨some 18, .bin .add (.t 17) (.c (.int .i64 1)), none, []⟩, ⟨some 6, .mov (.t 18), none, []⟩] false)))
def k59_0 : List AIt := [.lp b59_0, .blk 0, .c (.seq (.region [⟨some 37, .mov (.t 5), none, []⟩, ⟨some 38, .call (.c (.func 43 [])) [(.t 37)], none, []⟩, ⟨some 8, .mov (.t 38), none, []⟩] false) (.seq (.seq (.region [⟨some 39, .mov (.t 8), none, []⟩, ⟨some 40, .bin .neq (.t 39) (.c (.int .i64 0)), none, []⟩] false) (.cond (.t 40) (.seq (.region [⟨some 41, .mov (.t 8), none, []⟩, ⟨some 2, .mov (.c (.sl .full [])), none, []⟩, ⟨some 3, .mov (.t 41), none, []⟩] false) .ret) .skip)) (.seq (.region [⟨some 42, .mov (.t 5), none, []⟩, ⟨some 2, .mov (.t 42), none, []⟩, ⟨some 3, .mov (.c (.int .i64 0)), none, []⟩] false) .ret)))]
def b60_0 : ACode := (.seq (.seq (.region [⟨some 15, .mov (.t 6), none, []⟩, ⟨some 16, .mov (.t 4), none, []⟩, ⟨some 17, .len false (.t 16), none, []⟩, ⟨some 18, .bin .lss (.t 15) (.t 17), none, []⟩] false) (.cond (.t 18) .skip (.exit 0))) (.seq (.block 1 (.seq (.region [⟨some 21, .mov (.t 4), none, []⟩, ⟨some 22, .mov (.t 6), none, []⟩, ⟨some 23, .idx 1 (.t 21) (.t 22), none, []⟩, ⟨some 24, .load false 1 (.t 23), none, []⟩, ⟨some 7, .mov (.t 24), none, []⟩] false) (.seq (.region [⟨some 26, .mov (.t 7), none, []⟩, ⟨some 27, .call (.c (.func 96 [])) [(.t 26)], none, []⟩, ⟨some 25, .mov (.t 27), none, []⟩, ⟨some 28, .extract (.t 25) 0, none, []⟩, ⟨some 29, .extract (.t 25) 1, none, []⟩, ⟨some 8, .mov (.t 28), none, []⟩, ⟨some 9, .mov (.t 29), none, []⟩] false) (.seq (.seq (.region [⟨some 30, .mov (.t 7), none, []⟩, ⟨some 31, .bin .eql (.t 30) (.c (.str [])), none, []⟩, ⟨some 32, .mov (.t 31), none, []⟩, ⟨some 33, .mov (.t 8), some (32, false), []⟩, ⟨some 34, .bin .gtr (.t 33) (.c (.int .i64 1)), some (32, false), []⟩, ⟨some 35, .pick (.t 32) (.c (.bool true)) (.t 34), none, []⟩, ⟨some 36, .mov (.t 35), none, []⟩, ⟨some 37, .mov (.t 8), some (36, false), []⟩, ⟨some 38, .bin .eql (.t 37) (.c (.int .i64 1)), some (36, false), []⟩, ⟨some 39, .mov (.t 38), some (36, false), []⟩, ⟨some 40, .mov (.t 7), some (39, true), []⟩, ⟨some 41, .idxs (.t 40) (.c (.int .i64 0)), some (39, true), []⟩, ⟨some 42, .bin .eql (.t 41) (.c (.int .u8 45)), some (39, true), []⟩, ⟨some 43, .pick (.t 39) (.t 42) (.c (.bool false)), some (36, false), []⟩, ⟨some 44, .pick (.t 36) (.c (.bool true)) (.t 43), none, []⟩] false) (.cond (.t 44) (.seq (.region [⟨some 2, .mov (.c (.sl .full [])), none, []⟩, ⟨some 3, .mov (.c (.int .i64 2)), none, []⟩] false) .ret) .skip)) (.block 2 (.seq (.region [⟨some 57, .mov (.t 8), none, []⟩, ⟨some 58, .bin .eql (.t 57) (.c (.int .i64 0)), none, []⟩, ⟨some 59, .mov (.t 58), none, []⟩, ⟨some 60, .mov (.t 7), some (59, true), []⟩, ⟨some 61, .idxs (.t 60) (.c (.int .i64 0)), some (59, true), []⟩, ⟨some 62, .bin .eql (.t 61) (.c (.int .u8 45)), some (59, true), []⟩, ⟨some 63, .pick (.t 59) (.t 62) (.c (.bool false)), none, []⟩, ⟨some 56, .mov (.t 63), none, []⟩] false) (.cond (.t 56) (.region [⟨some 64, .mov (.t 5), none, []⟩, ⟨some 65, .mov (.t 7), none, []⟩, ⟨some 66, .slice 0 (.t 65) (some (.c (.int .i64 1))) none none, none, []⟩, ⟨some 67, .build [(.int .i64 0), (.str []), (.str [])] [(0, 1, (.c (.int .i64 4))), (1, 1, (.t 66))], none, []⟩, ⟨some 68, .bslice 3 [(.t 67)], none, []⟩, ⟨some 69, .append 3 40 (.t 64) (.t 68), none, []⟩, ⟨some 5, .mov (.t 69), none, []⟩] false) (.seq (.region [⟨some 71, .mov (.t 8), none, []⟩, ⟨some 72, .bin .eql (.t 71) (.c (.int .i64 0)), none, []⟩, ⟨some 70, .mov (.t 72), none, []⟩] false) (.cond (.t 70) (.region [⟨some 73, .mov (.t 5), none, []⟩, ⟨some 74, .mov (.t 7), none, []⟩, ⟨some 75, .build [(.int .i64 0), (.str []), (.str [])] [(0, 1, (.c (.int .i64 3))), (1, 1, (.t 74))], none, []⟩, ⟨some 76, .bslice 3 [(.t 75)], none, []⟩, ⟨some 77, .append 3 40 (.t 73) (.t 76), none, []⟩, ⟨some 5, .mov (.t 77), none, []⟩] false) (.seq (.region [⟨some 79, .mov (.t 7), none, []⟩, ⟨some 80, .mov (.t 9), none, []⟩, ⟨some 81, .idxs (.t 79) (.t 80), none, []⟩, ⟨some 82, .bin .eql (.t 81) (.c (.int .u8 58)), none, []⟩, ⟨some 78, .mov (.t 82), none, []⟩] false) (.cond (.t 78) (.region [⟨some 83, .mov (.t 5), none, []⟩, ⟨some 84, .mov (.t 7), none, []⟩, ⟨some 85, .mov (.t 9), none, []⟩, ⟨some 86, .slice 0 (.t 84) none (some (.t 85)) none, none, [2, 1]⟩, ⟨some 87, .mov (.t 7), none, []⟩, ⟨some 88, .mov (.t 9), none, []⟩, ⟨some 89, .bin .add (.t 88) (.c (.int .i64 1)), none, [5]⟩, ⟨some 90, .slice 0 (.t 87) (some (.t 89)) none none, none, [5, 6, 4]⟩, ⟨some 91, .build [(.int .i64 0), (.str []), (.str [])] [(0, 1, (.c (.int .i64 1))), (1, 1, (.t 86)), (2, 1, (.t 90))], none, [4, 6, 5, 7, 1, 2, 3]⟩, ⟨some 92, .bslice 3 [(.t 91)], none, [3, 2, 1, 7, 5, 6, 4, 8]⟩, ⟨some 93, .append 3 40 (.t 83) (.t 92), none, [8, 4, 6, 5, 7, 1, 2, 3, 9, 0]⟩, ⟨some 5, .mov (.t 93), none, [0, 9, 3, 2, 1, 7, 5, 6, 4, 8, 10]⟩] true) (.region [⟨some 45, .mov (.t 5), none, []⟩, ⟨some 46, .mov (.t 7), none, []⟩, ⟨some 47, .mov (.t 9), none, []⟩, ⟨some 48, .slice 0 (.t 46) none (some (.t 47)) none, none, [2, 1]⟩, ⟨some 49, .mov (.t 7), none, []⟩, ⟨some 50, .mov (.t 9), none, []⟩, ⟨some 51, .bin .add (.t 50) (.c (.int .i64 1)), none, [5]⟩, ⟨some 52, .slice 0 (.t 49) (some (.t 51)) none none, none, [5, 6, 4]⟩, ⟨some 53, .build [(.int .i64 0), (.str []), (.str [])] [(0, 1, (.c (.int .i64 2))), (1, 1, (.t 48)), (2, 1, (.t 52))], none, [4, 6, 5, 7, 1, 2, 3]⟩, ⟨some 54, .bslice 3 [(.t 53)], none, [3, 2, 1, 7, 5, 6, 4, 8]⟩, ⟨some 55, .append 3 40 (.t 45) (.t 54), none, [8, 4, 6, 5, 7, 1, 2, 3, 9, 0]⟩, ⟨some 5, .mov (.t 55), none, [0, 9, 3, 2, 1, 7, 5, 6, 4, 8, 10]⟩] true)))))))))))) (.region [⟨some 19, .mov (.t 6), none, []⟩, ⟨some 20, .bin .add (.t 19) (.c (.int .i64 1)), none, []⟩, ⟨some 6, .mov (.t 20), none, []⟩] false)))
def k60_0 : List AIt := [.lp b60_0, .blk 0, .c (.seq (.region [⟨some 94, .mov (.t 5), none, []⟩, ⟨some 95, .call (.c (.func 44 [])) [(.t 94)], none, []⟩, ⟨some 10, .mov (.t 95), none, []⟩] false) (.seq (.seq (.region [⟨some 96, .mov (.t 10), none, []⟩, ⟨some 97, .bin .neq (.t 96) (.c (.int .i64 0)), none, []⟩] false) (.cond (.t 97) (.seq (.region [⟨some 98, .mov (.t 10), none, []⟩, ⟨some 2, .mov (.c (.sl .full [])), none, []⟩, ⟨some 3, .mov (.t 98), none, []⟩] false) .ret) .skip)) (.seq (.region [⟨some 99, .mov (.t 5), none, []⟩, ⟨some 2, .mov (.t 99), none, []⟩, ⟨some 3, .mov (.c (.int .i64 0)), none, []⟩] false) .ret)))]
def b61_0 : ACode := (.seq (.seq (.region [⟨some 12, .mov (.t 3), none, []⟩, ⟨some 13, .mov (.t 0), none, []⟩, ⟨some 14, .len true (.t 13), none, []⟩, ⟨some 15, .bin .lss (.t 12) (.t 14), none, []⟩] false) (.cond (.t 15) .skip (.exit 0))) (.seq (.block 1 (.seq (.region [⟨some 18, .mov (.t 0), none, []⟩, ⟨some 19, .mov (.t 3), none, []⟩, ⟨some 20, .idxs (.t 18) (.t 19), none, []⟩, ⟨some 21, .bin .lss (.t 20) (.c (.int .u8 97)), none, []⟩, ⟨some 22, .mov (.t 21), none, []⟩, ⟨some 23, .mov (.t 0), some (22, false), []⟩, ⟨some 24, .mov (.t 3), some (22, false), []⟩, ⟨some 25, .idxs (.t 23) (.t 24), some (22, false), []⟩, ⟨some 26, .bin .gtr (.t 25) (.c (.int .u8 122)), some (22, false), []⟩, ⟨some 27, .pick (.t 22) (.c (.bool true)) (.t 26), none, []⟩, ⟨some 28, .mov (.t 27), none, []⟩, ⟨some 29, .mov (.t 0), some (28, true), []⟩, ⟨some 30, .mov (.t 3), some (28, true), []⟩, ⟨some 31, .idxs (.t 29) (.t 30), some (28, true), []⟩, ⟨some 32, .bin .lss (.t 31) (.c (.int .u8 48)), some (28, true), []⟩, ⟨some 33, .mov (.t 32), some (28, true), []⟩, ⟨some 34, .mov (.t 0), some (33, false), []⟩, ⟨some 35, .mov (.t 3), some (33, false), []⟩, ⟨some 36, .idxs (.t 34) (.t 35), some (33, false), []⟩, ⟨some 37, .bin .gtr (.t 36) (.c (.int .u8 57)), some (33, false), []⟩, ⟨some 38, .pick (.t 33) (.c (.bool true)) (.t 37), some (28, true), []⟩, ⟨some 39, .pick (.t 28) (.t 38) (.c (.bool false)), none, []⟩] false) (.cond (.t 39) (.seq (.region [⟨some 2, .mov (.c (.bool false)), none, []⟩] false) .ret) .skip))) (.region [⟨some 16, .mov (.t 3), none, []⟩, ⟨some 17, .bin .add (.t 16) (.c (.int .i64 1)), none, []⟩, ⟨some 3, .mov (.t 17), none, []⟩] false)))
def k61_0 : List AIt := [.lp b61_0, .blk 0, .c (.seq (.region [⟨some 2, .mov (.c (.bool true)), none, []⟩] false) .ret)]
def b80_0 : ACode := (.seq (.seq (.region [⟨some 8, .mov (.t 6), none, []⟩, ⟨some 9, .mov (.t 0), none, []⟩, ⟨some 10, .len true (.t 9), none, []⟩, ⟨some 11, .bin .lss (.t 8) (.t 10), none, []⟩] false) (.cond (.t 11) .skip (.exit 0))) (.seq (.block 1 (.seq (.seq (.region [⟨some 14, .mov (.t 0), none, []⟩, ⟨some 15, .mov (.t 6), none, []⟩, ⟨some 16, .idxs (.t 14) (.t 15), none, []⟩, ⟨some 17, .mov (.t 1), none, []⟩, ⟨some 18, .bin .eql (.t 16) (.t 17), none, []⟩] false) (.cond (.t 18) (.seq (.region [⟨some 19, .mov (.t 5), none, []⟩, ⟨some 20, .bslice 1 [(.c (.str []))], none, []⟩, ⟨some 21, .appendM 1 16 (.t 19) (.t 20), none, []⟩, ⟨some 5, .mov (.t 21), none, []⟩] false) (.exit 1)) .skip)) (.region [⟨some 22, .mov (.t 5), none, []⟩, ⟨some 23, .mov (.t 5), none, []⟩, ⟨some 24, .len false (.t 23), none, [1]⟩, ⟨some 25, .bin .sub (.t 24) (.c (.int .i64 1)), none, [1, 2]⟩, ⟨some 26, .mov (.t 5), none, []⟩, ⟨some 27, .mov (.t 5), none, []⟩, ⟨some 28, .len false (.t 27), none, [5]⟩, ⟨some 29, .bin .sub (.t 28) (.c (.int .i64 1)), none, [5, 6]⟩, ⟨some 30, .idx 1 (.t 26) (.t 29), none, [6, 5, 7, 4]⟩, ⟨some 31, .load false 1 (.t 30), none, [4, 7, 5, 6, 8]⟩, ⟨some 32, .mov (.t 0), none, []⟩, ⟨some 33, .mov (.t 6), none, []⟩, ⟨some 34, .mov (.t 6), none, []⟩, ⟨some 35, .bin .add (.t 34) (.c (.int .i64 1)), none, [12]⟩, ⟨some 36, .slice 0 (.t 32) (some (.t 33)) (some (.t 35)) none, none, [12, 13, 11, 10]⟩, ⟨some 37, .bin .add (.t 31) (.t 36), none, [10, 11, 13, 12, 14, 8, 6, 5, 7, 4, 9]⟩, ⟨some 38, .idx 1 (.t 22) (.t 25), none, [15, 14, 13, 12, 11, 10, 9, 8, 7, 6, 5, 4, 2, 1, 3, 0]⟩, ⟨none, .store 1 (.t 38) (.t 37), none, [0, 3, 1, 2, 4, 5, 6, 7, 8, 9, 10, 11, 12, 13, 14, 15, 16]⟩] true))) (.region [⟨some 12, .mov (.t 6), none, []⟩, ⟨some 13, .bin .add (.t 12) (.c (.int .i64 1)), none, []⟩, ⟨some 6, .mov (.t 13), none, []⟩] false)))
def k80_0 : List AIt := [.lp b80_0, .blk 0, .c (.seq (.region [⟨some 39, .mov (.t 5), none, []⟩, ⟨some 4, .mov (.t 39), none, []⟩] false) .ret)]
def b84_0 : ACode := (.seq (.region [⟨some 14, .bin .lss (.t 13) (.t 12), none, []⟩] false) (.seq (.cond (.t 14) .skip (.exit 0)) (.seq (.block 1 (.seq (.region [⟨some 15, .idx 2 (.t 11) (.t 13), none, []⟩, ⟨some 16, .load true 2 (.t 15), none, []⟩, ⟨some 7, .box (.c (.agg [(.str []), (.str [])])), none, []⟩, ⟨none, .store 2 (.t 7) (.t 16), none, []⟩] false) (.region [⟨some 17, .mov (.t 5), none, []⟩, ⟨some 18, .mov (.t 1), none, []⟩, ⟨some 19, .load true 2 (.t 7), none, []⟩, ⟨some 20, .call (.t 18) [(.t 19)], none, []⟩, ⟨some 21, .bslice 1 [(.t 20)], none, []⟩, ⟨some 22, .append 1 16 (.t 17) (.t 21), none, []⟩, ⟨some 5, .mov (.t 22), none, []⟩] false))) (.region [⟨some 23, .bin .add (.t 13) (.c (.int .i64 1)), none, []⟩, ⟨some 13, .mov (.t 23), none, []⟩] false))))
def k84_0 : List AIt := [.lp b84_0, .blk 0, .c (.seq (.region [⟨some 24, .mov (.t 5), none, []⟩, ⟨some 25, .call (.c (.func 99 [])) [(.t 24), (.c (.str [44]))], none, []⟩, ⟨some 4, .mov (.t 25), none, []⟩] false) .ret)]
def b86_0 : ACode := (.seq (.region [⟨some 14, .bin .lss (.t 13) (.t 12), none, []⟩] false) (.seq (.cond (.t 14) .skip (.exit 0)) (.seq (.block 1 (.seq (.region [⟨some 15, .idx 3 (.t 11) (.t 13), none, []⟩, ⟨some 16, .load true 3 (.t 15), none, []⟩, ⟨some 7, .box (.c (.agg [(.int .i64 0), (.str []), (.str [])])), none, []⟩, ⟨none, .store 3 (.t 7) (.t 16), none, []⟩] false) (.region [⟨some 17, .mov (.t 5), none, []⟩, ⟨some 18, .mov (.t 1), none, []⟩, ⟨some 19, .load true 3 (.t 7), none, []⟩, ⟨some 20, .call (.t 18) [(.t 19)], none, []⟩, ⟨some 21, .bslice 1 [(.t 20)], none, []⟩, ⟨some 22, .append 1 16 (.t 17) (.t 21), none, []⟩, ⟨some 5, .mov (.t 22), none, []⟩] false))) (.region [⟨some 23, .bin .add (.t 13) (.c (.int .i64 1)), none, []⟩, ⟨some 13, .mov (.t 23), none, []⟩] false))))
def k86_0 : List AIt := [.lp b86_0, .blk 0, .c (.seq (.region [⟨some 24, .mov (.t 5), none, []⟩, ⟨some 25, .call (.c (.func 99 [])) [(.t 24), (.c (.str [44]))], none, []⟩, ⟨some 4, .mov (.t 25), none, []⟩] false) .ret)]
def b96_0 : ACode := (.seq (.seq (.region [⟨some 10, .mov (.t 6), none, []⟩, ⟨some 11, .bin .geq (.t 10) (.c (.int .i64 0)), none, []⟩] false) (.cond (.t 11) .skip (.exit 0))) (.seq (.block 1 (.seq (.region [⟨some 14, .mov (.t 0), none, []⟩, ⟨some 15, .mov (.t 6), none, []⟩, ⟨some 16, .idxs (.t 14) (.t 15), none, []⟩, ⟨some 17, .bin .eql (.t 16) (.c (.int .u8 58)), none, []⟩, ⟨some 18, .mov (.t 17), none, []⟩, ⟨some 19, .mov (.t 0), some (18, false), []⟩, ⟨some 20, .mov (.t 6), some (18, false), []⟩, ⟨some 21, .idxs (.t 19) (.t 20), some (18, false), []⟩, ⟨some 22, .bin .eql (.t 21) (.c (.int .u8 33)), some (18, false), []⟩, ⟨some 23, .pick (.t 18) (.c (.bool true)) (.t 22), none, []⟩] false) (.cond (.t 23) (.seq (.region [⟨some 24, .mov (.t 4), none, []⟩, ⟨some 25, .bin .add (.t 24) (.c (.int .i64 1)), none, []⟩, ⟨some 4, .mov (.t 25), none, []⟩] false) (.region [⟨some 26, .mov (.t 6), none, []⟩, ⟨some 5, .mov (.t 26), none, []⟩] false)) .skip))) (.region [⟨some 12, .mov (.t 6), none, []⟩, ⟨some 13, .bin .sub (.t 12) (.c (.int .i64 1)), none, []⟩, ⟨some 6, .mov (.t 13), none, []⟩] false)))
def k96_0 : List AIt := [.lp b96_0, .blk 0, .c (.seq (.region [⟨some 27, .mov (.t 4), none, []⟩, ⟨some 28, .mov (.t 5), none, []⟩, ⟨some 2, .mov (.t 27), none, []⟩, ⟨some 3, .mov (.t 28), none, []⟩] false) .ret)]
def ra109_0 : ACode := (.region [⟨some 4, .mov (.t 7), none, []⟩] false)
def rb109_0 : ACode := (.block 1 (.seq (.seq (.region [⟨some 8, .mov (.t 4), none, []⟩, ⟨some 9, .bin .eql (.t 8) (.c (.str [])), none, []⟩] false) (.cond (.t 9) (.region [⟨some 10, .call (.c (.func 76 [])) [(.c (.int .i64 2))], none, []⟩] false) .skip)) (.region [⟨some 11, .load false 1 (.t 1), none, []⟩, ⟨some 12, .load false 1 (.t 2), none, []⟩, ⟨some 13, .mov (.t 4), none, []⟩, ⟨some 14, .call (.t 12) [(.t 13)], none, [2, 1]⟩, ⟨some 15, .bslice 2 [(.t 14)], none, [1, 2, 3]⟩, ⟨some 16, .append 2 32 (.t 11) (.t 15), none, [3, 2, 1, 4, 0]⟩, ⟨none, .store 1 (.t 1) (.t 16), none, [0, 4, 1, 2, 3, 5]⟩] true)))
def kr109_0 : List AIt := [.c (.range (.t 6) [7] ra109_0 rb109_0), .blk 0, .c (.region [⟨some 17, .load false 1 (.t 3), none, []⟩, ⟨some 18, .load false 1 (.t 1), none, []⟩, ⟨some 19, .call (.t 17) [(.t 18)], none, []⟩, ⟨some 20, .call (.c (.func 76 [])) [(.t 19)], none, []⟩] false)]
def ra110_0 : ACode := (.region [⟨some 4, .mov (.t 7), none, []⟩] false)
def rb110_0 : ACode := (.block 1 (.seq (.seq (.region [⟨some 8, .mov (.t 4), none, []⟩, ⟨some 9, .bin .eql (.t 8) (.c (.str [])), none, []⟩] false) (.cond (.t 9) (.region [⟨some 10, .call (.c (.func 76 [])) [(.c (.int .i64 2))], none, []⟩] false) .skip)) (.region [⟨some 11, .load false 1 (.t 1), none, []⟩, ⟨some 12, .load false 1 (.t 2), none, []⟩, ⟨some 13, .mov (.t 4), none, []⟩, ⟨some 14, .call (.t 12) [(.t 13)], none, [2, 1]⟩, ⟨some 15, .bslice 3 [(.t 14)], none, [1, 2, 3]⟩, ⟨some 16, .append 3 40 (.t 11) (.t 15), none, [3, 2, 1, 4, 0]⟩, ⟨none, .store 1 (.t 1) (.t 16), none, [0, 4, 1, 2, 3, 5]⟩] true)))
def kr110_0 : List AIt := [.c (.range (.t 6) [7] ra110_0 rb110_0), .blk 0, .c (.region [⟨some 17, .load false 1 (.t 3), none, []⟩, ⟨some 18, .load false 1 (.t 1), none, []⟩, ⟨some 19, .call (.t 17) [(.t 18)], none, []⟩, ⟨some 20, .call (.c (.func 76 [])) [(.t 19)], none, []⟩] false)]
def b136_1 : ACode := (.block 3 (.seq (.region [⟨some 29, .load false 1 (.t 2), none, []⟩, ⟨some 30, .load false 1 (.t 1), none, []⟩, ⟨some 31, .call (.c (.func 105 [])) [(.t 29), (.t 30)], none, []⟩, ⟨some 7, .mov (.t 31), none, []⟩] false) (.seq (.seq (.region [⟨some 32, .mov (.t 7), none, []⟩, ⟨some 33, .bin .lss (.t 32) (.c (.int .i64 0)), none, []⟩] false) (.cond (.t 33) (.exit 2) .skip)) (.seq (.region [⟨some 34, .load false 1 (.t 2), none, []⟩, ⟨some 35, .mov (.t 7), none, []⟩, ⟨some 36, .load false 1 (.t 3), none, []⟩, ⟨some 37, .bin .add (.t 35) (.t 36), none, []⟩, ⟨some 38, .slice 0 (.t 34) none (some (.t 37)) none, none, []⟩, ⟨some 8, .mov (.t 38), none, []⟩] false) (.seq (.seq (.region [⟨some 39, .mov (.t 0), none, []⟩, ⟨some 40, .mov (.t 8), none, []⟩, ⟨some 41, .call (.t 39) [(.t 40)], none, []⟩, ⟨some 42, .un .not (.t 41), none, []⟩] false) (.cond (.t 42) .ret .skip)) (.region [⟨some 43, .load false 1 (.t 2), none, []⟩, ⟨some 44, .mov (.t 7), none, []⟩, ⟨some 45, .load false 1 (.t 1), none, []⟩, ⟨some 46, .len true (.t 45), none, []⟩, ⟨some 47, .bin .add (.t 44) (.t 46), none, []⟩, ⟨some 48, .slice 0 (.t 43) (some (.t 47)) none none, none, []⟩, ⟨none, .store 1 (.t 2) (.t 48), none, []⟩] false))))))
def k136_1 : List AIt := [.lp b136_1, .blk 2, .c (.region [⟨some 49, .mov (.t 0), none, []⟩, ⟨some 50, .load false 1 (.t 2), none, []⟩, ⟨some 51, .call (.t 49) [(.t 50)], none, []⟩] false)]
end Go.Aa.T

set_option linter.unusedVariables false
set_option linter.unusedSimpArgs false
set_option maxRecDepth 100000
namespace Go.Aa.T
open Go.Aa Go.Proofs
theorem known4' : lim cfg (.fn 38) [] Heap.nil = some (.ret (.bool true), (Classical.choose known_ret38)) := Classical.choose_spec known_ret38
end Go.Aa.T

set_option linter.unusedVariables false
set_option linter.unusedSimpArgs false
set_option maxRecDepth 100000
namespace Go.Aa.T
open Go.Aa Go.Proofs
variable {H : Heap}
structure Taint where
  key : List UInt8
  val : List UInt8
  hard : Bool
structure Tol where
  key : List UInt8
  val : List UInt8
  any : Bool
def Taint.cells (t : Taint) : List AV := [.str t.key, .str t.val, .bool t.hard]
def Tol.cells (t : Tol) : List AV := [.str t.key, .str t.val, .bool t.any]
def encT (t : Taint) : AV := .agg t.cells
def encL (t : Tol) : AV := .agg t.cells
instance (t : Taint) : Dat (encT t) := ⟨rfl, rfl⟩
instance (t : Tol) : Dat (encL t) := ⟨rfl, rfl⟩
def Tol.one (x : Tol) (t : Taint) : Prop := (x.key = [] ∨ x.key = t.key) ∧ (x.any = true ∨ x.val = t.val)
instance (x : Tol) (t : Taint) : Decidable (x.one t) := by unfold Tol.one; infer_instance
def H1 (t : Taint) : Heap := ⟨[t.cells], [], []⟩
def bears (l : List Tol) (t : Taint) : Prop := ∃ x ∈ l, x.one t
instance (l : List Tol) (t : Taint) : Decidable (bears l t) := by unfold bears; infer_instance
end Go.Aa.T

set_option linter.unusedVariables false
set_option linter.unusedSimpArgs false
set_option maxRecDepth 100000
namespace Go.Aa.T
open Go.Aa Go.Proofs

def few {α : Type} (f : α → List UInt8 × List UInt8) (l : List α) : Bool := l.all fun x => decide ((f x).1.length ≤ 50) && decide ((f x).2.length ≤ 50)


def nameCh (c : UInt8) : Bool := (decide (97 ≤ c.toNat) && decide (c.toNat ≤ 122)) || (decide (48 ≤ c.toNat) && decide (c.toNat ≤ 57))
def isName (s : List UInt8) : Bool := decide (1 ≤ s.length) && decide (s.length ≤ 12) && s.all nameCh
theorem name_loop (s : List UInt8) (hn : s.length ≤ 12) : ∀ (post : List UInt8) (i : Nat) (hd : s.drop i = post) (T : Env) (hT : Has T [(0, .str s), (3, .int .i64 i)]),
    Goes cfg a61 k61_0 T Heap.nil (IsRet (.bool (post.all nameCh))) := by
  intro post
  induction post with
  | nil =>
    intro i hd T hT
    have hge := drop_ge hd
    exact goG 60 _  hT  (.len (show lenA true (AV.str s) = some (AV.int IntKind.i64 (↑s.length : Int)) from len_str _) <| .no (show (decide ((↑i : Int) < (↑s.length : Int))) = false from decide_eq_false (show ¬ ((↑i : Int) < (↑s.length : Int)) from (by omega))) <| .fin ((ARes.ret (AV.bool true), Heap.mk [] [] [])) rfl) (by kernel_rfl)
  | cons x post ih =>
    intro i hd T hT
    have hlt := drop_lt hd
    have hnx := drop_next hd
    exact goG 60 _  hT  (.len (show lenA true (AV.str s) = some (AV.int IntKind.i64 (↑s.length : Int)) from len_str _) <| .yes (show (decide ((↑i : Int) < (↑s.length : Int))) = true from decide_eq_true (show (↑i : Int) < (↑s.length : Int) from (by omega))) <| .idxs (show idxsA (AV.str s) (AV.int IntKind.i64 (↑i : Int)) = some (AV.int IntKind.u8 (↑x.toNat : Int)) from idx_str hd) <| .split ((↑x.toNat : Int) < (97 : Int)) (fun g1 => .yes (show (decide ((↑x.toNat : Int) < (97 : Int))) = true from decide_eq_true (show (↑x.toNat : Int) < (97 : Int) from g1)) <| .tt <| .idxs (show idxsA (AV.str s) (AV.int IntKind.i64 (↑i : Int)) = some (AV.int IntKind.u8 (↑x.toNat : Int)) from idx_str hd) <| .split ((↑x.toNat : Int) < (48 : Int)) (fun g2 => .yes (show (decide ((↑x.toNat : Int) < (48 : Int))) = true from decide_eq_true (show (↑x.toNat : Int) < (48 : Int) from g2)) <| .tt <| .fin ((ARes.ret (AV.bool false), Heap.mk [] [] [])) (by simp only [IsRet]; grind [nameCh])) (fun g2 => .no (show (decide ((↑x.toNat : Int) < (48 : Int))) = false from decide_eq_false (show ¬ ((↑x.toNat : Int) < (48 : Int)) from g2)) <| .idxs (show idxsA (AV.str s) (AV.int IntKind.i64 (↑i : Int)) = some (AV.int IntKind.u8 (↑x.toNat : Int)) from idx_str hd) <| .split ((57 : Int) < (↑x.toNat : Int)) (fun g3 => .yes (show (decide ((57 : Int) < (↑x.toNat : Int))) = true from decide_eq_true (show (57 : Int) < (↑x.toNat : Int) from g3)) <| .fin ((ARes.ret (AV.bool false), Heap.mk [] [] [])) (by simp only [IsRet]; grind [nameCh])) (fun g3 => .no (show (decide ((57 : Int) < (↑x.toNat : Int))) = false from decide_eq_false (show ¬ ((57 : Int) < (↑x.toNat : Int)) from g3)) <| .bin (show binA BinOp.add (AV.int IntKind.i64 (↑i : Int)) (AV.int IntKind.i64 (1 : Int)) = some (AV.int IntKind.i64 (↑(i + (1 : Nat)) : Int)) from inc_i (by omega)) <| .cutQ k61_0 [(0, AV.str s), (3, AV.int IntKind.i64 (↑(i + (1 : Nat)) : Int))] (Heap.mk [] [] []) (fun T hT => (ih (i + (1 : Nat)) hnx T hT).to (by grind [nameCh]))))) (fun g1 => .no (show (decide ((↑x.toNat : Int) < (97 : Int))) = false from decide_eq_false (show ¬ ((↑x.toNat : Int) < (97 : Int)) from g1)) <| .idxs (show idxsA (AV.str s) (AV.int IntKind.i64 (↑i : Int)) = some (AV.int IntKind.u8 (↑x.toNat : Int)) from idx_str hd) <| .split ((122 : Int) < (↑x.toNat : Int)) (fun g2 => .yes (show (decide ((122 : Int) < (↑x.toNat : Int))) = true from decide_eq_true (show (122 : Int) < (↑x.toNat : Int) from g2)) <| .idxs (show idxsA (AV.str s) (AV.int IntKind.i64 (↑i : Int)) = some (AV.int IntKind.u8 (↑x.toNat : Int)) from idx_str hd) <| .no (show (decide ((↑x.toNat : Int) < (48 : Int))) = false from decide_eq_false (show ¬ ((↑x.toNat : Int) < (48 : Int)) from (by omega))) <| .idxs (show idxsA (AV.str s) (AV.int IntKind.i64 (↑i : Int)) = some (AV.int IntKind.u8 (↑x.toNat : Int)) from idx_str hd) <| .yes (show (decide ((57 : Int) < (↑x.toNat : Int))) = true from decide_eq_true (show (57 : Int) < (↑x.toNat : Int) from (by omega))) <| .fin ((ARes.ret (AV.bool false), Heap.mk [] [] [])) (by simp only [IsRet]; grind [nameCh])) (fun g2 => .no (show (decide ((122 : Int) < (↑x.toNat : Int))) = false from decide_eq_false (show ¬ ((122 : Int) < (↑x.toNat : Int)) from g2)) <| .ff <| .bin (show binA BinOp.add (AV.int IntKind.i64 (↑i : Int)) (AV.int IntKind.i64 (1 : Int)) = some (AV.int IntKind.i64 (↑(i + (1 : Nat)) : Int)) from inc_i (by omega)) <| .cutQ k61_0 [(0, AV.str s), (3, AV.int IntKind.i64 (↑(i + (1 : Nat)) : Int))] (Heap.mk [] [] []) (fun T hT => (ih (i + (1 : Nat)) hnx T hT).to (by grind [nameCh]))))) (by kernel_rfl)
theorem name_any (s : List UInt8) : Gives cfg 61 [.str s] (.bool (isName s)) := by
  refine Gives.run (l61 _ _) ?_
  have h := fun hn => name_loop s hn s 0 rfl
  exact goG 60 []  trivial  (.len (show lenA true (AV.str s) = some (AV.int IntKind.i64 (↑s.length : Int)) from len_str _) <| .split ((↑s.length : Int) < (1 : Int)) (fun g1 => .yes (show (decide ((↑s.length : Int) < (1 : Int))) = true from decide_eq_true (show (↑s.length : Int) < (1 : Int) from g1)) <| .tt <| .fin ((ARes.ret (AV.bool false), Heap.mk [] [] [])) (by simp only [IsRet]; grind [isName])) (fun g1 => .no (show (decide ((↑s.length : Int) < (1 : Int))) = false from decide_eq_false (show ¬ ((↑s.length : Int) < (1 : Int)) from g1)) <| .len (show lenA true (AV.str s) = some (AV.int IntKind.i64 (↑s.length : Int)) from len_str _) <| .split ((12 : Int) < (↑s.length : Int)) (fun g2 => .yes (show (decide ((12 : Int) < (↑s.length : Int))) = true from decide_eq_true (show (12 : Int) < (↑s.length : Int) from g2)) <| .fin ((ARes.ret (AV.bool false), Heap.mk [] [] [])) (by simp only [IsRet]; grind [isName])) (fun g2 => .no (show (decide ((12 : Int) < (↑s.length : Int))) = false from decide_eq_false (show ¬ ((12 : Int) < (↑s.length : Int)) from g2)) <| .cutQ k61_0 [(0, AV.str s), (3, AV.int IntKind.i64 (0 : Int))] (Heap.mk [] [] []) (fun T hT => (h (by omega) T hT).to (by grind [isName]))))) (by kernel_rfl)

end Go.Aa.T

set_option linter.unusedVariables false
set_option linter.unusedSimpArgs false
set_option maxRecDepth 100000
namespace Go.Aa.T
open Go.Aa Go.Proofs
def same (x y : Taint) : Bool := decide (y.key = x.key) && decide (y.val = x.val)
end Go.Aa.T

set_option linter.unusedVariables false
set_option linter.unusedSimpArgs false
set_option maxRecDepth 100000
namespace Go.Aa.T
open Go.Aa Go.Proofs


end Go.Aa.T

set_option linter.unusedVariables false
set_option linter.unusedSimpArgs false
set_option maxRecDepth 100000
namespace Go.Aa.T
open Go.Aa Go.Proofs
end Go.Aa.T

set_option linter.unusedVariables false
set_option linter.unusedSimpArgs false
set_option maxRecDepth 100000
namespace Go.Aa.T
open Go.Aa Go.Proofs

def alnum : List UInt8 := [97, 98, 99, 100, 101, 102, 103, 104, 105, 106, 107, 108, 109, 110, 111, 112, 113, 114, 115, 116, 117, 118, 119, 120, 121, 122, 48, 49, 50, 51, 52, 53, 54, 55, 56, 57]
theorem alnum_ch (c : UInt8) : alnum.contains c = nameCh c := by
  have : ∀ n : Fin 256, alnum.contains (UInt8.ofNat n.val) = nameCh (UInt8.ofNat n.val) := by decide +kernel
  have h := this ⟨c.toNat, c.toNat_lt⟩
  simpa using h
theorem dropWhile_nil {p : UInt8 → Bool} : ∀ {l : List UInt8}, l.dropWhile p = [] ↔ l.all p = true
  | [] => by simp
  | c :: l => by
    by_cases h : p c = true
    · simp [List.dropWhile_cons, h, dropWhile_nil]
    · simp [List.dropWhile_cons, h]
theorem trim_nil (s : List UInt8) : Lib.trimS s alnum = [] ↔ s.all nameCh = true := by
  have hp : (fun c => alnum.contains c) = nameCh := funext alnum_ch
  unfold Lib.trimS Lib.trimLeftS Lib.trimRightS
  rw [hp, dropWhile_nil, List.all_reverse]
  constructor
  · intro h
    have e := List.takeWhile_append_dropWhile (p := nameCh) (l := s.reverse)
    have : s.reverse.all nameCh = true := by
      rw [← e, List.all_append, h, Bool.and_true]
      exact List.all_takeWhile
    rwa [List.all_reverse] at this
  · intro h
    have : s.reverse.dropWhile nameCh = [] := dropWhile_nil.2 (by rwa [List.all_reverse])
    rw [this]; rfl
theorem trim_any (s : List UInt8) (h : s.length ≤ 9223372036854775807) : Gives cfg 97 [.str s, .str alnum] (.str (Lib.trimS s alnum)) := by
  refine Gives.of (H' := Heap.nil) ?_
  rw [lim_ext (g := trimE) rfl rfl]
  have : trimE [.str s, .str alnum] Heap.nil = some (.str (Lib.trimS s alnum), Heap.nil) := if_pos ⟨h, by decide, by decide⟩
  rw [this]; rfl
theorem res_name (s : List UInt8) : Gives cfg 62 [.str s] (.bool (isName s)) := by
  refine Gives.run (l62 _ _) ?_
  have ht := trim_nil s
  exact goG 60 []  trivial  (.len (show lenA true (AV.str s) = some (AV.int IntKind.i64 (↑s.length : Int)) from len_str _) <| .split ((1 : Int) ≤ (↑s.length : Int)) (fun g1 => .yes (show (decide ((1 : Int) ≤ (↑s.length : Int))) = true from decide_eq_true (show (1 : Int) ≤ (↑s.length : Int) from g1)) <| .len (show lenA true (AV.str s) = some (AV.int IntKind.i64 (↑s.length : Int)) from len_str _) <| .split ((↑s.length : Int) ≤ (12 : Int)) (fun g2 => .yes (show (decide ((↑s.length : Int) ≤ (12 : Int))) = true from decide_eq_true (show (↑s.length : Int) ≤ (12 : Int) from g2)) <| .callG ([AV.str s, AV.str [(97 : UInt8), (98 : UInt8), (99 : UInt8), (100 : UInt8), (101 : UInt8), (102 : UInt8), (103 : UInt8), (104 : UInt8), (105 : UInt8), (106 : UInt8), (107 : UInt8), (108 : UInt8), (109 : UInt8), (110 : UInt8), (111 : UInt8), (112 : UInt8), (113 : UInt8), (114 : UInt8), (115 : UInt8), (116 : UInt8), (117 : UInt8), (118 : UInt8), (119 : UInt8), (120 : UInt8), (121 : UInt8), (122 : UInt8), (48 : UInt8), (49 : UInt8), (50 : UInt8), (51 : UInt8), (52 : UInt8), (53 : UInt8), (54 : UInt8), (55 : UInt8), (56 : UInt8), (57 : UInt8)]]) (AV.str (Lib.trimS s alnum)) (show Gives cfg (97 : FuncId) [AV.str s, AV.str alnum] (AV.str (Lib.trimS s alnum)) from trim_any _ (by omega)) ⟨rfl, rfl⟩ ⟨rfl, rfl⟩ <| .fin ((ARes.ret (AV.bool (Lib.trimS s alnum == [])), Heap.mk [] [] [])) (by simp only [IsRet]; grind [isName])) (fun g2 => .no (show (decide ((↑s.length : Int) ≤ (12 : Int))) = false from decide_eq_false (show ¬ ((↑s.length : Int) ≤ (12 : Int)) from g2)) <| .fin ((ARes.ret (AV.bool false), Heap.mk [] [] [])) (by simp only [IsRet]; grind [isName]))) (fun g1 => .no (show (decide ((1 : Int) ≤ (↑s.length : Int))) = false from decide_eq_false (show ¬ ((1 : Int) ≤ (↑s.length : Int)) from g1)) <| .ff <| .fin ((ARes.ret (AV.bool false), Heap.mk [] [] [])) (by simp only [IsRet]; grind [isName]))) (by kernel_rfl)
end Go.Aa.T

set_option linter.unusedVariables false
set_option linter.unusedSimpArgs false
set_option maxRecDepth 100000
namespace Go.Aa.T
open Go.Aa Go.Proofs
structure Pair where
  key : List UInt8
  val : List UInt8
structure Term where
  op : Int
  key : List UInt8
  val : List UInt8
def Pair.cells (t : Pair) : List AV := [.str t.key, .str t.val]
def Term.cells (t : Term) : List AV := [.int .i64 t.op, .str t.key, .str t.val]
def encP (t : Pair) : AV := .agg t.cells
def encM (t : Term) : AV := .agg t.cells
theorem lenP {l : List Pair} : lenOk 2 (l.map encP) = true := lenOk_map fun _ => rfl
theorem lenM {l : List Term} : lenOk 3 (l.map encM) = true := lenOk_map fun _ => rfl

def fewP (l : List Pair) : Bool := decide (l.length ≤ 20) && few (fun t => (t.key, t.val)) l
def fewM (l : List Term) : Bool := decide (l.length ≤ 20) && few (fun t => (t.key, t.val)) l
theorem fewP_len {l : List Pair} (h : fewP l = true) : l.length ≤ 20 := by
  simp only [fewP, Bool.and_eq_true, decide_eq_true_eq] at h; exact h.1
theorem fewM_len {l : List Term} (h : fewM l = true) : l.length ≤ 20 := by
  simp only [fewM, Bool.and_eq_true, decide_eq_true_eq] at h; exact h.1

theorem ofP_loop (l : List Pair) (hn : l.length ≤ 20) : ∀ (post : List Pair) (i : Nat) (acc : List AV) (hd : l.drop i = post) (ha : acc.length = i) (hl : lenOk 2 acc = true) (T : Env) (hT : Has T [(0, .sl .sh (l.map encP)), (3, rowS Heap.nil acc), (4, .int .i64 i)]),
    Goes cfg a41 k41_0 T (rowH Heap.nil acc) (IsRet (rowS Heap.nil (acc ++ post.map encP))) := by
  intro post
  induction post with
  | nil =>
    intro i acc hd ha hl T hT
    have hge := drop_ge hd
    exact goG 60 _  hT  (.len (show lenA false (AV.sl SK.sh (List.map encP l)) = some (AV.int IntKind.i64 (↑l.length : Int)) from len_map _) <| .no (show (decide ((↑i : Int) < (↑l.length : Int))) = false from decide_eq_false (show ¬ ((↑i : Int) < (↑l.length : Int)) from (by omega))) <| .fin ((ARes.ret (rowS Heap.nil acc), rowH Heap.nil acc)) (by simp [IsRet])) (by kernel_rfl)
  | cons x post ih =>
    intro i acc hd ha hl T hT
    have hlt := drop_lt hd
    have hnx := drop_next hd
    exact goG 60 _  hT  (.len (show lenA false (AV.sl SK.sh (List.map encP l)) = some (AV.int IntKind.i64 (↑l.length : Int)) from len_map _) <| .yes (show (decide ((↑i : Int) < (↑l.length : Int))) = true from decide_eq_true (show (↑i : Int) < (↑l.length : Int) from (by simp; omega))) <| .idx (show idxA (2 : Nat) (AV.sl SK.sh (List.map encP l)) (AV.int IntKind.i64 (↑i : Int)) = some (AV.ref (encP x).cells) from idx_row hd (by rfl)) <| .load (show loadA false (1 : Nat) (rowH Heap.nil acc) (AV.ref [AV.str x.key]) = some (AV.str x.key) from rfl) <| .idx (show idxA (2 : Nat) (AV.sl SK.sh (List.map encP l)) (AV.int IntKind.i64 (↑i : Int)) = some (AV.ref (encP x).cells) from idx_row hd (by rfl)) <| .load (show loadA false (1 : Nat) (rowH Heap.nil acc) (AV.ref [AV.str x.val]) = some (AV.str x.val) from rfl) <| .append (show appendA (2 : Nat) (32 : Nat) (rowH Heap.nil acc) (rowS Heap.nil acc) (AV.sl SK.full [AV.agg [AV.str x.key, AV.str x.val]]) = some ((rowS Heap.nil (acc ++ [AV.agg [AV.str x.key, AV.str x.val]]), rowH Heap.nil (acc ++ [AV.agg [AV.str x.key, AV.str x.val]]))) from row_append (by omega) hl (by rfl) (by rfl)) <| .bin (show binA BinOp.add (AV.int IntKind.i64 (↑i : Int)) (AV.int IntKind.i64 (1 : Int)) = some (AV.int IntKind.i64 (↑(i + (1 : Nat)) : Int)) from inc_i (by omega)) <| .cutQ k41_0 [(0, AV.sl SK.sh (List.map encP l)), (3, rowS Heap.nil (acc ++ [AV.agg [AV.str x.key, AV.str x.val]])), (4, AV.int IntKind.i64 (↑(i + (1 : Nat)) : Int))] (rowH Heap.nil (acc ++ [AV.agg [AV.str x.key, AV.str x.val]])) (fun T hT => (ih (i + (1 : Nat)) (acc ++ [AV.agg [AV.str x.key, AV.str x.val]]) hnx (by simp; omega) (by exact lenOk_snoc (by assumption) rfl) T hT).to (by simp [encP, Pair.cells]))) (by kernel_rfl)
theorem ofM_loop (l : List Term) (hn : l.length ≤ 20) : ∀ (post : List Term) (i : Nat) (acc : List AV) (hd : l.drop i = post) (ha : acc.length = i) (hl : lenOk 3 acc = true) (T : Env) (hT : Has T [(0, .sl .sh (l.map encM)), (3, rowS Heap.nil acc), (4, .int .i64 i)]),
    Goes cfg a42 k42_0 T (rowH Heap.nil acc) (IsRet (rowS Heap.nil (acc ++ post.map encM))) := by
  intro post
  induction post with
  | nil =>
    intro i acc hd ha hl T hT
    have hge := drop_ge hd
    exact goG 60 _  hT  (.len (show lenA false (AV.sl SK.sh (List.map encM l)) = some (AV.int IntKind.i64 (↑l.length : Int)) from len_map _) <| .no (show (decide ((↑i : Int) < (↑l.length : Int))) = false from decide_eq_false (show ¬ ((↑i : Int) < (↑l.length : Int)) from (by omega))) <| .fin ((ARes.ret (rowS Heap.nil acc), rowH Heap.nil acc)) (by simp [IsRet])) (by kernel_rfl)
  | cons x post ih =>
    intro i acc hd ha hl T hT
    have hlt := drop_lt hd
    have hnx := drop_next hd
    exact goG 60 _  hT  (.len (show lenA false (AV.sl SK.sh (List.map encM l)) = some (AV.int IntKind.i64 (↑l.length : Int)) from len_map _) <| .yes (show (decide ((↑i : Int) < (↑l.length : Int))) = true from decide_eq_true (show (↑i : Int) < (↑l.length : Int) from (by simp; omega))) <| .idx (show idxA (3 : Nat) (AV.sl SK.sh (List.map encM l)) (AV.int IntKind.i64 (↑i : Int)) = some (AV.ref (encM x).cells) from idx_row hd (by rfl)) <| .load (show loadA false (1 : Nat) (rowH Heap.nil acc) (AV.ref [AV.int IntKind.i64 x.op]) = some (AV.int IntKind.i64 x.op) from rfl) <| .idx (show idxA (3 : Nat) (AV.sl SK.sh (List.map encM l)) (AV.int IntKind.i64 (↑i : Int)) = some (AV.ref (encM x).cells) from idx_row hd (by rfl)) <| .load (show loadA false (1 : Nat) (rowH Heap.nil acc) (AV.ref [AV.str x.key]) = some (AV.str x.key) from rfl) <| .idx (show idxA (3 : Nat) (AV.sl SK.sh (List.map encM l)) (AV.int IntKind.i64 (↑i : Int)) = some (AV.ref (encM x).cells) from idx_row hd (by rfl)) <| .load (show loadA false (1 : Nat) (rowH Heap.nil acc) (AV.ref [AV.str x.val]) = some (AV.str x.val) from rfl) <| .append (show appendA (3 : Nat) (40 : Nat) (rowH Heap.nil acc) (rowS Heap.nil acc) (AV.sl SK.full [AV.agg [AV.int IntKind.i64 x.op, AV.str x.key, AV.str x.val]]) = some ((rowS Heap.nil (acc ++ [AV.agg [AV.int IntKind.i64 x.op, AV.str x.key, AV.str x.val]]), rowH Heap.nil (acc ++ [AV.agg [AV.int IntKind.i64 x.op, AV.str x.key, AV.str x.val]]))) from row_append (by omega) hl (by rfl) (by rfl)) <| .bin (show binA BinOp.add (AV.int IntKind.i64 (↑i : Int)) (AV.int IntKind.i64 (1 : Int)) = some (AV.int IntKind.i64 (↑(i + (1 : Nat)) : Int)) from inc_i (by omega)) <| .cutQ k42_0 [(0, AV.sl SK.sh (List.map encM l)), (3, rowS Heap.nil (acc ++ [AV.agg [AV.int IntKind.i64 x.op, AV.str x.key, AV.str x.val]])), (4, AV.int IntKind.i64 (↑(i + (1 : Nat)) : Int))] (rowH Heap.nil (acc ++ [AV.agg [AV.int IntKind.i64 x.op, AV.str x.key, AV.str x.val]])) (fun T hT => (ih (i + (1 : Nat)) (acc ++ [AV.agg [AV.int IntKind.i64 x.op, AV.str x.key, AV.str x.val]]) hnx (by simp; omega) (by exact lenOk_snoc (by assumption) rfl) T hT).to (by simp [encM, Term.cells]))) (by kernel_rfl)
theorem ofP_any (l : List Pair) (hn : l.length ≤ 20) : Gives cfg 41 [.sl .sh (l.map encP)] (rowS Heap.nil (l.map encP)) := by
  refine Gives.run (l41 _ _) ?_
  have h := ofP_loop l hn l 0 [] rfl rfl rfl
  exact goG 60 []  trivial  (.cutQ k41_0 [(0, AV.sl SK.sh (List.map encP l)), (3, AV.sl SK.full []), (4, AV.int IntKind.i64 (0 : Int))] (Heap.mk [] [] []) (fun T hT => (h T hT))) (by kernel_rfl)
theorem ofM_any (l : List Term) (hn : l.length ≤ 20) : Gives cfg 42 [.sl .sh (l.map encM)] (rowS Heap.nil (l.map encM)) := by
  refine Gives.run (l42 _ _) ?_
  have h := ofM_loop l hn l 0 [] rfl rfl rfl
  exact goG 60 []  trivial  (.cutQ k42_0 [(0, AV.sl SK.sh (List.map encM l)), (3, AV.sl SK.full []), (4, AV.int IntKind.i64 (0 : Int))] (Heap.mk [] [] []) (fun T hT => (h T hT))) (by kernel_rfl)

def ordB (s : List Pair) (i : Nat) (x : Pair) : Bool := match i with
  | 0 => false
  | j + 1 => match s[j]? with
    | some p => Op.bytesLess x.key p.key || x.key == p.key
    | none => false
def ckSl (s : List Pair) : Nat → List Pair → Int
  | _, [] => 0
  | i, x :: post => if isName x.key && isName x.val then (if ordB s i x then 13 else ckSl s (i + 1) post) else 3
def ckS (s : List Pair) : Int := if s.length ≤ 8 then ckSl s 0 s else 4
theorem dec_i {i : Nat} (h : i < 9223372036854775807) : binA .sub (.int .i64 ((i + 1 : Nat) : Int)) (.int .i64 1) = some (.int .i64 (i : Int)) := by
  rw [subI (by omega) (by omega)]; congr 2; omega
theorem ckS_ref_loop (l : List Pair) (hn : l.length ≤ 8) : ∀ (post : List Pair) (i : Nat) (hd : l.drop i = post) (T : Env) (hT : Has T [(0, .sl .sh (l.map encP)), (3, .int .i64 i)]),
    Goes cfg a43 k43_0 T Heap.nil (IsRet (.int .i64 (ckSl l i post))) := by
  intro post
  induction post with
  | nil =>
    intro i hd T hT
    have hge := drop_ge hd
    exact goG 60 _  hT  (.len (show lenA false (AV.sl SK.sh (List.map encP l)) = some (AV.int IntKind.i64 (↑l.length : Int)) from len_map _) <| .no (show (decide ((↑i : Int) < (↑l.length : Int))) = false from decide_eq_false (show ¬ ((↑i : Int) < (↑l.length : Int)) from (by omega))) <| .fin ((ARes.ret (AV.int IntKind.i64 (0 : Int)), Heap.mk [] [] [])) rfl) (by kernel_rfl)
  | cons x post ih =>
    intro i hd T hT
    have hlt := drop_lt hd
    have hnx := drop_next hd
    cases i with
    | zero => exact goG 60 _  hT  (.len (show lenA false (AV.sl SK.sh (List.map encP l)) = some (AV.int IntKind.i64 (↑l.length : Int)) from len_map _) <| .yes (show (decide ((↑(0 : Nat) : Int) < (↑l.length : Int))) = true from decide_eq_true (show (↑(0 : Nat) : Int) < (↑l.length : Int) from (by omega))) <| .idx (show idxA (2 : Nat) (AV.sl SK.sh (List.map encP l)) (AV.int IntKind.i64 (↑(0 : Nat) : Int)) = some (AV.ref (encP x).cells) from idx_row hd (by rfl)) <| .callG ([AV.str x.key]) (AV.bool (isName x.key)) (show Gives cfg (61 : FuncId) [AV.str x.key] (AV.bool (isName x.key)) from name_any _) ⟨rfl, rfl⟩ ⟨rfl, rfl⟩ <| .split (isName x.key = true) (fun g1 => .no (show (!isName x.key) = false from not_f (show isName x.key = true from g1)) <| .idx (show idxA (2 : Nat) (AV.sl SK.sh (List.map encP l)) (AV.int IntKind.i64 (↑(0 : Nat) : Int)) = some (AV.ref (encP x).cells) from idx_row hd (by rfl)) <| .callG ([AV.str x.val]) (AV.bool (isName x.val)) (show Gives cfg (61 : FuncId) [AV.str x.val] (AV.bool (isName x.val)) from name_any _) ⟨rfl, rfl⟩ ⟨rfl, rfl⟩ <| .split (isName x.val = true) (fun g2 => .no (show (!isName x.val) = false from not_f (show isName x.val = true from g2)) <| .ff <| .ff <| .bin (show binA BinOp.add (AV.int IntKind.i64 (↑(0 : Nat) : Int)) (AV.int IntKind.i64 (1 : Int)) = some (AV.int IntKind.i64 (↑((0 : Nat) + (1 : Nat)) : Int)) from inc_i (by omega)) <| .cutQ k43_0 [(0, AV.sl SK.sh (List.map encP l)), (3, AV.int IntKind.i64 (↑((0 : Nat) + (1 : Nat)) : Int))] (Heap.mk [] [] []) (fun T hT => (ih ((0 : Nat) + (1 : Nat)) hnx T hT).to (by grind [ckSl, ordB]))) (fun g2 => .yes (show (!isName x.val) = true from not_t (show ¬ (isName x.val = true) from g2)) <| .fin ((ARes.ret (AV.int IntKind.i64 (3 : Int)), Heap.mk [] [] [])) (by simp only [IsRet]; grind [ckSl, ordB]))) (fun g1 => .yes (show (!isName x.key) = true from not_t (show ¬ (isName x.key = true) from g1)) <| .tt <| .fin ((ARes.ret (AV.int IntKind.i64 (3 : Int)), Heap.mk [] [] [])) (by simp only [IsRet]; grind [ckSl, ordB]))) (by kernel_rfl)
    | succ j =>
      obtain ⟨p, hp⟩ : ∃ p, l[j]? = some p := ⟨l[j], List.getElem?_eq_getElem (by omega)⟩
      exact goG 60 _  hT  (.len (show lenA false (AV.sl SK.sh (List.map encP l)) = some (AV.int IntKind.i64 (↑l.length : Int)) from len_map _) <| .yes (show (decide ((↑(j + (1 : Nat)) : Int) < (↑l.length : Int))) = true from decide_eq_true (show (↑(j + (1 : Nat)) : Int) < (↑l.length : Int) from (by omega))) <| .idx (show idxA (2 : Nat) (AV.sl SK.sh (List.map encP l)) (AV.int IntKind.i64 (↑(j + (1 : Nat)) : Int)) = some (AV.ref (encP x).cells) from idx_row hd (by rfl)) <| .callG ([AV.str x.key]) (AV.bool (isName x.key)) (show Gives cfg (61 : FuncId) [AV.str x.key] (AV.bool (isName x.key)) from name_any _) ⟨rfl, rfl⟩ ⟨rfl, rfl⟩ <| .split (isName x.key = true) (fun g1 => .no (show (!isName x.key) = false from not_f (show isName x.key = true from g1)) <| .idx (show idxA (2 : Nat) (AV.sl SK.sh (List.map encP l)) (AV.int IntKind.i64 (↑(j + (1 : Nat)) : Int)) = some (AV.ref (encP x).cells) from idx_row hd (by rfl)) <| .callG ([AV.str x.val]) (AV.bool (isName x.val)) (show Gives cfg (61 : FuncId) [AV.str x.val] (AV.bool (isName x.val)) from name_any _) ⟨rfl, rfl⟩ ⟨rfl, rfl⟩ <| .split (isName x.val = true) (fun g2 => .no (show (!isName x.val) = false from not_f (show isName x.val = true from g2)) <| .yes (show (decide ((0 : Int) < (↑(j + (1 : Nat)) : Int))) = true from decide_eq_true (show (0 : Int) < (↑(j + (1 : Nat)) : Int) from (by omega))) <| .idx (show idxA (2 : Nat) (AV.sl SK.sh (List.map encP l)) (AV.int IntKind.i64 (↑(j + (1 : Nat)) : Int)) = some (AV.ref (encP x).cells) from idx_row hd (by rfl)) <| .bin (show binA BinOp.sub (AV.int IntKind.i64 (↑(j + (1 : Nat)) : Int)) (AV.int IntKind.i64 (1 : Int)) = some (AV.int IntKind.i64 (↑j : Int)) from dec_i (by omega)) <| .idx (show idxA (2 : Nat) (AV.sl SK.sh (List.map encP l)) (AV.int IntKind.i64 (↑j : Int)) = some (AV.ref (encP p).cells) from idx_get hp (by rfl)) <| .split ((Op.bytesLess x.key p.key || x.key == p.key) = true) (fun g3 => .yes (show (Op.bytesLess x.key p.key || x.key == p.key) = true from g3) <| .fin ((ARes.ret (AV.int IntKind.i64 (13 : Int)), Heap.mk [] [] [])) (by simp only [IsRet]; grind [ckSl, ordB])) (fun g3 => .no (show (Op.bytesLess x.key p.key || x.key == p.key) = false from Bool.eq_false_iff.2 (show ¬ ((Op.bytesLess x.key p.key || x.key == p.key) = true) from g3)) <| .bin (show binA BinOp.add (AV.int IntKind.i64 (↑(j + (1 : Nat)) : Int)) (AV.int IntKind.i64 (1 : Int)) = some (AV.int IntKind.i64 (↑(j + (1 : Nat) + (1 : Nat)) : Int)) from inc_i (by omega)) <| .cutQ k43_0 [(0, AV.sl SK.sh (List.map encP l)), (3, AV.int IntKind.i64 (↑(j + (1 : Nat) + (1 : Nat)) : Int))] (Heap.mk [] [] []) (fun T hT => (ih (j + (1 : Nat) + (1 : Nat)) hnx T hT).to (by grind [ckSl, ordB])))) (fun g2 => .yes (show (!isName x.val) = true from not_t (show ¬ (isName x.val = true) from g2)) <| .fin ((ARes.ret (AV.int IntKind.i64 (3 : Int)), Heap.mk [] [] [])) (by simp only [IsRet]; grind [ckSl, ordB]))) (fun g1 => .yes (show (!isName x.key) = true from not_t (show ¬ (isName x.key = true) from g1)) <| .tt <| .fin ((ARes.ret (AV.int IntKind.i64 (3 : Int)), Heap.mk [] [] [])) (by simp only [IsRet]; grind [ckSl, ordB]))) (by kernel_rfl)
theorem ckS_ref (l : List Pair) : Gives cfg 43 [.sl .sh (l.map encP)] (.int .i64 (ckS l)) := by
  refine Gives.run (l43 _ _) ?_
  have h := fun hn => ckS_ref_loop l hn l 0 rfl
  exact goG 60 []  trivial  (.len (show lenA false (AV.sl SK.sh (List.map encP l)) = some (AV.int IntKind.i64 (↑l.length : Int)) from len_map _) <| .split ((8 : Int) < (↑l.length : Int)) (fun g1 => .yes (show (decide ((8 : Int) < (↑l.length : Int))) = true from decide_eq_true (show (8 : Int) < (↑l.length : Int) from g1)) <| .fin ((ARes.ret (AV.int IntKind.i64 (4 : Int)), Heap.mk [] [] [])) (by simp only [IsRet]; grind [ckS])) (fun g1 => .no (show (decide ((8 : Int) < (↑l.length : Int))) = false from decide_eq_false (show ¬ ((8 : Int) < (↑l.length : Int)) from g1)) <| .cutQ k43_0 [(0, AV.sl SK.sh (List.map encP l)), (3, AV.int IntKind.i64 (0 : Int))] (Heap.mk [] [] []) (fun T hT => (h (by omega) T hT).to (by grind [ckS])))) (by kernel_rfl)
theorem ckS_loop (l : List Pair) (hn : l.length ≤ 8) : ∀ (post : List Pair) (i : Nat) (bs : List (List AV)) (hd : l.drop i = post) (T : Env) (hT : Has T [(0, .sl .sh (l.map encP)), (8, .sl .sh (l.map encP)), (9, .int .i64 l.length), (10, .int .i64 i)]),
    Goes cfg a45 k45_0 T ⟨bs, [], []⟩ (IsRet (.int .i64 (ckSl l i post))) := by
  intro post
  induction post with
  | nil =>
    intro i bs hd T hT
    have hge := drop_ge hd
    exact goG 60 _  hT  (.no (show (decide ((↑i : Int) < (↑l.length : Int))) = false from decide_eq_false (show ¬ ((↑i : Int) < (↑l.length : Int)) from (by omega))) <| .fin ((ARes.ret (AV.int IntKind.i64 (0 : Int)), Heap.mk bs [] [])) rfl) (by kernel_rfl)
  | cons x post ih =>
    intro i bs hd T hT
    have hlt := drop_lt hd
    have hnx := drop_next hd
    cases i with
    | zero => exact goG 60 _  hT  (.yes (show (decide ((↑(0 : Nat) : Int) < (↑l.length : Int))) = true from decide_eq_true (show (↑(0 : Nat) : Int) < (↑l.length : Int) from (by omega))) <| .idx (show idxA (2 : Nat) (AV.sl SK.sh (List.map encP l)) (AV.int IntKind.i64 (↑(0 : Nat) : Int)) = some (AV.ref (encP x).cells) from idx_row hd (by rfl)) <| .load (show loadA true (2 : Nat) (Heap.mk bs [] []) (AV.ref [AV.str x.key, AV.str x.val]) = some (AV.agg [AV.str x.key, AV.str x.val]) from rfl) <| .store (show storeA (2 : Nat) (Heap.mk (bs ++ [[AV.str [], AV.str []]]) [] []) (AV.ptr (Heap.mk bs [] []).boxes.length (0 : Nat)) (AV.agg [AV.str x.key, AV.str x.val]) = some (Heap.mk (bs ++ [[AV.str x.key, AV.str x.val]]) [] []) from store_box2 (cs := [AV.str [], AV.str []]) (cs' := [AV.str x.key, AV.str x.val]) (by simp [List.set_append]) rfl (by simp [List.set_append])) <| .load (show loadA false (1 : Nat) (Heap.mk (bs ++ [[AV.str x.key, AV.str x.val]]) [] []) (AV.ptr (Heap.mk bs [] []).boxes.length (0 : Nat)) = some (AV.str x.key) from load_box (cs := [AV.str x.key, AV.str x.val]) (by simp [List.set_append]) rfl) <| .callG ([AV.str x.key]) (AV.bool (isName x.key)) (show Gives cfg (62 : FuncId) [AV.str x.key] (AV.bool (isName x.key)) from res_name _) ⟨rfl, rfl⟩ ⟨rfl, rfl⟩ <| .split (isName x.key = true) (fun g1 => .no (show (!isName x.key) = false from not_f (show isName x.key = true from g1)) <| .load (show loadA false (1 : Nat) (Heap.mk (bs ++ [[AV.str x.key, AV.str x.val]]) [] []) (AV.ptr (Heap.mk bs [] []).boxes.length (1 : Nat)) = some (AV.str x.val) from load_box (cs := [AV.str x.key, AV.str x.val]) (by simp [List.set_append]) rfl) <| .callG ([AV.str x.val]) (AV.bool (isName x.val)) (show Gives cfg (62 : FuncId) [AV.str x.val] (AV.bool (isName x.val)) from res_name _) ⟨rfl, rfl⟩ ⟨rfl, rfl⟩ <| .split (isName x.val = true) (fun g2 => .no (show (!isName x.val) = false from not_f (show isName x.val = true from g2)) <| .ff <| .ff <| .bin (show binA BinOp.add (AV.int IntKind.i64 (↑(0 : Nat) : Int)) (AV.int IntKind.i64 (1 : Int)) = some (AV.int IntKind.i64 (↑((0 : Nat) + (1 : Nat)) : Int)) from inc_i (by omega)) <| .cutQ k45_0 [(0, AV.sl SK.sh (List.map encP l)), (8, AV.sl SK.sh (List.map encP l)), (9, AV.int IntKind.i64 (↑l.length : Int)), (10, AV.int IntKind.i64 (↑((0 : Nat) + (1 : Nat)) : Int))] (Heap.mk (bs ++ [[AV.str x.key, AV.str x.val]]) [] []) (fun T hT => (ih ((0 : Nat) + (1 : Nat)) (bs ++ [[AV.str x.key, AV.str x.val]]) hnx T hT).to (by grind [ckSl, ordB]))) (fun g2 => .yes (show (!isName x.val) = true from not_t (show ¬ (isName x.val = true) from g2)) <| .fin ((ARes.ret (AV.int IntKind.i64 (3 : Int)), Heap.mk (bs ++ [[AV.str x.key, AV.str x.val]]) [] [])) (by simp only [IsRet]; grind [ckSl, ordB]))) (fun g1 => .yes (show (!isName x.key) = true from not_t (show ¬ (isName x.key = true) from g1)) <| .tt <| .fin ((ARes.ret (AV.int IntKind.i64 (3 : Int)), Heap.mk (bs ++ [[AV.str x.key, AV.str x.val]]) [] [])) (by simp only [IsRet]; grind [ckSl, ordB]))) (by kernel_rfl)
    | succ j =>
      obtain ⟨p, hp⟩ : ∃ p, l[j]? = some p := ⟨l[j], List.getElem?_eq_getElem (by omega)⟩
      exact goG 60 _  hT  (.yes (show (decide ((↑(j + (1 : Nat)) : Int) < (↑l.length : Int))) = true from decide_eq_true (show (↑(j + (1 : Nat)) : Int) < (↑l.length : Int) from (by omega))) <| .idx (show idxA (2 : Nat) (AV.sl SK.sh (List.map encP l)) (AV.int IntKind.i64 (↑(j + (1 : Nat)) : Int)) = some (AV.ref (encP x).cells) from idx_row hd (by rfl)) <| .load (show loadA true (2 : Nat) (Heap.mk bs [] []) (AV.ref [AV.str x.key, AV.str x.val]) = some (AV.agg [AV.str x.key, AV.str x.val]) from rfl) <| .store (show storeA (2 : Nat) (Heap.mk (bs ++ [[AV.str [], AV.str []]]) [] []) (AV.ptr (Heap.mk bs [] []).boxes.length (0 : Nat)) (AV.agg [AV.str x.key, AV.str x.val]) = some (Heap.mk (bs ++ [[AV.str x.key, AV.str x.val]]) [] []) from store_box2 (cs := [AV.str [], AV.str []]) (cs' := [AV.str x.key, AV.str x.val]) (by simp [List.set_append]) rfl (by simp [List.set_append])) <| .load (show loadA false (1 : Nat) (Heap.mk (bs ++ [[AV.str x.key, AV.str x.val]]) [] []) (AV.ptr (Heap.mk bs [] []).boxes.length (0 : Nat)) = some (AV.str x.key) from load_box (cs := [AV.str x.key, AV.str x.val]) (by simp [List.set_append]) rfl) <| .callG ([AV.str x.key]) (AV.bool (isName x.key)) (show Gives cfg (62 : FuncId) [AV.str x.key] (AV.bool (isName x.key)) from res_name _) ⟨rfl, rfl⟩ ⟨rfl, rfl⟩ <| .split (isName x.key = true) (fun g1 => .no (show (!isName x.key) = false from not_f (show isName x.key = true from g1)) <| .load (show loadA false (1 : Nat) (Heap.mk (bs ++ [[AV.str x.key, AV.str x.val]]) [] []) (AV.ptr (Heap.mk bs [] []).boxes.length (1 : Nat)) = some (AV.str x.val) from load_box (cs := [AV.str x.key, AV.str x.val]) (by simp [List.set_append]) rfl) <| .callG ([AV.str x.val]) (AV.bool (isName x.val)) (show Gives cfg (62 : FuncId) [AV.str x.val] (AV.bool (isName x.val)) from res_name _) ⟨rfl, rfl⟩ ⟨rfl, rfl⟩ <| .split (isName x.val = true) (fun g2 => .no (show (!isName x.val) = false from not_f (show isName x.val = true from g2)) <| .yes (show (decide ((0 : Int) < (↑(j + (1 : Nat)) : Int))) = true from decide_eq_true (show (0 : Int) < (↑(j + (1 : Nat)) : Int) from (by omega))) <| .load (show loadA false (1 : Nat) (Heap.mk (bs ++ [[AV.str x.key, AV.str x.val]]) [] []) (AV.ptr (Heap.mk bs [] []).boxes.length (0 : Nat)) = some (AV.str x.key) from load_box (cs := [AV.str x.key, AV.str x.val]) (by simp [List.set_append]) rfl) <| .bin (show binA BinOp.sub (AV.int IntKind.i64 (↑(j + (1 : Nat)) : Int)) (AV.int IntKind.i64 (1 : Int)) = some (AV.int IntKind.i64 (↑j : Int)) from dec_i (by omega)) <| .idx (show idxA (2 : Nat) (AV.sl SK.sh (List.map encP l)) (AV.int IntKind.i64 (↑j : Int)) = some (AV.ref (encP p).cells) from idx_get hp (by rfl)) <| .load (show loadA false (1 : Nat) (Heap.mk (bs ++ [[AV.str x.key, AV.str x.val]]) [] []) (AV.ref [AV.str p.key]) = some (AV.str p.key) from rfl) <| .split ((Op.bytesLess x.key p.key || x.key == p.key) = true) (fun g3 => .yes (show (Op.bytesLess x.key p.key || x.key == p.key) = true from g3) <| .fin ((ARes.ret (AV.int IntKind.i64 (13 : Int)), Heap.mk (bs ++ [[AV.str x.key, AV.str x.val]]) [] [])) (by simp only [IsRet]; grind [ckSl, ordB])) (fun g3 => .no (show (Op.bytesLess x.key p.key || x.key == p.key) = false from Bool.eq_false_iff.2 (show ¬ ((Op.bytesLess x.key p.key || x.key == p.key) = true) from g3)) <| .bin (show binA BinOp.add (AV.int IntKind.i64 (↑(j + (1 : Nat)) : Int)) (AV.int IntKind.i64 (1 : Int)) = some (AV.int IntKind.i64 (↑(j + (1 : Nat) + (1 : Nat)) : Int)) from inc_i (by omega)) <| .cutQ k45_0 [(0, AV.sl SK.sh (List.map encP l)), (8, AV.sl SK.sh (List.map encP l)), (9, AV.int IntKind.i64 (↑l.length : Int)), (10, AV.int IntKind.i64 (↑(j + (1 : Nat) + (1 : Nat)) : Int))] (Heap.mk (bs ++ [[AV.str x.key, AV.str x.val]]) [] []) (fun T hT => (ih (j + (1 : Nat) + (1 : Nat)) (bs ++ [[AV.str x.key, AV.str x.val]]) hnx T hT).to (by grind [ckSl, ordB])))) (fun g2 => .yes (show (!isName x.val) = true from not_t (show ¬ (isName x.val = true) from g2)) <| .fin ((ARes.ret (AV.int IntKind.i64 (3 : Int)), Heap.mk (bs ++ [[AV.str x.key, AV.str x.val]]) [] [])) (by simp only [IsRet]; grind [ckSl, ordB]))) (fun g1 => .yes (show (!isName x.key) = true from not_t (show ¬ (isName x.key = true) from g1)) <| .tt <| .fin ((ARes.ret (AV.int IntKind.i64 (3 : Int)), Heap.mk (bs ++ [[AV.str x.key, AV.str x.val]]) [] [])) (by simp only [IsRet]; grind [ckSl, ordB]))) (by kernel_rfl)
theorem ckS_any (l : List Pair) : Gives cfg 45 [.sl .sh (l.map encP)] (.int .i64 (ckS l)) := by
  refine Gives.run (l45 _ _) ?_
  have h := fun hn => ckS_loop l hn l 0 [] rfl
  exact goG 60 []  trivial  (.len (show lenA false (AV.sl SK.sh (List.map encP l)) = some (AV.int IntKind.i64 (↑l.length : Int)) from len_map _) <| .split ((8 : Int) < (↑l.length : Int)) (fun g1 => .yes (show (decide ((8 : Int) < (↑l.length : Int))) = true from decide_eq_true (show (8 : Int) < (↑l.length : Int) from g1)) <| .fin ((ARes.ret (AV.int IntKind.i64 (4 : Int)), Heap.mk [] [] [])) (by simp only [IsRet]; grind [ckS])) (fun g1 => .no (show (decide ((8 : Int) < (↑l.length : Int))) = false from decide_eq_false (show ¬ ((8 : Int) < (↑l.length : Int)) from g1)) <| .len (show lenA false (AV.sl SK.sh (List.map encP l)) = some (AV.int IntKind.i64 (↑l.length : Int)) from len_map _) <| .cutQ k45_0 [(0, AV.sl SK.sh (List.map encP l)), (8, AV.sl SK.sh (List.map encP l)), (9, AV.int IntKind.i64 (↑l.length : Int)), (10, AV.int IntKind.i64 (0 : Int))] (Heap.mk [] [] []) (fun T hT => (h (by omega) T hT).to (by grind [ckS])))) (by kernel_rfl)
def valOk (x : Term) : Bool := if x.op ≤ 2 then isName x.val else decide (x.val = [])
def ckMl : List Term → Int
  | [] => 0
  | x :: post => if 1 ≤ x.op ∧ x.op ≤ 4 then (if isName x.key && valOk x then ckMl post else 3) else 1
def ckM (l : List Term) : Int := if l.length ≤ 8 then ckMl l else 4
theorem ckM_ref_loop (l : List Term) (hn : l.length ≤ 8) : ∀ (post : List Term) (i : Nat) (bs : List (List AV)) (hd : l.drop i = post) (T : Env) (hT : Has T [(0, .sl .sh (l.map encM)), (3, .int .i64 i)]),
    Goes cfg a44 k44_0 T ⟨bs, [], []⟩ (IsRet (.int .i64 (ckMl post))) := by
  intro post
  induction post with
  | nil =>
    intro i bs hd T hT
    have hge := drop_ge hd
    exact goG 60 _  hT  (.len (show lenA false (AV.sl SK.sh (List.map encM l)) = some (AV.int IntKind.i64 (↑l.length : Int)) from len_map _) <| .no (show (decide ((↑i : Int) < (↑l.length : Int))) = false from decide_eq_false (show ¬ ((↑i : Int) < (↑l.length : Int)) from (by omega))) <| .fin ((ARes.ret (AV.int IntKind.i64 (0 : Int)), Heap.mk bs [] [])) rfl) (by kernel_rfl)
  | cons x post ih =>
    intro i bs hd T hT
    have hlt := drop_lt hd
    have hnx := drop_next hd
    exact goG 60 _  hT  (.len (show lenA false (AV.sl SK.sh (List.map encM l)) = some (AV.int IntKind.i64 (↑l.length : Int)) from len_map _) <| .yes (show (decide ((↑i : Int) < (↑l.length : Int))) = true from decide_eq_true (show (↑i : Int) < (↑l.length : Int) from (by omega))) <| .idx (show idxA (3 : Nat) (AV.sl SK.sh (List.map encM l)) (AV.int IntKind.i64 (↑i : Int)) = some (AV.ref (encM x).cells) from idx_row hd (by rfl)) <| .load (show loadA true (3 : Nat) (Heap.mk bs [] []) (AV.ref [AV.int IntKind.i64 x.op, AV.str x.key, AV.str x.val]) = some (AV.agg [AV.int IntKind.i64 x.op, AV.str x.key, AV.str x.val]) from rfl) <| .store (show storeA (3 : Nat) (Heap.mk (bs ++ [[AV.int IntKind.i64 (0 : Int), AV.str [], AV.str []]]) [] []) (AV.ptr (Heap.mk bs [] []).boxes.length (0 : Nat)) (AV.agg [AV.int IntKind.i64 x.op, AV.str x.key, AV.str x.val]) = some (Heap.mk (bs ++ [[AV.int IntKind.i64 x.op, AV.str x.key, AV.str x.val]]) [] []) from store_box2 (cs := [AV.int IntKind.i64 (0 : Int), AV.str [], AV.str []]) (cs' := [AV.int IntKind.i64 x.op, AV.str x.key, AV.str x.val]) (by simp [List.set_append]) rfl (by simp [List.set_append])) <| .load (show loadA false (1 : Nat) (Heap.mk (bs ++ [[AV.int IntKind.i64 x.op, AV.str x.key, AV.str x.val]]) [] []) (AV.ptr (Heap.mk bs [] []).boxes.length (0 : Nat)) = some (AV.int IntKind.i64 x.op) from load_box (cs := [AV.int IntKind.i64 x.op, AV.str x.key, AV.str x.val]) (by simp [List.set_append]) rfl) <| .split (x.op < (1 : Int)) (fun g1 => .yes (show (decide (x.op < (1 : Int))) = true from decide_eq_true (show x.op < (1 : Int) from g1)) <| .tt <| .fin ((ARes.ret (AV.int IntKind.i64 (1 : Int)), Heap.mk (bs ++ [[AV.int IntKind.i64 x.op, AV.str x.key, AV.str x.val]]) [] [])) (by simp only [IsRet]; grind [ckMl, valOk])) (fun g1 => .no (show (decide (x.op < (1 : Int))) = false from decide_eq_false (show ¬ (x.op < (1 : Int)) from g1)) <| .load (show loadA false (1 : Nat) (Heap.mk (bs ++ [[AV.int IntKind.i64 x.op, AV.str x.key, AV.str x.val]]) [] []) (AV.ptr (Heap.mk bs [] []).boxes.length (0 : Nat)) = some (AV.int IntKind.i64 x.op) from load_box (cs := [AV.int IntKind.i64 x.op, AV.str x.key, AV.str x.val]) (by simp [List.set_append]) rfl) <| .split ((4 : Int) < x.op) (fun g2 => .yes (show (decide ((4 : Int) < x.op)) = true from decide_eq_true (show (4 : Int) < x.op from g2)) <| .fin ((ARes.ret (AV.int IntKind.i64 (1 : Int)), Heap.mk (bs ++ [[AV.int IntKind.i64 x.op, AV.str x.key, AV.str x.val]]) [] [])) (by simp only [IsRet]; grind [ckMl, valOk])) (fun g2 => .no (show (decide ((4 : Int) < x.op)) = false from decide_eq_false (show ¬ ((4 : Int) < x.op) from g2)) <| .load (show loadA false (1 : Nat) (Heap.mk (bs ++ [[AV.int IntKind.i64 x.op, AV.str x.key, AV.str x.val]]) [] []) (AV.ptr (Heap.mk bs [] []).boxes.length (1 : Nat)) = some (AV.str x.key) from load_box (cs := [AV.int IntKind.i64 x.op, AV.str x.key, AV.str x.val]) (by simp [List.set_append]) rfl) <| .callG ([AV.str x.key]) (AV.bool (isName x.key)) (show Gives cfg (61 : FuncId) [AV.str x.key] (AV.bool (isName x.key)) from name_any _) ⟨rfl, rfl⟩ ⟨rfl, rfl⟩ <| .split (isName x.key = true) (fun g3 => .no (show (!isName x.key) = false from not_f (show isName x.key = true from g3)) <| .load (show loadA false (1 : Nat) (Heap.mk (bs ++ [[AV.int IntKind.i64 x.op, AV.str x.key, AV.str x.val]]) [] []) (AV.ptr (Heap.mk bs [] []).boxes.length (0 : Nat)) = some (AV.int IntKind.i64 x.op) from load_box (cs := [AV.int IntKind.i64 x.op, AV.str x.key, AV.str x.val]) (by simp [List.set_append]) rfl) <| .split (x.op ≤ (2 : Int)) (fun g4 => .yes (show (decide (x.op ≤ (2 : Int))) = true from decide_eq_true (show x.op ≤ (2 : Int) from g4)) <| .load (show loadA false (1 : Nat) (Heap.mk (bs ++ [[AV.int IntKind.i64 x.op, AV.str x.key, AV.str x.val]]) [] []) (AV.ptr (Heap.mk bs [] []).boxes.length (2 : Nat)) = some (AV.str x.val) from load_box (cs := [AV.int IntKind.i64 x.op, AV.str x.key, AV.str x.val]) (by simp [List.set_append]) rfl) <| .callG ([AV.str x.val]) (AV.bool (isName x.val)) (show Gives cfg (61 : FuncId) [AV.str x.val] (AV.bool (isName x.val)) from name_any _) ⟨rfl, rfl⟩ ⟨rfl, rfl⟩ <| .split (isName x.val = true) (fun g5 => .no (show (!isName x.val) = false from not_f (show isName x.val = true from g5)) <| .load (show loadA false (1 : Nat) (Heap.mk (bs ++ [[AV.int IntKind.i64 x.op, AV.str x.key, AV.str x.val]]) [] []) (AV.ptr (Heap.mk bs [] []).boxes.length (0 : Nat)) = some (AV.int IntKind.i64 x.op) from load_box (cs := [AV.int IntKind.i64 x.op, AV.str x.key, AV.str x.val]) (by simp [List.set_append]) rfl) <| .no (show (decide ((3 : Int) ≤ x.op)) = false from decide_eq_false (show ¬ ((3 : Int) ≤ x.op) from (by omega))) <| .ff <| .bin (show binA BinOp.add (AV.int IntKind.i64 (↑i : Int)) (AV.int IntKind.i64 (1 : Int)) = some (AV.int IntKind.i64 (↑(i + (1 : Nat)) : Int)) from inc_i (by omega)) <| .cutQ k44_0 [(0, AV.sl SK.sh (List.map encM l)), (3, AV.int IntKind.i64 (↑(i + (1 : Nat)) : Int))] (Heap.mk (bs ++ [[AV.int IntKind.i64 x.op, AV.str x.key, AV.str x.val]]) [] []) (fun T hT => (ih (i + (1 : Nat)) (bs ++ [[AV.int IntKind.i64 x.op, AV.str x.key, AV.str x.val]]) hnx T hT).to (by grind [ckMl, valOk]))) (fun g5 => .yes (show (!isName x.val) = true from not_t (show ¬ (isName x.val = true) from g5)) <| .tt <| .fin ((ARes.ret (AV.int IntKind.i64 (3 : Int)), Heap.mk (bs ++ [[AV.int IntKind.i64 x.op, AV.str x.key, AV.str x.val]]) [] [])) (by simp only [IsRet]; grind [ckMl, valOk]))) (fun g4 => .no (show (decide (x.op ≤ (2 : Int))) = false from decide_eq_false (show ¬ (x.op ≤ (2 : Int)) from g4)) <| .ff <| .load (show loadA false (1 : Nat) (Heap.mk (bs ++ [[AV.int IntKind.i64 x.op, AV.str x.key, AV.str x.val]]) [] []) (AV.ptr (Heap.mk bs [] []).boxes.length (0 : Nat)) = some (AV.int IntKind.i64 x.op) from load_box (cs := [AV.int IntKind.i64 x.op, AV.str x.key, AV.str x.val]) (by simp [List.set_append]) rfl) <| .yes (show (decide ((3 : Int) ≤ x.op)) = true from decide_eq_true (show (3 : Int) ≤ x.op from (by omega))) <| .load (show loadA false (1 : Nat) (Heap.mk (bs ++ [[AV.int IntKind.i64 x.op, AV.str x.key, AV.str x.val]]) [] []) (AV.ptr (Heap.mk bs [] []).boxes.length (2 : Nat)) = some (AV.str x.val) from load_box (cs := [AV.int IntKind.i64 x.op, AV.str x.key, AV.str x.val]) (by simp [List.set_append]) rfl) <| .split (x.val = []) (fun g5 => .no (show (!x.val == []) = false from nb_f (show x.val = [] from g5)) <| .bin (show binA BinOp.add (AV.int IntKind.i64 (↑i : Int)) (AV.int IntKind.i64 (1 : Int)) = some (AV.int IntKind.i64 (↑(i + (1 : Nat)) : Int)) from inc_i (by omega)) <| .cutQ k44_0 [(0, AV.sl SK.sh (List.map encM l)), (3, AV.int IntKind.i64 (↑(i + (1 : Nat)) : Int))] (Heap.mk (bs ++ [[AV.int IntKind.i64 x.op, AV.str x.key, AV.str x.val]]) [] []) (fun T hT => (ih (i + (1 : Nat)) (bs ++ [[AV.int IntKind.i64 x.op, AV.str x.key, AV.str x.val]]) hnx T hT).to (by grind [ckMl, valOk]))) (fun g5 => .yes (show (!x.val == []) = true from nb_t (show ¬ (x.val = []) from g5)) <| .fin ((ARes.ret (AV.int IntKind.i64 (3 : Int)), Heap.mk (bs ++ [[AV.int IntKind.i64 x.op, AV.str x.key, AV.str x.val]]) [] [])) (by simp only [IsRet]; grind [ckMl, valOk])))) (fun g3 => .yes (show (!isName x.key) = true from not_t (show ¬ (isName x.key = true) from g3)) <| .tt <| .tt <| .fin ((ARes.ret (AV.int IntKind.i64 (3 : Int)), Heap.mk (bs ++ [[AV.int IntKind.i64 x.op, AV.str x.key, AV.str x.val]]) [] [])) (by simp only [IsRet]; grind [ckMl, valOk]))))) (by kernel_rfl)
theorem ckM_ref (l : List Term) : Gives cfg 44 [.sl .sh (l.map encM)] (.int .i64 (ckM l)) := by
  refine Gives.run (l44 _ _) ?_
  have h := fun hn => ckM_ref_loop l hn l 0 [] rfl
  exact goG 60 []  trivial  (.len (show lenA false (AV.sl SK.sh (List.map encM l)) = some (AV.int IntKind.i64 (↑l.length : Int)) from len_map _) <| .split ((8 : Int) < (↑l.length : Int)) (fun g1 => .yes (show (decide ((8 : Int) < (↑l.length : Int))) = true from decide_eq_true (show (8 : Int) < (↑l.length : Int) from g1)) <| .fin ((ARes.ret (AV.int IntKind.i64 (4 : Int)), Heap.mk [] [] [])) (by simp only [IsRet]; grind [ckM])) (fun g1 => .no (show (decide ((8 : Int) < (↑l.length : Int))) = false from decide_eq_false (show ¬ ((8 : Int) < (↑l.length : Int)) from g1)) <| .cutQ k44_0 [(0, AV.sl SK.sh (List.map encM l)), (3, AV.int IntKind.i64 (0 : Int))] (Heap.mk [] [] []) (fun T hT => (h (by omega) T hT).to (by grind [ckM])))) (by kernel_rfl)
theorem ckM_loop (l : List Term) (hn : l.length ≤ 8) : ∀ (post : List Term) (i : Nat) (bs : List (List AV)) (hd : l.drop i = post) (T : Env) (hT : Has T [(9, .sl .sh (l.map encM)), (10, .int .i64 l.length), (11, .int .i64 i)]),
    Goes cfg a46 k46_0 T ⟨bs, [], []⟩ (IsRet (.int .i64 (ckMl post))) := by
  intro post
  induction post with
  | nil =>
    intro i bs hd T hT
    have hge := drop_ge hd
    exact goG 60 _  hT  (.no (show (decide ((↑i : Int) < (↑l.length : Int))) = false from decide_eq_false (show ¬ ((↑i : Int) < (↑l.length : Int)) from (by omega))) <| .fin ((ARes.ret (AV.int IntKind.i64 (0 : Int)), Heap.mk bs [] [])) rfl) (by kernel_rfl)
  | cons x post ih =>
    intro i bs hd T hT
    have hlt := drop_lt hd
    have hnx := drop_next hd
    exact goG 60 _  hT  (.yes (show (decide ((↑i : Int) < (↑l.length : Int))) = true from decide_eq_true (show (↑i : Int) < (↑l.length : Int) from (by omega))) <| .idx (show idxA (3 : Nat) (AV.sl SK.sh (List.map encM l)) (AV.int IntKind.i64 (↑i : Int)) = some (AV.ref (encM x).cells) from idx_row hd (by rfl)) <| .load (show loadA true (3 : Nat) (Heap.mk bs [] []) (AV.ref [AV.int IntKind.i64 x.op, AV.str x.key, AV.str x.val]) = some (AV.agg [AV.int IntKind.i64 x.op, AV.str x.key, AV.str x.val]) from rfl) <| .store (show storeA (3 : Nat) (Heap.mk (bs ++ [[AV.int IntKind.i64 (0 : Int), AV.str [], AV.str []]]) [] []) (AV.ptr (Heap.mk bs [] []).boxes.length (0 : Nat)) (AV.agg [AV.int IntKind.i64 x.op, AV.str x.key, AV.str x.val]) = some (Heap.mk (bs ++ [[AV.int IntKind.i64 x.op, AV.str x.key, AV.str x.val]]) [] []) from store_box2 (cs := [AV.int IntKind.i64 (0 : Int), AV.str [], AV.str []]) (cs' := [AV.int IntKind.i64 x.op, AV.str x.key, AV.str x.val]) (by simp [List.set_append]) rfl (by simp [List.set_append])) <| .load (show loadA false (1 : Nat) (Heap.mk (bs ++ [[AV.int IntKind.i64 x.op, AV.str x.key, AV.str x.val]]) [] []) (AV.ptr (Heap.mk bs [] []).boxes.length (2 : Nat)) = some (AV.str x.val) from load_box (cs := [AV.int IntKind.i64 x.op, AV.str x.key, AV.str x.val]) (by simp [List.set_append]) rfl) <| .load (show loadA false (1 : Nat) (Heap.mk (bs ++ [[AV.int IntKind.i64 x.op, AV.str x.key, AV.str x.val]]) [] []) (AV.ptr (Heap.mk bs [] []).boxes.length (0 : Nat)) = some (AV.int IntKind.i64 x.op) from load_box (cs := [AV.int IntKind.i64 x.op, AV.str x.key, AV.str x.val]) (by simp [List.set_append]) rfl) <| .split (x.op = (1 : Int)) (fun g1 => .yes (show (x.op == (1 : Int)) = true from beq_iff_eq.2 (show x.op = (1 : Int) from g1)) <| .yes (show (x.op == (1 : Int)) = true from beq_iff_eq.2 (show x.op = (1 : Int) from (by omega))) <| .load (show loadA false (1 : Nat) (Heap.mk (bs ++ [[AV.int IntKind.i64 x.op, AV.str x.key, AV.str x.val]]) [] []) (AV.ptr (Heap.mk bs [] []).boxes.length (2 : Nat)) = some (AV.str x.val) from load_box (cs := [AV.int IntKind.i64 x.op, AV.str x.key, AV.str x.val]) (by simp [List.set_append]) rfl) <| .callG ([AV.str x.val]) (AV.bool (isName x.val)) (show Gives cfg (62 : FuncId) [AV.str x.val] (AV.bool (isName x.val)) from res_name _) ⟨rfl, rfl⟩ ⟨rfl, rfl⟩ <| .load (show loadA false (1 : Nat) (Heap.mk (bs ++ [[AV.int IntKind.i64 x.op, AV.str x.key, AV.str x.val]]) [] []) (AV.ptr (Heap.mk bs [] []).boxes.length (1 : Nat)) = some (AV.str x.key) from load_box (cs := [AV.int IntKind.i64 x.op, AV.str x.key, AV.str x.val]) (by simp [List.set_append]) rfl) <| .callG ([AV.str x.key]) (AV.bool (isName x.key)) (show Gives cfg (62 : FuncId) [AV.str x.key] (AV.bool (isName x.key)) from res_name _) ⟨rfl, rfl⟩ ⟨rfl, rfl⟩ <| .split (isName x.key = true) (fun g2 => .no (show (!isName x.key) = false from not_f (show isName x.key = true from g2)) <| .split (isName x.val = true) (fun g3 => .no (show (!isName x.val) = false from not_f (show isName x.val = true from g3)) <| .bin (show binA BinOp.add (AV.int IntKind.i64 (↑i : Int)) (AV.int IntKind.i64 (1 : Int)) = some (AV.int IntKind.i64 (↑(i + (1 : Nat)) : Int)) from inc_i (by omega)) <| .cutQ k46_0 [(9, AV.sl SK.sh (List.map encM l)), (10, AV.int IntKind.i64 (↑l.length : Int)), (11, AV.int IntKind.i64 (↑(i + (1 : Nat)) : Int))] (Heap.mk (bs ++ [[AV.int IntKind.i64 x.op, AV.str x.key, AV.str x.val]]) [] []) (fun T hT => (ih (i + (1 : Nat)) (bs ++ [[AV.int IntKind.i64 x.op, AV.str x.key, AV.str x.val]]) hnx T hT).to (by grind [ckMl, valOk]))) (fun g3 => .yes (show (!isName x.val) = true from not_t (show ¬ (isName x.val = true) from g3)) <| .fin ((ARes.ret (AV.int IntKind.i64 (3 : Int)), Heap.mk (bs ++ [[AV.int IntKind.i64 x.op, AV.str x.key, AV.str x.val]]) [] [])) (by simp only [IsRet]; grind [ckMl, valOk]))) (fun g2 => .yes (show (!isName x.key) = true from not_t (show ¬ (isName x.key = true) from g2)) <| .tt <| .fin ((ARes.ret (AV.int IntKind.i64 (3 : Int)), Heap.mk (bs ++ [[AV.int IntKind.i64 x.op, AV.str x.key, AV.str x.val]]) [] [])) (by simp only [IsRet]; grind [ckMl, valOk]))) (fun g1 => .no (show (x.op == (1 : Int)) = false from beq_eq_false_iff_ne.2 (show ¬ (x.op = (1 : Int)) from g1)) <| .split (x.op = (2 : Int)) (fun g2 => .yes (show (x.op == (2 : Int)) = true from beq_iff_eq.2 (show x.op = (2 : Int) from g2)) <| .load (show loadA false (1 : Nat) (Heap.mk (bs ++ [[AV.int IntKind.i64 x.op, AV.str x.key, AV.str x.val]]) [] []) (AV.ptr (Heap.mk bs [] []).boxes.length (2 : Nat)) = some (AV.str x.val) from load_box (cs := [AV.int IntKind.i64 x.op, AV.str x.key, AV.str x.val]) (by simp [List.set_append]) rfl) <| .callG ([AV.str x.val]) (AV.bool (isName x.val)) (show Gives cfg (62 : FuncId) [AV.str x.val] (AV.bool (isName x.val)) from res_name _) ⟨rfl, rfl⟩ ⟨rfl, rfl⟩ <| .load (show loadA false (1 : Nat) (Heap.mk (bs ++ [[AV.int IntKind.i64 x.op, AV.str x.key, AV.str x.val]]) [] []) (AV.ptr (Heap.mk bs [] []).boxes.length (1 : Nat)) = some (AV.str x.key) from load_box (cs := [AV.int IntKind.i64 x.op, AV.str x.key, AV.str x.val]) (by simp [List.set_append]) rfl) <| .callG ([AV.str x.key]) (AV.bool (isName x.key)) (show Gives cfg (62 : FuncId) [AV.str x.key] (AV.bool (isName x.key)) from res_name _) ⟨rfl, rfl⟩ ⟨rfl, rfl⟩ <| .split (isName x.key = true) (fun g3 => .no (show (!isName x.key) = false from not_f (show isName x.key = true from g3)) <| .split (isName x.val = true) (fun g4 => .no (show (!isName x.val) = false from not_f (show isName x.val = true from g4)) <| .bin (show binA BinOp.add (AV.int IntKind.i64 (↑i : Int)) (AV.int IntKind.i64 (1 : Int)) = some (AV.int IntKind.i64 (↑(i + (1 : Nat)) : Int)) from inc_i (by omega)) <| .cutQ k46_0 [(9, AV.sl SK.sh (List.map encM l)), (10, AV.int IntKind.i64 (↑l.length : Int)), (11, AV.int IntKind.i64 (↑(i + (1 : Nat)) : Int))] (Heap.mk (bs ++ [[AV.int IntKind.i64 x.op, AV.str x.key, AV.str x.val]]) [] []) (fun T hT => (ih (i + (1 : Nat)) (bs ++ [[AV.int IntKind.i64 x.op, AV.str x.key, AV.str x.val]]) hnx T hT).to (by grind [ckMl, valOk]))) (fun g4 => .yes (show (!isName x.val) = true from not_t (show ¬ (isName x.val = true) from g4)) <| .fin ((ARes.ret (AV.int IntKind.i64 (3 : Int)), Heap.mk (bs ++ [[AV.int IntKind.i64 x.op, AV.str x.key, AV.str x.val]]) [] [])) (by simp only [IsRet]; grind [ckMl, valOk]))) (fun g3 => .yes (show (!isName x.key) = true from not_t (show ¬ (isName x.key = true) from g3)) <| .tt <| .fin ((ARes.ret (AV.int IntKind.i64 (3 : Int)), Heap.mk (bs ++ [[AV.int IntKind.i64 x.op, AV.str x.key, AV.str x.val]]) [] [])) (by simp only [IsRet]; grind [ckMl, valOk]))) (fun g2 => .no (show (x.op == (2 : Int)) = false from beq_eq_false_iff_ne.2 (show ¬ (x.op = (2 : Int)) from g2)) <| .split (x.op = (3 : Int)) (fun g3 => .yes (show (x.op == (3 : Int)) = true from beq_iff_eq.2 (show x.op = (3 : Int) from g3)) <| .yes (show (x.op == (3 : Int)) = true from beq_iff_eq.2 (show x.op = (3 : Int) from (by omega))) <| .load (show loadA false (1 : Nat) (Heap.mk (bs ++ [[AV.int IntKind.i64 x.op, AV.str x.key, AV.str x.val]]) [] []) (AV.ptr (Heap.mk bs [] []).boxes.length (1 : Nat)) = some (AV.str x.key) from load_box (cs := [AV.int IntKind.i64 x.op, AV.str x.key, AV.str x.val]) (by simp [List.set_append]) rfl) <| .callG ([AV.str x.key]) (AV.bool (isName x.key)) (show Gives cfg (62 : FuncId) [AV.str x.key] (AV.bool (isName x.key)) from res_name _) ⟨rfl, rfl⟩ ⟨rfl, rfl⟩ <| .split (isName x.key = true) (fun g4 => .no (show (!isName x.key) = false from not_f (show isName x.key = true from g4)) <| .split (x.val = []) (fun g5 => .no (show (!x.val == []) = false from nb_f (show x.val = [] from g5)) <| .bin (show binA BinOp.add (AV.int IntKind.i64 (↑i : Int)) (AV.int IntKind.i64 (1 : Int)) = some (AV.int IntKind.i64 (↑(i + (1 : Nat)) : Int)) from inc_i (by omega)) <| .cutQ k46_0 [(9, AV.sl SK.sh (List.map encM l)), (10, AV.int IntKind.i64 (↑l.length : Int)), (11, AV.int IntKind.i64 (↑(i + (1 : Nat)) : Int))] (Heap.mk (bs ++ [[AV.int IntKind.i64 x.op, AV.str x.key, AV.str x.val]]) [] []) (fun T hT => (ih (i + (1 : Nat)) (bs ++ [[AV.int IntKind.i64 x.op, AV.str x.key, AV.str x.val]]) hnx T hT).to (by grind [ckMl, valOk]))) (fun g5 => .yes (show (!x.val == []) = true from nb_t (show ¬ (x.val = []) from g5)) <| .fin ((ARes.ret (AV.int IntKind.i64 (3 : Int)), Heap.mk (bs ++ [[AV.int IntKind.i64 x.op, AV.str x.key, AV.str x.val]]) [] [])) (by simp only [IsRet]; grind [ckMl, valOk]))) (fun g4 => .yes (show (!isName x.key) = true from not_t (show ¬ (isName x.key = true) from g4)) <| .tt <| .fin ((ARes.ret (AV.int IntKind.i64 (3 : Int)), Heap.mk (bs ++ [[AV.int IntKind.i64 x.op, AV.str x.key, AV.str x.val]]) [] [])) (by simp only [IsRet]; grind [ckMl, valOk]))) (fun g3 => .no (show (x.op == (3 : Int)) = false from beq_eq_false_iff_ne.2 (show ¬ (x.op = (3 : Int)) from g3)) <| .split (x.op = (4 : Int)) (fun g4 => .yes (show (x.op == (4 : Int)) = true from beq_iff_eq.2 (show x.op = (4 : Int) from g4)) <| .load (show loadA false (1 : Nat) (Heap.mk (bs ++ [[AV.int IntKind.i64 x.op, AV.str x.key, AV.str x.val]]) [] []) (AV.ptr (Heap.mk bs [] []).boxes.length (1 : Nat)) = some (AV.str x.key) from load_box (cs := [AV.int IntKind.i64 x.op, AV.str x.key, AV.str x.val]) (by simp [List.set_append]) rfl) <| .callG ([AV.str x.key]) (AV.bool (isName x.key)) (show Gives cfg (62 : FuncId) [AV.str x.key] (AV.bool (isName x.key)) from res_name _) ⟨rfl, rfl⟩ ⟨rfl, rfl⟩ <| .split (isName x.key = true) (fun g5 => .no (show (!isName x.key) = false from not_f (show isName x.key = true from g5)) <| .split (x.val = []) (fun g6 => .no (show (!x.val == []) = false from nb_f (show x.val = [] from g6)) <| .bin (show binA BinOp.add (AV.int IntKind.i64 (↑i : Int)) (AV.int IntKind.i64 (1 : Int)) = some (AV.int IntKind.i64 (↑(i + (1 : Nat)) : Int)) from inc_i (by omega)) <| .cutQ k46_0 [(9, AV.sl SK.sh (List.map encM l)), (10, AV.int IntKind.i64 (↑l.length : Int)), (11, AV.int IntKind.i64 (↑(i + (1 : Nat)) : Int))] (Heap.mk (bs ++ [[AV.int IntKind.i64 x.op, AV.str x.key, AV.str x.val]]) [] []) (fun T hT => (ih (i + (1 : Nat)) (bs ++ [[AV.int IntKind.i64 x.op, AV.str x.key, AV.str x.val]]) hnx T hT).to (by grind [ckMl, valOk]))) (fun g6 => .yes (show (!x.val == []) = true from nb_t (show ¬ (x.val = []) from g6)) <| .fin ((ARes.ret (AV.int IntKind.i64 (3 : Int)), Heap.mk (bs ++ [[AV.int IntKind.i64 x.op, AV.str x.key, AV.str x.val]]) [] [])) (by simp only [IsRet]; grind [ckMl, valOk]))) (fun g5 => .yes (show (!isName x.key) = true from not_t (show ¬ (isName x.key = true) from g5)) <| .tt <| .fin ((ARes.ret (AV.int IntKind.i64 (3 : Int)), Heap.mk (bs ++ [[AV.int IntKind.i64 x.op, AV.str x.key, AV.str x.val]]) [] [])) (by simp only [IsRet]; grind [ckMl, valOk]))) (fun g4 => .no (show (x.op == (4 : Int)) = false from beq_eq_false_iff_ne.2 (show ¬ (x.op = (4 : Int)) from g4)) <| .fin ((ARes.ret (AV.int IntKind.i64 (1 : Int)), Heap.mk (bs ++ [[AV.int IntKind.i64 x.op, AV.str x.key, AV.str x.val]]) [] [])) (by simp only [IsRet]; grind [ckMl, valOk])))))) (by kernel_rfl)
theorem ckM_any (l : List Term) : Gives cfg 46 [.sl .sh (l.map encM)] (.int .i64 (ckM l)) := by
  refine Gives.run (l46 _ _) ?_
  have h := fun hn => ckM_loop l hn l 0 [] rfl
  exact goG 60 []  trivial  (.len (show lenA false (AV.sl SK.sh (List.map encM l)) = some (AV.int IntKind.i64 (↑l.length : Int)) from len_map _) <| .split ((8 : Int) < (↑l.length : Int)) (fun g1 => .yes (show (decide ((8 : Int) < (↑l.length : Int))) = true from decide_eq_true (show (8 : Int) < (↑l.length : Int) from g1)) <| .fin ((ARes.ret (AV.int IntKind.i64 (4 : Int)), Heap.mk [] [] [])) (by simp only [IsRet]; grind [ckM])) (fun g1 => .no (show (decide ((8 : Int) < (↑l.length : Int))) = false from decide_eq_false (show ¬ ((8 : Int) < (↑l.length : Int)) from g1)) <| .len (show lenA false (AV.sl SK.sh (List.map encM l)) = some (AV.int IntKind.i64 (↑l.length : Int)) from len_map _) <| .cutQ k46_0 [(9, AV.sl SK.sh (List.map encM l)), (10, AV.int IntKind.i64 (↑l.length : Int)), (11, AV.int IntKind.i64 (0 : Int))] (Heap.mk [] [] []) (fun T hT => (h (by omega) T hT).to (by grind [ckM])))) (by kernel_rfl)
end Go.Aa.T

set_option linter.unusedVariables false
set_option linter.unusedSimpArgs false
set_option maxRecDepth 100000
namespace Go.Aa.T
open Go.Aa Go.Proofs



end Go.Aa.T

set_option linter.unusedVariables false
set_option linter.unusedSimpArgs false
set_option maxRecDepth 100000
namespace Go.Aa.T
open Go.Aa Go.Proofs
end Go.Aa.T

set_option linter.unusedVariables false
set_option linter.unusedSimpArgs false
set_option maxRecDepth 100000
namespace Go.Aa.T
open Go.Aa Go.Proofs


def goodP (p : Pair) : Bool := isName p.key && isName p.val
def place (s : List Pair) (k : List UInt8) : Nat := (s.takeWhile (fun p => Op.bytesLess p.key k)).length

end Go.Aa.T

set_option linter.unusedVariables false
set_option linter.unusedSimpArgs false
set_option maxRecDepth 100000
namespace Go.Aa.T
open Go.Aa Go.Proofs
end Go.Aa.T

set_option linter.unusedVariables false
set_option linter.unusedSimpArgs false
set_option maxRecDepth 100000
namespace Go.Aa.T
open Go.Aa Go.Proofs
def pText (x : Pair) : List UInt8 := x.key ++ [58] ++ x.val
def mText (x : Term) : List UInt8 := if x.op = 1 then x.key ++ [58] ++ x.val else if x.op = 2 then x.key ++ [33] ++ x.val else if x.op = 4 then [45] ++ x.key else x.key
def textOf {α : Type} (f : α → List UInt8) (l : List α) : List UInt8 := if l.isEmpty then [45] else Lib.join (l.map f) [44]
theorem tail_len : ∀ (r : List (List UInt8)), (∀ s ∈ r, s.length ≤ 103) → (Lib.joinTail [44] r).length ≤ r.length * 104
  | [], _ => by simp [Lib.joinTail]
  | s :: r, h => by
    have h1 := h s (by simp)
    have h2 := tail_len r (fun y hy => h y (by simp [hy]))
    simp only [Lib.joinTail, List.map_cons, List.flatten_cons, List.length_append, List.length_cons, List.length_nil] at h2 ⊢
    omega
theorem join_len (ss : List (List UInt8)) (h : ∀ s ∈ ss, s.length ≤ 103) (hn : ss.length ≤ 20) : (Lib.join ss [44]).length ≤ 3000 := by
  cases ss with
  | nil => simp [Lib.join_nil]
  | cons x r =>
    rw [Lib.join_cons, List.length_append]
    have h1 := h x (by simp)
    have h2 := tail_len r (fun y hy => h y (by simp [hy]))
    simp only [List.length_cons] at hn
    omega
theorem strsA_map (ss : List (List UInt8)) : strsA (ss.map AV.str) = some ss := by
  induction ss with
  | nil => rfl
  | cons s ss ih => simp [strsA, ih]
theorem join_any (ss : List (List UInt8)) (h1 : ss.length ≤ 140737488355328) (h2 : (Lib.join ss [44]).length ≤ 140737488355328) : Gives cfg 99 [.sl .sh (ss.map AV.str), .str [44]] (.str (Lib.join ss [44])) := by
  refine Gives.of (H' := Heap.nil) ?_
  rw [lim_ext (g := joinE) rfl rfl]
  have : joinE [.sl .sh (ss.map AV.str), .str [44]] Heap.nil = some (.str (Lib.join ss [44]), Heap.nil) := by
    simp only [joinE, strsA_map]
    exact if_pos ⟨h1, h2⟩
  rw [this]; rfl
theorem lenSt {l : List (List UInt8)} : lenOk 1 (l.map AV.str) = true := lenOk_map fun _ => rfl




theorem pText_len (x : Pair) (hk : x.key.length ≤ 50) (hv : x.val.length ≤ 50) : (pText x).length ≤ 103 := by
  unfold pText
  repeat' split
  all_goals (try simp)
  all_goals omega
theorem pText_one (x : Pair) (hk : x.key.length ≤ 50) (hv : x.val.length ≤ 50) : Gives cfg 85 [encP x] (.str (pText x)) := by
  refine Gives.run (l85 _ _) ?_
  exact goG 60 []  trivial  (.bin (show binA BinOp.add (AV.str x.key) (AV.str [(58 : UInt8)]) = some (AV.str (x.key ++ [(58 : UInt8)])) from str_add (by simp; omega)) <| .bin (show binA BinOp.add (AV.str (x.key ++ [(58 : UInt8)])) (AV.str x.val) = some (AV.str (x.key ++ [(58 : UInt8)] ++ x.val)) from str_add (by simp; omega)) <| .fin ((ARes.ret (AV.str (x.key ++ [(58 : UInt8)] ++ x.val)), Heap.mk [[AV.str x.key, AV.str x.val]] [] [])) rfl) (by kernel_rfl)
theorem pText_loop (l : List Pair) (hn : l.length ≤ 20) (hf : ∀ x ∈ l, x.key.length ≤ 50 ∧ x.val.length ≤ 50) (hj : (Lib.join (l.map pText) [44]).length ≤ 3000) : ∀ (post : List Pair) (i : Nat) (acc : List (List UInt8)) (bs : List (List AV)) (hd : l.drop i = post) (ha : acc.length = i) (hall : acc ++ post.map pText = l.map pText) (T : Env)
    (hT : Has T [(1, .func 85 []), (5, rowS Heap.nil (acc.map AV.str)), (11, .sl .sh (l.map encP)), (12, .int .i64 l.length), (13, .int .i64 i)]),
    Goes cfg a84 k84_0 T (rowH ⟨bs, [], []⟩ (acc.map AV.str)) (IsRet (.str (Lib.join (l.map pText) [44]))) := by
  intro post
  induction post with
  | nil =>
    intro i acc bs hd ha hall T hT
    have hge := drop_ge hd
    have e : acc = l.map pText := by simpa using hall
    subst e
    exact goG 60 _  hT  (.no (show (decide ((↑i : Int) < (↑l.length : Int))) = false from decide_eq_false (show ¬ ((↑i : Int) < (↑l.length : Int)) from (by simp; omega))) <| .callG ([rowS Heap.nil (List.map AV.str (List.map pText l)), AV.str [(44 : UInt8)]]) (AV.str (Lib.join (List.map pText l) [(44 : UInt8)])) (show Gives cfg (99 : FuncId) [AV.sl SK.sh (List.map AV.str (List.map pText l)), AV.str [(44 : UInt8)]] (AV.str (Lib.join (List.map pText l) [(44 : UInt8)])) from join_any _ (by simp; omega) (by omega)) Shuts.p ⟨rfl, rfl⟩ <| .fin ((ARes.ret (AV.str (Lib.join (List.map pText l) [(44 : UInt8)])), rowH (Heap.mk bs [] []) (List.map AV.str (List.map pText l)))) rfl) (by kernel_rfl)
  | cons x post ih =>
    intro i acc bs hd ha hall T hT
    have hlt := drop_lt hd
    have hnx := drop_next hd
    obtain ⟨hk, hv⟩ := hf x (drop_mem hd)
    have hall2 : (acc ++ [pText x]) ++ post.map pText = l.map pText := by rw [← hall]; simp
    exact goG 60 _  hT  (.yes (show (decide ((↑i : Int) < (↑l.length : Int))) = true from decide_eq_true (show (↑i : Int) < (↑l.length : Int) from (by simp; omega))) <| .idx (show idxA (2 : Nat) (AV.sl SK.sh (List.map encP l)) (AV.int IntKind.i64 (↑i : Int)) = some (AV.ref (encP x).cells) from idx_row hd (by rfl)) <| .load (row_load (ys := List.map AV.str acc) (show loadA true (2 : Nat) (Heap.mk bs [] []) (AV.ref [AV.str x.key, AV.str x.val]) = some (AV.agg [AV.str x.key, AV.str x.val]) from rfl)) <| .boxR (AV.agg [AV.str [], AV.str []]) (Heap.mk bs [] []) (List.map AV.str acc) rfl <| .store (row_store (ys := List.map AV.str acc) (show storeA (2 : Nat) (Heap.mk (bs ++ [[AV.str [], AV.str []]]) [] []) (AV.ptr (Heap.mk bs [] []).boxes.length (0 : Nat)) (AV.agg [AV.str x.key, AV.str x.val]) = some (Heap.mk (bs ++ [[AV.str x.key, AV.str x.val]]) [] []) from store_box2 (cs := [AV.str [], AV.str []]) (cs' := [AV.str x.key, AV.str x.val]) (by simp [List.set_append]) rfl (by simp [List.set_append]))) <| .load (row_load (ys := List.map AV.str acc) (show loadA true (2 : Nat) (Heap.mk (bs ++ [[AV.str x.key, AV.str x.val]]) [] []) (AV.ptr (Heap.mk bs [] []).boxes.length (0 : Nat)) = some (AV.agg [AV.str x.key, AV.str x.val]) from load_box (cs := [AV.str x.key, AV.str x.val]) (by simp [List.set_append]) rfl)) <| .callG ([AV.agg [AV.str x.key, AV.str x.val]]) (AV.str (pText x)) (show Gives cfg (85 : FuncId) [encP x] (AV.str (pText x)) from pText_one _ hk hv) ⟨rfl, rfl⟩ ⟨rfl, rfl⟩ <| .append (show appendA (1 : Nat) (16 : Nat) (rowH (Heap.mk (bs ++ [[AV.str x.key, AV.str x.val]]) [] []) (List.map AV.str acc)) (rowS Heap.nil (List.map AV.str acc)) (AV.sl SK.full [AV.str (pText x)]) = some ((rowS Heap.nil (List.map AV.str (acc ++ [pText x])), rowH (Heap.mk (bs ++ [[AV.str x.key, AV.str x.val]]) [] []) (List.map AV.str (acc ++ [pText x])))) from row_append_B (by simp; omega) (by exact lenSt) (by rfl) (by rfl)) <| .bin (show binA BinOp.add (AV.int IntKind.i64 (↑i : Int)) (AV.int IntKind.i64 (1 : Int)) = some (AV.int IntKind.i64 (↑(i + (1 : Nat)) : Int)) from inc_i (by omega)) <| .cutQ k84_0 [(1, AV.func (85 : FuncId) []), (5, rowS Heap.nil (List.map AV.str (acc ++ [pText x]))), (11, AV.sl SK.sh (List.map encP l)), (12, AV.int IntKind.i64 (↑l.length : Int)), (13, AV.int IntKind.i64 (↑(i + (1 : Nat)) : Int))] (rowH (Heap.mk (bs ++ [[AV.str x.key, AV.str x.val]]) [] []) (List.map AV.str (acc ++ [pText x]))) (fun T hT => (ih (i + (1 : Nat)) (acc ++ [pText x]) (bs ++ [[AV.str x.key, AV.str x.val]]) hnx (by simp; omega) hall2 T hT))) (by kernel_rfl)
theorem pText_any (l : List Pair) (hf : fewP l = true) : Gives cfg 51 [.sl .sh (l.map encP)] (.str (textOf pText l)) := by
  have hn := fewP_len hf
  have hf2 : ∀ x ∈ l, x.key.length ≤ 50 ∧ x.val.length ≤ 50 := by
    simp only [fewP, few, Bool.and_eq_true, List.all_eq_true, decide_eq_true_eq] at hf
    exact hf.2
  have hj : (Lib.join (l.map pText) [44]).length ≤ 3000 := join_len _ (by
    intro s hs
    obtain ⟨x, hx, rfl⟩ := List.mem_map.1 hs
    exact pText_len x (hf2 x hx).1 (hf2 x hx).2) (by simpa using hn)
  have hjoin : Gives cfg 84 [.sl .sh (l.map encP), .func 85 []] (.str (textOf pText l)) := by
    refine Gives.run (l84 _ _) ?_
    have h := pText_loop l hn hf2 hj l 0 [] [] rfl rfl rfl
    by_cases hl : l = []
    · subst hl
      exact goG 60 []  trivial  (.len (show lenA false (AV.sl SK.sh []) = some (AV.int IntKind.i64 (↑[].length : Int)) from len_sl _ _) <| .tt <| .fin ((ARes.ret (AV.str [(45 : UInt8)]), Heap.mk [] [] [])) rfl) (by kernel_rfl)
    · have hp : 0 < l.length := List.length_pos_iff.2 hl
      have e : textOf pText l = Lib.join (l.map pText) [44] := by simp [textOf, hl]
      rw [e]
      exact goG 60 []  trivial  (.len (show lenA false (AV.sl SK.sh (List.map encP l)) = some (AV.int IntKind.i64 (↑l.length : Int)) from len_map _) <| .no (show ((↑l.length : Int) == (0 : Int)) = false from beq_eq_false_iff_ne.2 (show ¬ ((↑l.length : Int) = (0 : Int)) from (by omega))) <| .len (show lenA false (AV.sl SK.sh (List.map encP l)) = some (AV.int IntKind.i64 (↑l.length : Int)) from len_map _) <| .cutQ k84_0 [(1, AV.func (85 : FuncId) []), (5, AV.sl SK.full []), (11, AV.sl SK.sh (List.map encP l)), (12, AV.int IntKind.i64 (↑l.length : Int)), (13, AV.int IntKind.i64 (0 : Int))] (Heap.mk [] [] []) (fun T hT => (h T hT))) (by kernel_rfl)
  refine Gives.run (l51 _ _) ?_
  exact goG 60 []  trivial  (.callG ([AV.sl SK.sh (List.map encP l), AV.func (85 : FuncId) []]) (AV.str (textOf pText l)) (show Gives cfg (84 : FuncId) [AV.sl SK.sh (List.map encP l), AV.func (85 : FuncId) []] (AV.str (textOf pText l)) from hjoin) ⟨rfl, rfl⟩ ⟨rfl, rfl⟩ <| .fin ((ARes.ret (AV.str (textOf pText l)), Heap.mk [] [] [])) rfl) (by kernel_rfl)

theorem mText_len (x : Term) (hk : x.key.length ≤ 50) (hv : x.val.length ≤ 50) : (mText x).length ≤ 103 := by
  unfold mText
  repeat' split
  all_goals (try simp)
  all_goals omega
theorem mText_one (x : Term) (hk : x.key.length ≤ 50) (hv : x.val.length ≤ 50) : Gives cfg 87 [encM x] (.str (mText x)) := by
  refine Gives.run (l87 _ _) ?_
  exact goG 60 []  trivial  (.split (x.op = (1 : Int)) (fun g1 => .yes (show (x.op == (1 : Int)) = true from beq_iff_eq.2 (show x.op = (1 : Int) from g1)) <| .bin (show binA BinOp.add (AV.str x.key) (AV.str [(58 : UInt8)]) = some (AV.str (x.key ++ [(58 : UInt8)])) from str_add (by simp; omega)) <| .bin (show binA BinOp.add (AV.str (x.key ++ [(58 : UInt8)])) (AV.str x.val) = some (AV.str (x.key ++ [(58 : UInt8)] ++ x.val)) from str_add (by simp; omega)) <| .fin ((ARes.ret (AV.str (x.key ++ [(58 : UInt8)] ++ x.val)), Heap.mk [[AV.int IntKind.i64 x.op, AV.str x.key, AV.str x.val]] [] [])) (by simp [IsRet, mText, *])) (fun g1 => .no (show (x.op == (1 : Int)) = false from beq_eq_false_iff_ne.2 (show ¬ (x.op = (1 : Int)) from g1)) <| .split (x.op = (2 : Int)) (fun g2 => .yes (show (x.op == (2 : Int)) = true from beq_iff_eq.2 (show x.op = (2 : Int) from g2)) <| .bin (show binA BinOp.add (AV.str x.key) (AV.str [(33 : UInt8)]) = some (AV.str (x.key ++ [(33 : UInt8)])) from str_add (by simp; omega)) <| .bin (show binA BinOp.add (AV.str (x.key ++ [(33 : UInt8)])) (AV.str x.val) = some (AV.str (x.key ++ [(33 : UInt8)] ++ x.val)) from str_add (by simp; omega)) <| .fin ((ARes.ret (AV.str (x.key ++ [(33 : UInt8)] ++ x.val)), Heap.mk [[AV.int IntKind.i64 x.op, AV.str x.key, AV.str x.val]] [] [])) (by simp [IsRet, mText, *])) (fun g2 => .no (show (x.op == (2 : Int)) = false from beq_eq_false_iff_ne.2 (show ¬ (x.op = (2 : Int)) from g2)) <| .split (x.op = (4 : Int)) (fun g3 => .yes (show (x.op == (4 : Int)) = true from beq_iff_eq.2 (show x.op = (4 : Int) from g3)) <| .bin (show binA BinOp.add (AV.str [(45 : UInt8)]) (AV.str x.key) = some (AV.str ([(45 : UInt8)] ++ x.key)) from str_add (by simp; omega)) <| .fin ((ARes.ret (AV.str ((45 : UInt8) :: x.key)), Heap.mk [[AV.int IntKind.i64 x.op, AV.str x.key, AV.str x.val]] [] [])) (by simp [IsRet, mText, *])) (fun g3 => .no (show (x.op == (4 : Int)) = false from beq_eq_false_iff_ne.2 (show ¬ (x.op = (4 : Int)) from g3)) <| .fin ((ARes.ret (AV.str x.key), Heap.mk [[AV.int IntKind.i64 x.op, AV.str x.key, AV.str x.val]] [] [])) (by simp [IsRet, mText, *]))))) (by kernel_rfl)
theorem mText_loop (l : List Term) (hn : l.length ≤ 20) (hf : ∀ x ∈ l, x.key.length ≤ 50 ∧ x.val.length ≤ 50) (hj : (Lib.join (l.map mText) [44]).length ≤ 3000) : ∀ (post : List Term) (i : Nat) (acc : List (List UInt8)) (bs : List (List AV)) (hd : l.drop i = post) (ha : acc.length = i) (hall : acc ++ post.map mText = l.map mText) (T : Env)
    (hT : Has T [(1, .func 87 []), (5, rowS Heap.nil (acc.map AV.str)), (11, .sl .sh (l.map encM)), (12, .int .i64 l.length), (13, .int .i64 i)]),
    Goes cfg a86 k86_0 T (rowH ⟨bs, [], []⟩ (acc.map AV.str)) (IsRet (.str (Lib.join (l.map mText) [44]))) := by
  intro post
  induction post with
  | nil =>
    intro i acc bs hd ha hall T hT
    have hge := drop_ge hd
    have e : acc = l.map mText := by simpa using hall
    subst e
    exact goG 60 _  hT  (.no (show (decide ((↑i : Int) < (↑l.length : Int))) = false from decide_eq_false (show ¬ ((↑i : Int) < (↑l.length : Int)) from (by simp; omega))) <| .callG ([rowS Heap.nil (List.map AV.str (List.map mText l)), AV.str [(44 : UInt8)]]) (AV.str (Lib.join (List.map mText l) [(44 : UInt8)])) (show Gives cfg (99 : FuncId) [AV.sl SK.sh (List.map AV.str (List.map mText l)), AV.str [(44 : UInt8)]] (AV.str (Lib.join (List.map mText l) [(44 : UInt8)])) from join_any _ (by simp; omega) (by omega)) Shuts.p ⟨rfl, rfl⟩ <| .fin ((ARes.ret (AV.str (Lib.join (List.map mText l) [(44 : UInt8)])), rowH (Heap.mk bs [] []) (List.map AV.str (List.map mText l)))) rfl) (by kernel_rfl)
  | cons x post ih =>
    intro i acc bs hd ha hall T hT
    have hlt := drop_lt hd
    have hnx := drop_next hd
    obtain ⟨hk, hv⟩ := hf x (drop_mem hd)
    have hall2 : (acc ++ [mText x]) ++ post.map mText = l.map mText := by rw [← hall]; simp
    exact goG 60 _  hT  (.yes (show (decide ((↑i : Int) < (↑l.length : Int))) = true from decide_eq_true (show (↑i : Int) < (↑l.length : Int) from (by simp; omega))) <| .idx (show idxA (3 : Nat) (AV.sl SK.sh (List.map encM l)) (AV.int IntKind.i64 (↑i : Int)) = some (AV.ref (encM x).cells) from idx_row hd (by rfl)) <| .load (row_load (ys := List.map AV.str acc) (show loadA true (3 : Nat) (Heap.mk bs [] []) (AV.ref [AV.int IntKind.i64 x.op, AV.str x.key, AV.str x.val]) = some (AV.agg [AV.int IntKind.i64 x.op, AV.str x.key, AV.str x.val]) from rfl)) <| .boxR (AV.agg [AV.int IntKind.i64 (0 : Int), AV.str [], AV.str []]) (Heap.mk bs [] []) (List.map AV.str acc) rfl <| .store (row_store (ys := List.map AV.str acc) (show storeA (3 : Nat) (Heap.mk (bs ++ [[AV.int IntKind.i64 (0 : Int), AV.str [], AV.str []]]) [] []) (AV.ptr (Heap.mk bs [] []).boxes.length (0 : Nat)) (AV.agg [AV.int IntKind.i64 x.op, AV.str x.key, AV.str x.val]) = some (Heap.mk (bs ++ [[AV.int IntKind.i64 x.op, AV.str x.key, AV.str x.val]]) [] []) from store_box2 (cs := [AV.int IntKind.i64 (0 : Int), AV.str [], AV.str []]) (cs' := [AV.int IntKind.i64 x.op, AV.str x.key, AV.str x.val]) (by simp [List.set_append]) rfl (by simp [List.set_append]))) <| .load (row_load (ys := List.map AV.str acc) (show loadA true (3 : Nat) (Heap.mk (bs ++ [[AV.int IntKind.i64 x.op, AV.str x.key, AV.str x.val]]) [] []) (AV.ptr (Heap.mk bs [] []).boxes.length (0 : Nat)) = some (AV.agg [AV.int IntKind.i64 x.op, AV.str x.key, AV.str x.val]) from load_box (cs := [AV.int IntKind.i64 x.op, AV.str x.key, AV.str x.val]) (by simp [List.set_append]) rfl)) <| .callG ([AV.agg [AV.int IntKind.i64 x.op, AV.str x.key, AV.str x.val]]) (AV.str (mText x)) (show Gives cfg (87 : FuncId) [encM x] (AV.str (mText x)) from mText_one _ hk hv) ⟨rfl, rfl⟩ ⟨rfl, rfl⟩ <| .append (show appendA (1 : Nat) (16 : Nat) (rowH (Heap.mk (bs ++ [[AV.int IntKind.i64 x.op, AV.str x.key, AV.str x.val]]) [] []) (List.map AV.str acc)) (rowS Heap.nil (List.map AV.str acc)) (AV.sl SK.full [AV.str (mText x)]) = some ((rowS Heap.nil (List.map AV.str (acc ++ [mText x])), rowH (Heap.mk (bs ++ [[AV.int IntKind.i64 x.op, AV.str x.key, AV.str x.val]]) [] []) (List.map AV.str (acc ++ [mText x])))) from row_append_B (by simp; omega) (by exact lenSt) (by rfl) (by rfl)) <| .bin (show binA BinOp.add (AV.int IntKind.i64 (↑i : Int)) (AV.int IntKind.i64 (1 : Int)) = some (AV.int IntKind.i64 (↑(i + (1 : Nat)) : Int)) from inc_i (by omega)) <| .cutQ k86_0 [(1, AV.func (87 : FuncId) []), (5, rowS Heap.nil (List.map AV.str (acc ++ [mText x]))), (11, AV.sl SK.sh (List.map encM l)), (12, AV.int IntKind.i64 (↑l.length : Int)), (13, AV.int IntKind.i64 (↑(i + (1 : Nat)) : Int))] (rowH (Heap.mk (bs ++ [[AV.int IntKind.i64 x.op, AV.str x.key, AV.str x.val]]) [] []) (List.map AV.str (acc ++ [mText x]))) (fun T hT => (ih (i + (1 : Nat)) (acc ++ [mText x]) (bs ++ [[AV.int IntKind.i64 x.op, AV.str x.key, AV.str x.val]]) hnx (by simp; omega) hall2 T hT))) (by kernel_rfl)
theorem mText_any (l : List Term) (hf : fewM l = true) : Gives cfg 53 [.sl .sh (l.map encM)] (.str (textOf mText l)) := by
  have hn := fewM_len hf
  have hf2 : ∀ x ∈ l, x.key.length ≤ 50 ∧ x.val.length ≤ 50 := by
    simp only [fewM, few, Bool.and_eq_true, List.all_eq_true, decide_eq_true_eq] at hf
    exact hf.2
  have hj : (Lib.join (l.map mText) [44]).length ≤ 3000 := join_len _ (by
    intro s hs
    obtain ⟨x, hx, rfl⟩ := List.mem_map.1 hs
    exact mText_len x (hf2 x hx).1 (hf2 x hx).2) (by simpa using hn)
  have hjoin : Gives cfg 86 [.sl .sh (l.map encM), .func 87 []] (.str (textOf mText l)) := by
    refine Gives.run (l86 _ _) ?_
    have h := mText_loop l hn hf2 hj l 0 [] [] rfl rfl rfl
    by_cases hl : l = []
    · subst hl
      exact goG 60 []  trivial  (.len (show lenA false (AV.sl SK.sh []) = some (AV.int IntKind.i64 (↑[].length : Int)) from len_sl _ _) <| .tt <| .fin ((ARes.ret (AV.str [(45 : UInt8)]), Heap.mk [] [] [])) rfl) (by kernel_rfl)
    · have hp : 0 < l.length := List.length_pos_iff.2 hl
      have e : textOf mText l = Lib.join (l.map mText) [44] := by simp [textOf, hl]
      rw [e]
      exact goG 60 []  trivial  (.len (show lenA false (AV.sl SK.sh (List.map encM l)) = some (AV.int IntKind.i64 (↑l.length : Int)) from len_map _) <| .no (show ((↑l.length : Int) == (0 : Int)) = false from beq_eq_false_iff_ne.2 (show ¬ ((↑l.length : Int) = (0 : Int)) from (by omega))) <| .len (show lenA false (AV.sl SK.sh (List.map encM l)) = some (AV.int IntKind.i64 (↑l.length : Int)) from len_map _) <| .cutQ k86_0 [(1, AV.func (87 : FuncId) []), (5, AV.sl SK.full []), (11, AV.sl SK.sh (List.map encM l)), (12, AV.int IntKind.i64 (↑l.length : Int)), (13, AV.int IntKind.i64 (0 : Int))] (Heap.mk [] [] []) (fun T hT => (h T hT))) (by kernel_rfl)
  refine Gives.run (l53 _ _) ?_
  exact goG 60 []  trivial  (.callG ([AV.sl SK.sh (List.map encM l), AV.func (87 : FuncId) []]) (AV.str (textOf mText l)) (show Gives cfg (86 : FuncId) [AV.sl SK.sh (List.map encM l), AV.func (87 : FuncId) []] (AV.str (textOf mText l)) from hjoin) ⟨rfl, rfl⟩ ⟨rfl, rfl⟩ <| .fin ((ARes.ret (AV.str (textOf mText l)), Heap.mk [] [] [])) rfl) (by kernel_rfl)
end Go.Aa.T

set_option linter.unusedVariables false
set_option linter.unusedSimpArgs false
set_option maxRecDepth 100000
namespace Go.Aa.T
open Go.Aa Go.Proofs

theorem ib_none {c : UInt8} : ∀ {a : List UInt8}, c ∉ a → Lib.indexByte a c = -1
  | [], _ => rfl
  | b :: a, h => by
    simp only [List.mem_cons, not_or] at h
    have hb : (b == c) = false := by rw [beq_eq_false_iff_ne]; exact fun e => h.1 e.symm
    unfold Lib.indexByte
    rw [ib_none h.2, hb]
    rfl
theorem ib_at {c : UInt8} {b : List UInt8} : ∀ {a : List UInt8}, c ∉ a → Lib.indexByte (a ++ c :: b) c = (a.length : Int)
  | [], _ => by simp [Lib.indexByte]
  | x :: a, h => by
    simp only [List.mem_cons, not_or] at h
    have hb : (x == c) = false := by rw [beq_eq_false_iff_ne]; exact fun e => h.1 e.symm
    rw [List.cons_append, Lib.indexByte, ib_at h.2, hb]
    have : ((a.length : Int) == -1) = false := by rw [beq_eq_false_iff_ne]; omega
    simp [this]
theorem index1 (f : FuncId) (s : List UInt8) (c : UInt8) (ht : cfg.tryF f = false) (hx : cfg.ext f = some indexE) : Gives cfg f [.str s, .str [c]] (.int .i64 (Lib.indexByte s c)) := by
  refine Gives.of (H' := Heap.nil) ?_
  rw [lim_ext ht hx]; rfl
theorem count1 (s : List UInt8) (c : UInt8) : Gives cfg 112 [.str s, .str [c]] (.int .i64 (Lib.countByte s c : Nat)) := by
  refine Gives.of (H' := Heap.nil) ?_
  rw [lim_ext (g := countE) rfl rfl]; rfl
theorem cut_hit (a b : List UInt8) (c : UInt8) (h : c ∉ a) (hl : a.length + b.length ≤ 1000) : Gives cfg 74 [.str (a ++ c :: b), .str [c]] (.tuple [.str a, .str b, .bool true]) := by
  have hi : Gives cfg 125 [.str (a ++ c :: b), .str [c]] (.int .i64 (a.length : Nat)) := by
    have := index1 125 (a ++ c :: b) c rfl rfl
    rwa [ib_at h] at this
  have e1 : (a ++ c :: b).take a.length = a := by simp
  have e2 : (a ++ c :: b).drop (a.length + 1) = b := by rw [List.drop_append]; simp
  have hc : Gives cfg 104 [.str (a ++ c :: b), .str [c]] (.tuple [.str a, .str b, .bool true]) := by
    refine Gives.run (l104 _ _) ?_
    exact goG 60 []  trivial  (.callG ([AV.str (a ++ c :: b), AV.str [c]]) (AV.int IntKind.i64 (↑a.length : Int)) (show Gives cfg (125 : FuncId) [AV.str (a ++ c :: b), AV.str [c]] (AV.int IntKind.i64 (↑a.length : Int)) from hi) ⟨rfl, rfl⟩ ⟨rfl, rfl⟩ <| .tt <| .slice (show sliceA (0 : Nat) (AV.str (a ++ c :: b)) none (some (AV.int IntKind.i64 (↑a.length : Int))) none = some (AV.str (List.take a.length (a ++ c :: b))) from sstr_to (by simp)) <| .len (show lenA true (AV.str [c]) = some (AV.int IntKind.i64 (↑[c].length : Int)) from len_str _) <| .bin (show binA BinOp.add (AV.int IntKind.i64 (↑a.length : Int)) (AV.int IntKind.i64 (↑[c].length : Int)) = some (AV.int IntKind.i64 (↑(a.length + (1 : Nat)) : Int)) from inc_i (by omega)) <| .slice (show sliceA (0 : Nat) (AV.str (a ++ c :: b)) (some (AV.int IntKind.i64 (↑(a.length + (1 : Nat)) : Int))) none none = some (AV.str (List.drop (a.length + (1 : Nat)) (a ++ c :: b))) from sstr_from (by simp)) <| .fin ((ARes.ret (AV.tuple [AV.str (List.take a.length (a ++ c :: b)), AV.str (List.drop (a.length + (1 : Nat)) (a ++ c :: b)), AV.bool true]), Heap.mk [] [] [])) (by simp only [IsRet, e1, e2])) (by kernel_rfl)
  refine Gives.run (l74 _ _) ?_
  exact goG 60 []  trivial  (.callG ([AV.str (a ++ c :: b), AV.str [c]]) (AV.tuple [AV.str a, AV.str b, AV.bool true]) (show Gives cfg (104 : FuncId) [AV.str (a ++ c :: b), AV.str [c]] (AV.tuple [AV.str a, AV.str b, AV.bool true]) from hc) ⟨rfl, rfl⟩ ⟨rfl, rfl⟩ <| .fin ((ARes.ret (AV.tuple [AV.str a, AV.str b, AV.bool true]), Heap.mk [] [] [])) rfl) (by kernel_rfl)
theorem cut_miss (a : List UInt8) (c : UInt8) (h : c ∉ a) : Gives cfg 74 [.str a, .str [c]] (.tuple [.str a, .str [], .bool false]) := by
  have hi : Gives cfg 125 [.str a, .str [c]] (.int .i64 (-1)) := by
    have := index1 125 a c rfl rfl
    rwa [ib_none h] at this
  have hc : Gives cfg 104 [.str a, .str [c]] (.tuple [.str a, .str [], .bool false]) := by
    refine Gives.run (l104 _ _) ?_
    exact goG 60 []  trivial  (.callG ([AV.str a, AV.str [c]]) (AV.int IntKind.i64 (-1 : Int)) (show Gives cfg (125 : FuncId) [AV.str a, AV.str [c]] (AV.int IntKind.i64 (-1 : Int)) from hi) ⟨rfl, rfl⟩ ⟨rfl, rfl⟩ <| .ff <| .fin ((ARes.ret (AV.tuple [AV.str a, AV.str [], AV.bool false]), Heap.mk [] [] [])) rfl) (by kernel_rfl)
  refine Gives.run (l74 _ _) ?_
  exact goG 60 []  trivial  (.callG ([AV.str a, AV.str [c]]) (AV.tuple [AV.str a, AV.str [], AV.bool false]) (show Gives cfg (104 : FuncId) [AV.str a, AV.str [c]] (AV.tuple [AV.str a, AV.str [], AV.bool false]) from hc) ⟨rfl, rfl⟩ ⟨rfl, rfl⟩ <| .fin ((ARes.ret (AV.tuple [AV.str a, AV.str [], AV.bool false]), Heap.mk [] [] [])) rfl) (by kernel_rfl)
theorem contains_no (a : List UInt8) (c : UInt8) (h : c ∉ a) : Gives cfg 75 [.str a, .str [c]] (.bool false) := by
  have hi : Gives cfg 105 [.str a, .str [c]] (.int .i64 (-1)) := by
    have := index1 105 a c rfl rfl
    rwa [ib_none h] at this
  refine Gives.run (l75 _ _) ?_
  exact goG 60 []  trivial  (.callG ([AV.str a, AV.str [c]]) (AV.int IntKind.i64 (-1 : Int)) (show Gives cfg (105 : FuncId) [AV.str a, AV.str [c]] (AV.int IntKind.i64 (-1 : Int)) from hi) ⟨rfl, rfl⟩ ⟨rfl, rfl⟩ <| .fin ((ARes.ret (AV.bool (decide ((0 : Int) ≤ (-1 : Int)))), Heap.mk [] [] [])) rfl) (by kernel_rfl)
theorem prefix_hit (a : List UInt8) (c : UInt8) (hl : a.length ≤ 1000) : Gives cfg 93 [.str (c :: a), .str [c]] (.tuple [.str a, .bool true]) := by
  have e1 : (c :: a).take 1 = [c] := rfl
  have e2 : (c :: a).drop 1 = a := rfl
  have s1 : sliceA 0 (.str (c :: a)) none (some (.int .i64 1)) none = some (.str [c]) := sstr_to (k := 1) (by simp)
  have s2 : sliceA 0 (.str (c :: a)) (some (.int .i64 1)) none none = some (.str a) := sstr_from (k := 1) (by simp)
  have h1 : Gives cfg 127 [.str (c :: a), .str [c]] (.bool true) := by
    refine Gives.run (l127 _ _) ?_
    exact goG 60 []  trivial  (.len (show lenA true (AV.str (c :: a)) = some (AV.int IntKind.i64 (↑(c :: a).length : Int)) from len_str _) <| .len (show lenA true (AV.str [c]) = some (AV.int IntKind.i64 (↑[c].length : Int)) from len_str _) <| .yes (show (decide ((↑[c].length : Int) ≤ (↑(c :: a).length : Int))) = true from decide_eq_true (show (↑[c].length : Int) ≤ (↑(c :: a).length : Int) from (by simp; omega))) <| .len (show lenA true (AV.str [c]) = some (AV.int IntKind.i64 (↑[c].length : Int)) from len_str _) <| .slice (show sliceA (0 : Nat) (AV.str (c :: a)) none (some (AV.int IntKind.i64 (↑[c].length : Int))) none = some (AV.str [c]) from s1) <| .fin ((ARes.ret (AV.bool ([c] == [c])), Heap.mk [] [] [])) (by simp [IsRet])) (by kernel_rfl)
  have h2 : Gives cfg 111 [.str (c :: a), .str [c]] (.tuple [.str a, .bool true]) := by
    refine Gives.run (l111 _ _) ?_
    exact goG 60 []  trivial  (.callG ([AV.str (c :: a), AV.str [c]]) (AV.bool true) (show Gives cfg (127 : FuncId) [AV.str (c :: a), AV.str [c]] (AV.bool true) from h1) ⟨rfl, rfl⟩ ⟨rfl, rfl⟩ <| .ff <| .len (show lenA true (AV.str [c]) = some (AV.int IntKind.i64 (↑[c].length : Int)) from len_str _) <| .slice (show sliceA (0 : Nat) (AV.str (c :: a)) (some (AV.int IntKind.i64 (↑[c].length : Int))) none none = some (AV.str a) from s2) <| .fin ((ARes.ret (AV.tuple [AV.str a, AV.bool true]), Heap.mk [] [] [])) rfl) (by kernel_rfl)
  refine Gives.run (l93 _ _) ?_
  exact goG 60 []  trivial  (.callG ([AV.str (c :: a), AV.str [c]]) (AV.tuple [AV.str a, AV.bool true]) (show Gives cfg (111 : FuncId) [AV.str (c :: a), AV.str [c]] (AV.tuple [AV.str a, AV.bool true]) from h2) ⟨rfl, rfl⟩ ⟨rfl, rfl⟩ <| .fin ((ARes.ret (AV.tuple [AV.str a, AV.bool true]), Heap.mk [] [] [])) rfl) (by kernel_rfl)
theorem prefix_miss (a : List UInt8) (c : UInt8) (h : a.head? ≠ some c) (hl : a.length ≤ 1000) : Gives cfg 93 [.str a, .str [c]] (.tuple [.str a, .bool false]) := by
  have h1 : Gives cfg 127 [.str a, .str [c]] (.bool false) := by
    refine Gives.run (l127 _ _) ?_
    by_cases hn : a = []
    · subst hn
      exact goG 60 []  trivial  (.len (show lenA true (AV.str []) = some (AV.int IntKind.i64 (↑[].length : Int)) from len_str _) <| .len (show lenA true (AV.str [c]) = some (AV.int IntKind.i64 (↑[c].length : Int)) from len_str _) <| .ff <| .fin ((ARes.ret (AV.bool false), Heap.mk [] [] [])) rfl) (by kernel_rfl)
    · obtain ⟨b, r, e⟩ := List.exists_cons_of_ne_nil hn
      have hp : 0 < a.length := List.length_pos_iff.2 hn
      have s1 : sliceA 0 (.str a) none (some (.int .i64 1)) none = some (.str [b]) := by
        rw [show (some (AV.int .i64 1)) = some (.int .i64 ((1 : Nat) : Int)) from rfl, sstr_to (k := 1) (by omega), e]; rfl
      have hne : ¬ b = c := fun e2 => h (by rw [e, e2]; rfl)
      exact goG 60 []  trivial  (.len (show lenA true (AV.str a) = some (AV.int IntKind.i64 (↑a.length : Int)) from len_str _) <| .len (show lenA true (AV.str [c]) = some (AV.int IntKind.i64 (↑[c].length : Int)) from len_str _) <| .split ((↑[c].length : Int) ≤ (↑a.length : Int)) (fun g1 => .yes (show (decide ((↑[c].length : Int) ≤ (↑a.length : Int))) = true from decide_eq_true (show (↑[c].length : Int) ≤ (↑a.length : Int) from g1)) <| .len (show lenA true (AV.str [c]) = some (AV.int IntKind.i64 (↑[c].length : Int)) from len_str _) <| .slice (show sliceA (0 : Nat) (AV.str a) none (some (AV.int IntKind.i64 (↑[c].length : Int))) none = some (AV.str [b]) from s1) <| .fin ((ARes.ret (AV.bool ([b] == [c])), Heap.mk [] [] [])) (by simp [IsRet, hne])) (fun g1 => .no (show (decide ((↑[c].length : Int) ≤ (↑a.length : Int))) = false from decide_eq_false (show ¬ ((↑[c].length : Int) ≤ (↑a.length : Int)) from g1)) <| .fin ((ARes.ret (AV.bool false), Heap.mk [] [] [])) rfl)) (by kernel_rfl)
  have h2 : Gives cfg 111 [.str a, .str [c]] (.tuple [.str a, .bool false]) := by
    refine Gives.run (l111 _ _) ?_
    exact goG 60 []  trivial  (.callG ([AV.str a, AV.str [c]]) (AV.bool false) (show Gives cfg (127 : FuncId) [AV.str a, AV.str [c]] (AV.bool false) from h1) ⟨rfl, rfl⟩ ⟨rfl, rfl⟩ <| .tt <| .fin ((ARes.ret (AV.tuple [AV.str a, AV.bool false]), Heap.mk [] [] [])) rfl) (by kernel_rfl)
  refine Gives.run (l93 _ _) ?_
  exact goG 60 []  trivial  (.callG ([AV.str a, AV.str [c]]) (AV.tuple [AV.str a, AV.bool false]) (show Gives cfg (111 : FuncId) [AV.str a, AV.str [c]] (AV.tuple [AV.str a, AV.bool false]) from h2) ⟨rfl, rfl⟩ ⟨rfl, rfl⟩ <| .fin ((ARes.ret (AV.tuple [AV.str a, AV.bool false]), Heap.mk [] [] [])) rfl) (by kernel_rfl)

theorem name_len {s : List UInt8} (h : isName s = true) : s.length ≤ 12 := by
  simp only [isName, Bool.and_eq_true, decide_eq_true_eq] at h
  exact h.1.2

end Go.Aa.T

set_option linter.unusedVariables false
set_option linter.unusedSimpArgs false
set_option maxRecDepth 100000
namespace Go.Aa.T
open Go.Aa Go.Proofs
def goodM (x : Term) : Bool := decide (1 ≤ x.op ∧ x.op ≤ 4) && (isName x.key && valOk x)
theorem count_no {c : UInt8} {s : List UInt8} (h : c ∉ s) : Lib.countByte s c = 0 := List.count_eq_zero.2 h
theorem signs_any (s : List UInt8) (n : Nat) (h : Lib.countByte s 58 + Lib.countByte s 33 = n) (hl : s.length ≤ 1000) : Gives cfg 94 [.str s] (.int .i64 (n : Nat)) := by
  have h1 : Lib.countByte s 58 ≤ s.length := List.count_le_length
  have h2 : Lib.countByte s 33 ≤ s.length := List.count_le_length
  refine Gives.run (l94 _ _) ?_
  exact goG 60 []  trivial  (.callG ([AV.str s, AV.str [(58 : UInt8)]]) (AV.int IntKind.i64 (↑(Lib.countByte s (58 : UInt8)) : Int)) (show Gives cfg (112 : FuncId) [AV.str s, AV.str [(58 : UInt8)]] (AV.int IntKind.i64 (↑(Lib.countByte s (58 : UInt8)) : Int)) from count1 _ _) ⟨rfl, rfl⟩ ⟨rfl, rfl⟩ <| .callG ([AV.str s, AV.str [(33 : UInt8)]]) (AV.int IntKind.i64 (↑(Lib.countByte s (33 : UInt8)) : Int)) (show Gives cfg (112 : FuncId) [AV.str s, AV.str [(33 : UInt8)]] (AV.int IntKind.i64 (↑(Lib.countByte s (33 : UInt8)) : Int)) from count1 _ _) ⟨rfl, rfl⟩ ⟨rfl, rfl⟩ <| .bin (show binA BinOp.add (AV.int IntKind.i64 (↑(Lib.countByte s (58 : UInt8)) : Int)) (AV.int IntKind.i64 (↑(Lib.countByte s (33 : UInt8)) : Int)) = some (AV.int IntKind.i64 ((↑(Lib.countByte s (58 : UInt8)) : Int) + (↑(Lib.countByte s (33 : UInt8)) : Int))) from addI (by omega) (by omega)) <| .fin ((ARes.ret (AV.int IntKind.i64 ((↑(Lib.countByte s (58 : UInt8)) : Int) + (↑(Lib.countByte s (33 : UInt8)) : Int))), Heap.mk [] [] [])) (by simp [IsRet]; omega)) (by kernel_rfl)

end Go.Aa.T

set_option linter.unusedVariables false
set_option linter.unusedSimpArgs false
set_option maxRecDepth 100000
namespace Go.Aa.T
open Go.Aa Go.Proofs
def cutAt (c : UInt8) : List UInt8 → Option (List UInt8 × List UInt8)
  | [] => none
  | b :: r => if b = c then some ([], r) else (cutAt c r).map fun p => (b :: p.1, p.2)
theorem cutAt_none {c : UInt8} : ∀ {w : List UInt8}, cutAt c w = none → c ∉ w
  | [], _ => by simp
  | b :: r, h => by
    unfold cutAt at h
    split at h
    · cases h
    · rename_i hb
      have := cutAt_none (w := r) (by simpa using h)
      simp only [List.mem_cons, not_or]
      exact ⟨fun e => hb e.symm, this⟩
theorem cutAt_some {c : UInt8} : ∀ {w a b : List UInt8}, cutAt c w = some (a, b) → w = a ++ c :: b ∧ c ∉ a
  | [], _, _, h => by cases h
  | x :: r, a, b, h => by
    unfold cutAt at h
    split at h
    · rename_i hx
      simp only [Option.some.injEq, Prod.mk.injEq] at h
      obtain ⟨rfl, rfl⟩ := h
      subst hx
      simp
    · rename_i hx
      simp only [Option.map_eq_some_iff, Prod.mk.injEq, Prod.exists] at h
      obtain ⟨a', b', h1, rfl, rfl⟩ := h
      obtain ⟨e, hn⟩ := cutAt_some h1
      refine ⟨by rw [e]; rfl, ?_⟩
      simp only [List.mem_cons, not_or]
      exact ⟨fun e => hx e.symm, hn⟩
def parts (c : UInt8) : List UInt8 → List (List UInt8)
  | [] => [[]]
  | b :: r => if b = c then [] :: parts c r else match parts c r with
    | [] => [[b]]
    | x :: xs => (b :: x) :: xs
theorem parts_none {c : UInt8} : ∀ {w : List UInt8}, c ∉ w → parts c w = [w]
  | [], _ => rfl
  | b :: r, h => by
    simp only [List.mem_cons, not_or] at h
    have hb : ¬ b = c := fun e => h.1 e.symm
    simp only [parts, if_neg hb, parts_none h.2]
theorem parts_some {c : UInt8} {b : List UInt8} : ∀ {a : List UInt8}, c ∉ a → parts c (a ++ c :: b) = a :: parts c b
  | [], _ => by simp [parts]
  | x :: a, h => by
    simp only [List.mem_cons, not_or] at h
    have hb : ¬ x = c := fun e => h.1 e.symm
    simp only [List.cons_append, parts, if_neg hb, parts_some h.2]
def foldE {α : Type} (f : α → List UInt8 → Option α) (a : α) : List (List UInt8) → Option α
  | [] => some a
  | p :: ps => match f a p with
    | some a' => foldE f a' ps
    | none => none
section
variable {α : Type} (o0 o1 o2 o3 : α → List AV) (tk : α → List Nat) (rc : LRec) (v : AV) (I : α → Nat → Prop)
def hS (a : α) (rest : List UInt8) : Heap := ⟨[o0 a, o1 a, o2 a, o3 a, [.str rest], [.str [44]], [.int .i64 0]], tk a, [rc]⟩
def hB (a : α) (rest : List UInt8) : Heap := ⟨[o0 a, o1 a, o2 a, o3 a, [.str rest], [.str [44]], [.int .i64 0]], tk a, [{ rc with busy := true }]⟩
def SeqR (f : α → List UInt8 → Option α) (a : α) (rest : List UInt8) (r : ARes × Heap) : Prop := match foldE f a (parts 44 rest) with
  | some a' => ∃ last, r = (.ret (.tuple []), hS o0 o1 o2 o3 tk rc a' last)
  | none => ∃ a' last, r = (.pan v, hB o0 o1 o2 o3 tk rc a' last)
theorem Goes.imp {A : AFunc} {k : List AIt} {T : Env} {H : Heap} {R R' : ARes × Heap → Prop} (h : Goes cfg A k T H R) (i : ∀ r, R r → R' r) : Goes cfg A k T H R' := by
  obtain ⟨r, h1, h2⟩ := h
  exact ⟨r, h1, i r h2⟩
theorem seq_run (f : α → List UInt8 → Option α) (hI : ∀ a x a' m, I a (x.length + 1 + m) → f a x = some a' → I a' m)
    (hy : ∀ a p rest a', p.length ≤ 1000 → I a rest.length → f a p = some a' → Does cfg (.call (.c (.yield 0)) [.c (.str p)]) (hS o0 o1 o2 o3 tk rc a rest) (.bool true) (hS o0 o1 o2 o3 tk rc a' rest))
    (hn : ∀ a p rest, p.length ≤ 1000 → I a rest.length → f a p = none → DoesP cfg (.call (.c (.yield 0)) [.c (.str p)]) (hS o0 o1 o2 o3 tk rc a rest) v (hB o0 o1 o2 o3 tk rc a rest)) :
    ∀ (n : Nat) (rest : List UInt8) (hr : rest.length ≤ n) (hl : rest.length ≤ 1000) (a : α) (ha : I a rest.length) (T : Env) (hT : Has T [(0, .yield 0), (1, .ptr 5 0), (2, .ptr 4 0), (3, .ptr 6 0)]),
      Goes cfg a136 k136_1 T (hS o0 o1 o2 o3 tk rc a rest) (SeqR o0 o1 o2 o3 tk rc v f a rest) := by
  intro n
  induction n with
  | zero =>
    intro rest hr hl a ha T hT
    have e : rest = [] := List.length_eq_zero_iff.1 (by omega)
    subst e
    have hi : Gives cfg 105 [.str [], .str [44]] (.int .i64 (-1)) := index1 105 [] 44 rfl rfl
    cases hf : f a [] with
    | some a' =>
      have hd := hy a [] [] a' (by simp) ha hf
      have key : Goes cfg a136 k136_1 T (hS o0 o1 o2 o3 tk rc a []) (fun r => r = (.ret (.tuple []), hS o0 o1 o2 o3 tk rc a' [])) := by
        exact goG 60 _  hT  (.callG ([AV.str [], AV.str [(44 : UInt8)]]) (AV.int IntKind.i64 (-1 : Int)) (show Gives cfg (105 : FuncId) [AV.str [], AV.str [(44 : UInt8)]] (AV.int IntKind.i64 (-1 : Int)) from hi) ⟨rfl, rfl⟩ ⟨rfl, rfl⟩ <| .tt <| .effY (show Does cfg (AOp.call (Opd.c (AV.yield (0 : Nat))) [Opd.c (AV.str [])]) (hS o0 o1 o2 o3 tk rc a []) (AV.bool true) (hS o0 o1 o2 o3 tk rc a' []) from hd) <| .fin ((ARes.ret (AV.tuple []), { boxes := [o0 a', o1 a', o2 a', o3 a', [AV.str []], [AV.str [(44 : UInt8)]], [AV.int IntKind.i64 (0 : Int)]], toks := tk a', loops := [rc] : Heap })) rfl) (by kernel_rfl)
      refine Goes.imp key ?_
      rintro r rfl
      simp only [SeqR, parts, foldE, hf]
      exact ⟨_, rfl⟩
    | none =>
      have hd := hn a [] [] (by simp) ha hf
      have key : Goes cfg a136 k136_1 T (hS o0 o1 o2 o3 tk rc a []) (fun r => r = (.pan v, hB o0 o1 o2 o3 tk rc a [])) := by
        exact goG 60 _  hT  (.callG ([AV.str [], AV.str [(44 : UInt8)]]) (AV.int IntKind.i64 (-1 : Int)) (show Gives cfg (105 : FuncId) [AV.str [], AV.str [(44 : UInt8)]] (AV.int IntKind.i64 (-1 : Int)) from hi) ⟨rfl, rfl⟩ ⟨rfl, rfl⟩ <| .tt <| .panY (show DoesP cfg (AOp.call (Opd.c (AV.yield (0 : Nat))) [Opd.c (AV.str [])]) (hS o0 o1 o2 o3 tk rc a []) v (hB o0 o1 o2 o3 tk rc a []) from hd) rfl) (by kernel_rfl)
      refine Goes.imp key ?_
      rintro r rfl
      simp only [SeqR, parts, foldE, hf]
      exact ⟨_, _, rfl⟩
  | succ n ih =>
    intro rest hr hl a ha T hT
    cases hc : cutAt 44 rest with
    | none =>
      have hm := cutAt_none hc
      have hi : Gives cfg 105 [.str rest, .str [44]] (.int .i64 (-1)) := by
        have := index1 105 rest 44 rfl rfl
        rwa [ib_none hm] at this
      have ep := parts_none hm
      cases hf : f a rest with
      | some a' =>
        have hd := hy a rest rest a' hl ha hf
        have key : Goes cfg a136 k136_1 T (hS o0 o1 o2 o3 tk rc a rest) (fun r => r = (.ret (.tuple []), hS o0 o1 o2 o3 tk rc a' rest)) := by
          exact goG 60 _  hT  (.callG ([AV.str rest, AV.str [(44 : UInt8)]]) (AV.int IntKind.i64 (-1 : Int)) (show Gives cfg (105 : FuncId) [AV.str rest, AV.str [(44 : UInt8)]] (AV.int IntKind.i64 (-1 : Int)) from hi) ⟨rfl, rfl⟩ ⟨rfl, rfl⟩ <| .tt <| .effY (show Does cfg (AOp.call (Opd.c (AV.yield (0 : Nat))) [Opd.c (AV.str rest)]) (hS o0 o1 o2 o3 tk rc a rest) (AV.bool true) (hS o0 o1 o2 o3 tk rc a' rest) from hd) <| .fin ((ARes.ret (AV.tuple []), { boxes := [o0 a', o1 a', o2 a', o3 a', [AV.str rest], [AV.str [(44 : UInt8)]], [AV.int IntKind.i64 (0 : Int)]], toks := tk a', loops := [rc] : Heap })) rfl) (by kernel_rfl)
        refine Goes.imp key ?_
        rintro r rfl
        simp only [SeqR, ep, foldE, hf]
        exact ⟨_, rfl⟩
      | none =>
        have hd := hn a rest rest hl ha hf
        have key : Goes cfg a136 k136_1 T (hS o0 o1 o2 o3 tk rc a rest) (fun r => r = (.pan v, hB o0 o1 o2 o3 tk rc a rest)) := by
          exact goG 60 _  hT  (.callG ([AV.str rest, AV.str [(44 : UInt8)]]) (AV.int IntKind.i64 (-1 : Int)) (show Gives cfg (105 : FuncId) [AV.str rest, AV.str [(44 : UInt8)]] (AV.int IntKind.i64 (-1 : Int)) from hi) ⟨rfl, rfl⟩ ⟨rfl, rfl⟩ <| .tt <| .panY (show DoesP cfg (AOp.call (Opd.c (AV.yield (0 : Nat))) [Opd.c (AV.str rest)]) (hS o0 o1 o2 o3 tk rc a rest) v (hB o0 o1 o2 o3 tk rc a rest) from hd) rfl) (by kernel_rfl)
        refine Goes.imp key ?_
        rintro r rfl
        simp only [SeqR, ep, foldE, hf]
        exact ⟨_, _, rfl⟩
    | some p =>
      obtain ⟨x, y⟩ := p
      obtain ⟨rfl, hm⟩ := cutAt_some hc
      have hi : Gives cfg 105 [.str (x ++ 44 :: y), .str [44]] (.int .i64 (x.length : Nat)) := by
        have := index1 105 (x ++ 44 :: y) 44 rfl rfl
        rwa [ib_at hm] at this
      have ep : parts 44 (x ++ 44 :: y) = x :: parts 44 y := parts_some hm
      have hlx : x.length + y.length + 1 ≤ 1000 := by simpa [Nat.add_assoc] using hl
      have hry : y.length ≤ n := by
        have : x.length + (y.length + 1) ≤ n + 1 := by simpa using hr
        omega
      have h0 : binA .add (.int .i64 (x.length : Nat)) (.int .i64 0) = some (.int .i64 (x.length : Nat)) := by
        rw [addI (by omega) (by omega), Int.add_zero]
      have s1 : sliceA 0 (.str (x ++ 44 :: y)) none (some (.int .i64 (x.length : Nat))) none = some (.str x) := by
        rw [sstr_to (by simp)]; simp
      have s2 : sliceA 0 (.str (x ++ 44 :: y)) (some (.int .i64 ((x.length + 1 : Nat) : Int))) none none = some (.str y) := by
        rw [sstr_from (by simp), List.drop_append]; simp
      cases hf : f a x with
      | some a' =>
        have hd := hy a x (x ++ 44 :: y) a' (by omega) ha hf
        have e : SeqR o0 o1 o2 o3 tk rc v f a (x ++ 44 :: y) = SeqR o0 o1 o2 o3 tk rc v f a' y := by
          funext r
          simp only [SeqR, ep, foldE, hf]
        rw [e]
        have ha2 : I a' y.length := hI a x a' y.length (by simpa [Nat.add_assoc, Nat.add_comm 1] using ha) hf
        have ih2 := ih y hry (by omega) a' ha2
        exact goG 60 _  hT  (.callG ([AV.str (x ++ (44 : UInt8) :: y), AV.str [(44 : UInt8)]]) (AV.int IntKind.i64 (↑x.length : Int)) (show Gives cfg (105 : FuncId) [AV.str (x ++ (44 : UInt8) :: y), AV.str [(44 : UInt8)]] (AV.int IntKind.i64 (↑x.length : Int)) from hi) ⟨rfl, rfl⟩ ⟨rfl, rfl⟩ <| .ff <| .bin (show binA BinOp.add (AV.int IntKind.i64 (↑x.length : Int)) (AV.int IntKind.i64 (0 : Int)) = some (AV.int IntKind.i64 (↑x.length : Int)) from h0) <| .slice (show sliceA (0 : Nat) (AV.str (x ++ (44 : UInt8) :: y)) none (some (AV.int IntKind.i64 (↑x.length : Int))) none = some (AV.str x) from s1) <| .effY (show Does cfg (AOp.call (Opd.c (AV.yield (0 : Nat))) [Opd.c (AV.str x)]) (hS o0 o1 o2 o3 tk rc a (x ++ (44 : UInt8) :: y)) (AV.bool true) (hS o0 o1 o2 o3 tk rc a' (x ++ (44 : UInt8) :: y)) from hd) <| .ff <| .len (show lenA true (AV.str [(44 : UInt8)]) = some (AV.int IntKind.i64 (↑[(44 : UInt8)].length : Int)) from len_str _) <| .bin (show binA BinOp.add (AV.int IntKind.i64 (↑x.length : Int)) (AV.int IntKind.i64 (↑[(44 : UInt8)].length : Int)) = some (AV.int IntKind.i64 (↑(x.length + (1 : Nat)) : Int)) from inc_i (by omega)) <| .slice (show sliceA (0 : Nat) (AV.str (x ++ (44 : UInt8) :: y)) (some (AV.int IntKind.i64 (↑(x.length + (1 : Nat)) : Int))) none none = some (AV.str y) from s2) <| .cutQ k136_1 [(0, AV.yield (0 : Nat)), (1, AV.ptr (5 : Nat) (0 : Nat)), (2, AV.ptr (4 : Nat) (0 : Nat)), (3, AV.ptr (6 : Nat) (0 : Nat))] ({ boxes := [o0 a', o1 a', o2 a', o3 a', [AV.str y], [AV.str [(44 : UInt8)]], [AV.int IntKind.i64 (0 : Int)]], toks := tk a', loops := [rc] : Heap }) (fun T hT => (ih2 T hT))) (by kernel_rfl)
      | none =>
        have hd := hn a x (x ++ 44 :: y) (by omega) ha hf
        have key : Goes cfg a136 k136_1 T (hS o0 o1 o2 o3 tk rc a (x ++ 44 :: y)) (fun r => r = (.pan v, hB o0 o1 o2 o3 tk rc a (x ++ 44 :: y))) := by
          exact goG 60 _  hT  (.callG ([AV.str (x ++ (44 : UInt8) :: y), AV.str [(44 : UInt8)]]) (AV.int IntKind.i64 (↑x.length : Int)) (show Gives cfg (105 : FuncId) [AV.str (x ++ (44 : UInt8) :: y), AV.str [(44 : UInt8)]] (AV.int IntKind.i64 (↑x.length : Int)) from hi) ⟨rfl, rfl⟩ ⟨rfl, rfl⟩ <| .ff <| .bin (show binA BinOp.add (AV.int IntKind.i64 (↑x.length : Int)) (AV.int IntKind.i64 (0 : Int)) = some (AV.int IntKind.i64 (↑x.length : Int)) from h0) <| .slice (show sliceA (0 : Nat) (AV.str (x ++ (44 : UInt8) :: y)) none (some (AV.int IntKind.i64 (↑x.length : Int))) none = some (AV.str x) from s1) <| .panY (show DoesP cfg (AOp.call (Opd.c (AV.yield (0 : Nat))) [Opd.c (AV.str x)]) (hS o0 o1 o2 o3 tk rc a (x ++ (44 : UInt8) :: y)) v (hB o0 o1 o2 o3 tk rc a (x ++ (44 : UInt8) :: y)) from hd) rfl) (by kernel_rfl)
        refine Goes.imp key ?_
        rintro r rfl
        simp only [SeqR, ep, foldE, hf]
        exact ⟨_, _, rfl⟩
theorem seq_call (f : α → List UInt8 → Option α) (hI : ∀ a x a' m, I a (x.length + 1 + m) → f a x = some a' → I a' m)
    (hy : ∀ a p rest a', p.length ≤ 1000 → I a rest.length → f a p = some a' → Does cfg (.call (.c (.yield 0)) [.c (.str p)]) (hS o0 o1 o2 o3 tk rc a rest) (.bool true) (hS o0 o1 o2 o3 tk rc a' rest))
    (hn : ∀ a p rest, p.length ≤ 1000 → I a rest.length → f a p = none → DoesP cfg (.call (.c (.yield 0)) [.c (.str p)]) (hS o0 o1 o2 o3 tk rc a rest) v (hB o0 o1 o2 o3 tk rc a rest))
    (rest : List UInt8) (hl : rest.length ≤ 1000) (a : α) (ha : I a rest.length) : ∃ r, lim cfg (.fn 136) [.yield 0, .ptr 5 0, .ptr 4 0, .ptr 6 0] (hS o0 o1 o2 o3 tk rc a rest) = some r ∧ SeqR o0 o1 o2 o3 tk rc v f a rest r := by
  rw [l136]
  have h := seq_run o0 o1 o2 o3 tk rc v I f hI hy hn rest.length rest (Nat.le_refl _) hl a ha
  have key : Goes cfg a136 [.c c136] (initEnv [.yield 0, .ptr 5 0, .ptr 4 0, .ptr 6 0]) (hS o0 o1 o2 o3 tk rc a rest) (SeqR o0 o1 o2 o3 tk rc v f a rest) := by
    exact goG 60 []  trivial  (.len (show lenA true (AV.str [(44 : UInt8)]) = some (AV.int IntKind.i64 (↑[(44 : UInt8)].length : Int)) from len_str _) <| .ff <| .cutQ k136_1 [(0, AV.yield (0 : Nat)), (1, AV.ptr (5 : Nat) (0 : Nat)), (2, AV.ptr (4 : Nat) (0 : Nat)), (3, AV.ptr (6 : Nat) (0 : Nat))] ({ boxes := [o0 a, o1 a, o2 a, o3 a, [AV.str rest], [AV.str [(44 : UInt8)]], [AV.int IntKind.i64 (0 : Int)]], toks := tk a, loops := [rc] : Heap }) (fun T hT => (h T hT))) (by kernel_rfl)
  exact key
end
end Go.Aa.T
