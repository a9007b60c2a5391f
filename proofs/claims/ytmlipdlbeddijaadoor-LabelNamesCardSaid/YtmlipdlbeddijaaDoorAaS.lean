/-
  WHAT A LAW IS HANDED: plain data reads as abstract values; a law that answers true for all of its type returns true, and the data reads as it did.
-/
import Derived.Test.YtmlipdlbeddijaaDoorAaP
import Derived.ChangeShapes
import Derived.ChangeReads
import Derived.ChangeOld
import Derived.ProofKit
import Derived.Carry
import Derived.DataElems
set_option linter.unusedVariables false
set_option linter.unusedSimpArgs false
namespace Go.Aa
open Go.RowKit Go.ChangeShapes Go.WideShapes Go.ChangeAt

def fltOf (b : Nat) : AV := if (FloatKind.f64.format.read b).isNaN = true then .nan else .flt b
theorem fltOf_rep {G : Ghost} {w : World} (b : Nat) : Rep G w (.float .f64 b) (fltOf b) := by
  unfold fltOf
  split
  · rename_i h; exact .nan b h
  · exact .flt b

def tilesT (P : Program) : Nat → List Field → Nat → Bool
  | off, [], tot => off == tot
  | off, f :: fs, tot => (f.offset == off) && tilesT P (off + P.cellsOf f.type) fs tot
def isAgg (P : Program) (t : TypeId) : Bool := match P.underlying t with
  | some (.struct _) => true
  | _ => false
/-- Types of plain data. -/
def plainT (P : Program) : Nat → TypeId → Bool
  | 0, _ => false
  | n + 1, t =>
    match P.underlying t with
    | some .bool => true
    | some (.int _) => true
    | some (.float .f64) => true
    | some .string => true
    | some (.slice e) => decide (0 < P.cellsOf e) && (isAgg P e || P.cellsOf e == 1) && plainT P n e
    | some (.struct fs) => tilesT P 0 fs.toList (P.cellsOf t) && fs.toList.all fun f => plainT P n f.type
    | _ => false

def Tys (R : TypeId → List AV → Prop) : List Field → List AV → Prop
  | [], xs => xs = []
  | f :: fs, xs => ∃ a b, xs = a ++ b ∧ R f.type a ∧ Tys R fs b
/-- The abstract cells of a type. -/
def Ty (P : Program) : Nat → TypeId → List AV → Prop
  | 0, _, _ => False
  | n + 1, t, xs =>
    match P.underlying t with
    | some .bool => ∃ b, xs = [.bool b]
    | some (.int k) => ∃ m, xs = [.int k m] ∧ (Lit.int k m).wf = true
    | some (.float .f64) => ∃ b, xs = [fltOf b] ∧ (Lit.float .f64 b).wf = true
    | some .string => ∃ s, xs = [.str s] ∧ s.length ≤ 9223372036854775807
    | some (.slice e) => ∃ l : List AV, xs = [.sl .sh l] ∧ l.length ≤ 9223372036854775807 ∧ ∀ x ∈ l, if isAgg P e then ∃ cs, x = .agg cs ∧ Ty P n e cs else Ty P n e [x]
    | some (.struct fs) => Tys (Ty P n) fs.toList xs
    | _ => False

section
variable {H : Type} {enc : TypeId × Value → H} {P : Program} {w : World} {base : Nat} {held : Bool} {G : Ghost}

theorem mapM_each {α β : Type} {f : α → Option β} {l : List α} {r : List β} (h : l.mapM f = some r) : r.length = l.length ∧ ∀ i (h1 : i < l.length) (h2 : i < r.length), f l[i] = some r[i] := by
  refine ⟨mapM_some_length h, fun i h1 h2 => ?_⟩
  have := mapM_some_get h i l[i] (List.getElem?_eq_getElem h1)
  rw [this, List.getElem?_eq_getElem h2]

/-- Where all is read, it does not matter which rows' spare parts are asked for. -/
theorem trod_spare : ∀ (n k : Nat) (t : TypeId) (cs : List Value) (x : DataW H × List MemPlace) (sp : Nat → Bool), plainT P k t = true → DataW.trod enc P w base (fun _ => true) held n t cs = some x →
    (∀ p ∈ x.2, sp p.block = true) → DataW.trod enc P w base sp held n t cs = some x := by
  intro n
  induction n with
  | zero => intro k t cs x sp _ h; simp [DataW.trod] at h
  | succ n ih =>
    intro k t cs x sp hp h hs
    cases k with
    | zero => cases hp
    | succ k =>
      unfold plainT at hp
      unfold DataW.trod at h ⊢
      cases hu : P.underlying t with
      | none => rw [hu] at hp; cases hp
      | some d =>
        rw [hu] at hp h
        cases d with
        | bool =>
          cases cs with
          | nil => cases h
          | cons v r =>
            cases r with
            | cons v' r' => cases v <;> cases h
            | nil => cases v <;> first | exact h | cases h
        | int q =>
          cases cs with
          | nil => cases h
          | cons v r =>
            cases r with
            | cons v' r' => cases v <;> cases h
            | nil => cases v <;> first | exact h | cases h
        | float q =>
          cases cs with
          | nil => cases h
          | cons v r =>
            cases r with
            | cons v' r' => cases v <;> cases h
            | nil => cases v <;> first | exact h | cases h
        | string =>
          cases cs with
          | nil => cases h
          | cons v r =>
            cases r with
            | cons v' r' => cases v <;> cases h
            | nil => cases v <;> first | exact h | cases h
        | slice e =>
          simp only [Bool.and_eq_true, decide_eq_true_eq] at hp
          obtain ⟨⟨he, _⟩, hpe⟩ := hp
          cases cs with
          | nil => cases h
          | cons v r =>
            cases r with
            | cons v' r' => exact (by cases v <;> first | (cases h; done) | (rename_i oa len cap; cases oa <;> cases len <;> cases cap <;> cases h))
            | nil =>
              cases v with
              | slice oa len cap =>
                cases oa with
                | none => cases len <;> cases cap <;> first | exact h | cases h
                | some a =>
                  simp only at h ⊢
                  split at h
                  · rename_i hc
                    rw [if_pos hc]
                    cases he1 : (List.range len).mapM fun i => (w.cells? base (a.add (i * P.cellsOf e)) (P.cellsOf e)).bind (DataW.trod enc P w base (fun _ => true) held n e) with
                    | none => rw [he1] at h; cases h
                    | some elems =>
                      rw [he1] at h
                      simp only [Option.bind_some, if_true] at h
                      cases he2 : (List.range (cap - len)).mapM fun j => (w.cells? base (a.add ((len + j) * P.cellsOf e)) (P.cellsOf e)).bind (DataW.trod enc P w base (fun _ => true) held n e) with
                      | none => rw [he2] at h; cases h
                      | some rest =>
                        rw [he2] at h
                        simp only [Option.map_some, Option.some.injEq] at h
                        subst h
                        have one : ∀ (i : Nat) (y : DataW H × List MemPlace), y ∈ elems ++ rest → (w.cells? base (a.add (i * P.cellsOf e)) (P.cellsOf e)).bind (DataW.trod enc P w base (fun _ => true) held n e) = some y →
                            (w.cells? base (a.add (i * P.cellsOf e)) (P.cellsOf e)).bind (DataW.trod enc P w base sp held n e) = some y := by
                          intro i y hy hf
                          cases hcs : w.cells? base (a.add (i * P.cellsOf e)) (P.cellsOf e) with
                          | none => rw [hcs] at hf; cases hf
                          | some cs' =>
                            rw [hcs] at hf
                            simp only [Option.bind_some] at hf ⊢
                            exact ih k e cs' y sp hpe hf fun p hp => hs p (by
                              simp only [List.mem_append, List.mem_flatMap]
                              exact .inr ⟨y, by simpa using hy, hp⟩)
                        rw [mapM_carry he1 (fun i y _ hy hf => one i y (by simp [hy]) hf)]
                        simp only [Option.bind_some]
                        have hrest : (if sp a.block = true then (List.range (cap - len)).mapM fun j => (w.cells? base (a.add ((len + j) * P.cellsOf e)) (P.cellsOf e)).bind (DataW.trod enc P w base sp held n e) else some []) = some rest := by
                          by_cases hsp : sp a.block = true
                          · rw [if_pos hsp]
                            exact mapM_carry he2 (fun j y _ hy hf => one (len + j) y (by simp [hy]) hf)
                          · rw [if_neg hsp]
                            have hr := (mapM_each he2).1
                            rw [List.length_range] at hr
                            cases rest with
                            | nil => rfl
                            | cons r0 rs =>
                              exfalso
                              refine hsp (hs (.cell a.block (a.off + 0)) ?_)
                              simp only [List.mem_append]
                              refine .inl (MemPlace.mem_row.2 ⟨0, ?_, rfl⟩)
                              simp only [List.length_cons]
                              exact Nat.mul_pos (by omega) he
                        rw [hrest]
                        rfl
                  · cases h
              | _ => cases h
        | struct fs =>
          simp only [Bool.and_eq_true, List.all_eq_true] at hp
          simp only at h ⊢
          split at h
          · rename_i hc
            rw [if_pos hc]
            cases he : fs.toList.mapM fun f => DataW.trod enc P w base (fun _ => true) held n f.type ((cs.drop f.offset).take (P.cellsOf f.type)) with
            | none => rw [he] at h; cases h
            | some ys =>
              rw [he] at h
              simp only [Option.map_some, Option.some.injEq] at h
              subst h
              rw [mapM_carry he (fun f y hf hy hfy => ih k f.type _ y sp (hp.2 f hf) hfy fun p hp' => hs p (by simp only [List.mem_flatMap]; exact ⟨y, hy, hp'⟩))]
              rfl
          · cases h
        | _ => cases hp

theorem cells_each {a : Addr} {n : Nat} {cs : List Value} (h : w.cells? base a n = some cs) : cs.length = n ∧ ∀ j (hj : j < cs.length), w.cell? (a.add j) = some cs[j] := by
  obtain ⟨_, h1, h2⟩ := World.cells?_some h
  exact ⟨h1, fun j hj => by rw [h2 j (by omega), List.getElem?_eq_getElem hj]⟩
theorem addr_off (a : Addr) (n : Nat) : (a.add n).off = a.off + n := by unfold Addr.add; split <;> simp_all
theorem addr_block (a : Addr) (n : Nat) : (a.add n).block = a.block := by unfold Addr.add; split <;> rfl
theorem addr_add (a : Addr) (m n : Nat) : (a.add m).add n = a.add (m + n) := Addr.add_add a m n
theorem cell_spot {a : Addr} {v : Value} (h : w.cell? a = some v) : a.spot = none := by
  unfold World.cell? at h
  split at h
  · split at h
    · cases h
    · rename_i hs; simpa using hs
  · cases h

def mkE (P : Program) (e : TypeId) (xs : List AV) : AV := if isAgg P e then .agg xs else xs.headD .undef
theorem single {k : Nat} {e : TypeId} {y : AV} (h : Ty P k e [y]) (hn : isAgg P e = false) : y.cells = [y] := by
  cases k with
  | zero => cases h
  | succ k =>
    unfold Ty at h
    unfold isAgg at hn
    cases hu : P.underlying e with
    | none => rw [hu] at h; cases h
    | some d =>
      rw [hu] at h hn
      cases d with
      | bool => obtain ⟨b, hb⟩ := h; cases hb; rfl
      | int q => obtain ⟨b, hb, _⟩ := h; cases hb; rfl
      | float q =>
        cases q with
        | f32 => cases h
        | f64 =>
          obtain ⟨b, hb, _⟩ := h
          simp only [List.cons.injEq, and_true] at hb
          subst hb
          unfold fltOf; split <;> rfl
      | string => obtain ⟨b, hb, _⟩ := h; cases hb; rfl
      | slice q => obtain ⟨b, hb, _⟩ := h; cases hb; rfl
      | struct fs => cases hn
      | _ => cases h
theorem mkE_cells {k : Nat} {e : TypeId} {xs : List AV} (h : Ty P k e xs) (hx : isAgg P e = true ∨ xs.length = 1) : (mkE P e xs).cells = xs := by
  unfold mkE
  cases ha : isAgg P e with
  | true => rfl
  | false =>
    rcases hx with h1 | h1
    · rw [ha] at h1; cases h1
    · obtain ⟨y, rfl⟩ := List.length_eq_one_iff.1 h1
      exact single h ha
theorem mkE_ty {k : Nat} {e : TypeId} {xs : List AV} (h : Ty P k e xs) (hx : isAgg P e = true ∨ xs.length = 1) : if isAgg P e then ∃ cs, mkE P e xs = .agg cs ∧ Ty P k e cs else Ty P k e [mkE P e xs] := by
  unfold mkE
  cases ha : isAgg P e with
  | true => exact ⟨xs, rfl, h⟩
  | false =>
    rcases hx with h1 | h1
    · rw [ha] at h1; cases h1
    · obtain ⟨y, rfl⟩ := List.length_eq_one_iff.1 h1
      exact h
theorem tiles_le : ∀ {fs : List Field} {off tot : Nat}, tilesT P off fs tot = true → off ≤ tot
  | [], off, tot, h => by simp [tilesT] at h; omega
  | f :: fs, off, tot, h => by
    simp only [tilesT, Bool.and_eq_true] at h
    have := tiles_le h.2
    omega
theorem fields_rep {n : Nat} {R : TypeId → List AV → Prop} {cs : List Value} {tot : Nat} (hcs : cs.length = tot) : ∀ {fs : List Field} {off : Nat} {ys : List (DataW H × List MemPlace)},
    (∀ f ∈ fs, ∀ y, DataW.trod enc P w base (fun _ => true) held n f.type ((cs.drop f.offset).take (P.cellsOf f.type)) = some y →
      ∃ xs : List AV, xs.length = ((cs.drop f.offset).take (P.cellsOf f.type)).length ∧ (∀ (i : Nat) v y, ((cs.drop f.offset).take (P.cellsOf f.type))[i]? = some v → xs[i]? = some y → Rep G w v y) ∧ (∀ y ∈ xs, AV.Data y) ∧ R f.type xs) →
    tilesT P off fs tot = true → (fs.mapM fun f => DataW.trod enc P w base (fun _ => true) held n f.type ((cs.drop f.offset).take (P.cellsOf f.type))) = some ys →
    ∃ xs : List AV, xs.length = tot - off ∧ (∀ (i : Nat) v y, cs[off + i]? = some v → xs[i]? = some y → Rep G w v y) ∧ (∀ y ∈ xs, AV.Data y) ∧ Tys R fs xs
  | [], off, ys, _, ht, _ => by
    simp [tilesT] at ht
    exact ⟨[], by simp; omega, fun i v y _ h => (by simp at h), fun y hy => (by cases hy), rfl⟩
  | f :: fs, off, ys, ih, ht, hm => by
    simp only [tilesT, Bool.and_eq_true, beq_iff_eq] at ht
    obtain ⟨hoff, ht⟩ := ht
    have hle := tiles_le ht
    rw [List.mapM_cons] at hm
    cases h1 : DataW.trod enc P w base (fun _ => true) held n f.type ((cs.drop f.offset).take (P.cellsOf f.type)) with
    | none => rw [h1] at hm; cases hm
    | some y =>
      rw [h1] at hm
      cases h2 : fs.mapM fun f => DataW.trod enc P w base (fun _ => true) held n f.type ((cs.drop f.offset).take (P.cellsOf f.type)) with
      | none => rw [h2] at hm; cases hm
      | some ys' =>
        obtain ⟨a, a1, a2, a3, a4⟩ := ih f (by simp) y h1
        obtain ⟨b, b1, b2, b3, b4⟩ := fields_rep hcs (fun f hf => ih f (by simp [hf])) ht h2
        rw [List.length_take, List.length_drop, hoff] at a1
        have la : a.length = P.cellsOf f.type := by omega
        refine ⟨a ++ b, by rw [List.length_append]; omega, fun i v y hv hy => ?_, fun y hy => ?_, a, b, rfl, a4, b4⟩
        · rcases Nat.lt_or_ge i a.length with hi | hi
          · rw [List.getElem?_append_left hi] at hy
            refine a2 i v y ?_ hy
            rw [List.getElem?_take, if_pos (by omega), List.getElem?_drop, hoff]
            exact hv
          · rw [List.getElem?_append_right hi] at hy
            refine b2 (i - a.length) v y ?_ hy
            rw [← hv]; congr 1; omega
        · rcases List.mem_append.1 hy with hy | hy
          · exact a3 y hy
          · exact b3 y hy

/-- PLAIN DATA READS AS ABSTRACT VALUES. -/
theorem trod_rep (hG : ∀ a v, w.cell? a = some v → a.off < G.lim a.block) : ∀ (n k : Nat) (t : TypeId) (cs : List Value) (x : DataW H × List MemPlace), plainT P k t = true → DataW.trod enc P w base (fun _ => true) held n t cs = some x →
    ∃ xs : List AV, xs.length = cs.length ∧ (∀ (i : Nat) v y, cs[i]? = some v → xs[i]? = some y → Rep G w v y) ∧ (∀ y ∈ xs, AV.Data y) ∧ Ty P k t xs := by
  intro n
  induction n with
  | zero => intro k t cs x _ h; simp [DataW.trod] at h
  | succ n ih =>
    intro k t cs x hp h
    cases k with
    | zero => cases hp
    | succ k =>
      unfold plainT at hp
      unfold DataW.trod at h
      unfold Ty
      cases hu : P.underlying t with
      | none => rw [hu] at hp; cases hp
      | some d =>
        rw [hu] at hp h
        have one : ∀ (v : Value) (y : AV), Rep G w v y → ∀ (i : Nat) v' y', [v][i]? = some v' → [y][i]? = some y' → Rep G w v' y' := fun v y hr i v' y' h1 h2 => by
          cases i with
          | zero => cases h1; cases h2; exact hr
          | succ i => cases h1
        have done : ∀ (v : Value) (y : AV), AV.Data y → Rep G w v y → ∀ z ∈ [y], AV.Data z := fun v y hd _ z hz => by
          rw [List.mem_singleton] at hz; subst hz; exact hd
        cases d with
        | bool =>
          cases cs with
          | nil => cases h
          | cons v r =>
            cases r with
            | cons v' r' => cases v <;> cases h
            | nil =>
              cases v with
              | bool b => exact ⟨[.bool b], rfl, one _ _ (.bool b), done _ _ (.bool b) (.bool (w := w) (G := G) b), b, rfl⟩
              | _ => cases h
        | int q =>
          cases cs with
          | nil => cases h
          | cons v r =>
            cases r with
            | cons v' r' => cases v <;> cases h
            | nil =>
              cases v with
              | int q' m =>
                simp only at h
                split at h
                · rename_i hc
                  obtain ⟨rfl, hw⟩ := hc
                  exact ⟨[.int q' m], rfl, one _ _ (.int q' m), done _ _ (.int q' m) (.int (w := w) (G := G) q' m), m, rfl, hw⟩
                · cases h
              | _ => cases h
        | float q =>
          cases q with
          | f32 => cases hp
          | f64 =>
          cases cs with
          | nil => cases h
          | cons v r =>
            cases r with
            | cons v' r' => cases v <;> cases h
            | nil =>
              cases v with
              | float q' m =>
                simp only at h
                split at h
                · rename_i hc
                  obtain ⟨rfl, hw⟩ := hc
                  refine ⟨[fltOf m], rfl, one _ _ (fltOf_rep m), done (.float .f64 m) _ ?_ (fltOf_rep m), m, rfl, hw⟩
                  unfold fltOf
                  split
                  · exact .nan
                  · exact .flt m
                · cases h
              | _ => cases h
        | string =>
          cases cs with
          | nil => cases h
          | cons v r =>
            cases r with
            | cons v' r' => cases v <;> cases h
            | nil =>
              cases v with
              | string b =>
                simp only at h
                split at h
                · rename_i hc
                  refine ⟨[.str b.data.toList], rfl, one _ _ (.str (w := w) (G := G) b.data.toList), done (.string b) _ (.str _) (.str (w := w) (G := G) b.data.toList), _, rfl, ?_⟩
                  exact hc
                · cases h
              | _ => cases h
        | slice e =>
          simp only [Bool.and_eq_true, decide_eq_true_eq] at hp
          obtain ⟨⟨he, hag⟩, hpe⟩ := hp
          cases cs with
          | nil => cases h
          | cons v r =>
            cases r with
            | cons v' r' => exact (by cases v <;> first | (cases h; done) | (rename_i oa len cap; cases oa <;> cases len <;> cases cap <;> cases h))
            | nil =>
              cases v with
              | slice oa len cap =>
                cases oa with
                | none =>
                  cases len with
                  | succ l => cases h
                  | zero =>
                    cases cap with
                    | succ l => cases h
                    | zero => exact ⟨[.sl .sh []], rfl, one _ _ (.sl0 none 0 .sh (fun hh => by cases hh) (fun t hh => by cases hh)), done (.slice none 0 0) _ (.sl _ _ (fun t hh => by cases hh) (fun x hx => by cases hx)) (.sl0 none 0 .sh (fun hh => by cases hh) (fun t hh => by cases hh)), [], rfl, by simp, fun x hx => by cases hx⟩
                | some a =>
                  simp only at h
                  split at h
                  · rename_i hc
                    cases he1 : (List.range len).mapM fun i => (w.cells? base (a.add (i * P.cellsOf e)) (P.cellsOf e)).bind (DataW.trod enc P w base (fun _ => true) held n e) with
                    | none => rw [he1] at h; cases h
                    | some elems =>
                      obtain ⟨hl, hel⟩ := mapM_each he1
                      rw [List.length_range] at hl
                      have each : ∀ i, ∃ p : List Value × List AV, i < len → p.1.length = P.cellsOf e ∧ (∀ j (hj : j < p.1.length), w.cell? (a.add (i * P.cellsOf e + j)) = some p.1[j]) ∧ p.2.length = P.cellsOf e ∧
                          (∀ (j : Nat) v y, p.1[j]? = some v → p.2[j]? = some y → Rep G w v y) ∧ (∀ y ∈ p.2, AV.Data y) ∧ Ty P k e p.2 := by
                        intro i
                        by_cases hi : i < len
                        · have := hel i (by simpa using hi) (by omega)
                          simp only [List.getElem_range] at this
                          cases hcs : w.cells? base (a.add (i * P.cellsOf e)) (P.cellsOf e) with
                          | none => rw [hcs] at this; cases this
                          | some row =>
                            rw [hcs] at this
                            obtain ⟨r1, r2⟩ := cells_each hcs
                            obtain ⟨xs, x1, x3, x4, x5⟩ := ih k e row _ hpe this
                            exact ⟨(row, xs), fun _ => ⟨r1, fun j hj => by rw [← r2 j hj, addr_add], by simp only; omega, x3, x4, x5⟩⟩
                        · exact ⟨([], []), fun hh => absurd hh hi⟩
                      obtain ⟨f, hf⟩ := Classical.axiomOfChoice each
                      have hcells : ∀ i, i < len → (mkE P e (f i).2).cells = (f i).2 := fun i hi => mkE_cells (hf i hi).2.2.2.2.2 (by
                        have := (hf i hi).2.2.1
                        rcases Bool.or_eq_true _ _ ▸ hag with h1 | h1
                        · exact .inl h1
                        · exact .inr (by rw [this]; simpa using h1))
                      have hlen : ((List.range len).map fun i => mkE P e (f i).2).length = len := by simp
                      have hget : ∀ i (hi : i < ((List.range len).map fun i => mkE P e (f i).2).length), ((List.range len).map fun i => mkE P e (f i).2)[i] = mkE P e (f i).2 := fun i hi => by simp
                      have hdat : ∀ x ∈ ((List.range len).map fun i => mkE P e (f i).2), ∀ y ∈ x.cells, AV.Data y := fun x hx y hy => by
                        obtain ⟨i, hi, rfl⟩ := List.mem_map.1 hx
                        rw [List.mem_range] at hi
                        rw [hcells i hi] at hy
                        exact (hf i hi).2.2.2.2.1 y hy
                      have hrep : Rep G w (.slice (some a) len cap) (.sl .sh ((List.range len).map fun i => mkE P e (f i).2)) := by
                        rcases Nat.eq_zero_or_pos len with h0 | h0
                        · subst h0
                          exact .sl0 (some a) cap .sh (fun hh => by cases hh) (fun t hh => by cases hh)
                        · have hs : a.spot = none := by
                            obtain ⟨r1, r2, _⟩ := hf 0 h0
                            have := r2 0 (by omega)
                            rw [show 0 * P.cellsOf e + 0 = 0 by omega] at this
                            exact cell_spot (a := a) this
                          have := Rep.sl (G := G) (w := w) a cap .sh ((List.range len).map fun i => mkE P e (f i).2) (P.cellsOf e) (fun i j => ((f i).1[j]?).getD Go.undef) (by
                              intro hh
                              have := congrArg List.length hh
                              rw [hlen] at this
                              simp at this; omega)
                            (by rw [hlen]; exact hc.2.1) hc.2.2 hs (fun i hi => by rw [hget i hi, hcells i (by omega)]; exact (hf i (by omega)).2.2.1) he hdat
                            (by
                              rw [hlen]
                              obtain ⟨r1, r2, _⟩ := hf (len - 1) (by omega)
                              have := hG _ _ (r2 (P.cellsOf e - 1) (by omega))
                              have e2 : (a.add ((len - 1) * P.cellsOf e + (P.cellsOf e - 1))).off = a.off + ((len - 1) * P.cellsOf e + (P.cellsOf e - 1)) := addr_off _ _
                              rw [e2] at this
                              have e3 : len * P.cellsOf e = (len - 1) * P.cellsOf e + P.cellsOf e := by
                                conv => lhs; rw [show len = (len - 1) + 1 by omega, Nat.add_mul, Nat.one_mul]
                              have e4 : (a.add ((len - 1) * P.cellsOf e + (P.cellsOf e - 1))).block = a.block := addr_block _ _
                              rw [e4] at this
                              omega)
                            (fun i hi j hj => by
                              rw [hlen] at hi
                              obtain ⟨r1, r2, _⟩ := hf i hi
                              have hj' : j < (f i).1.length := by omega
                              rw [r2 j hj', List.getElem?_eq_getElem hj']; rfl)
                            (fun i hi j hj => by
                              have hi' : i < len := by omega
                              obtain ⟨r1, r2, r3, r4, _⟩ := hf i hi'
                              simp only [hget i hi, hcells i hi'] at hj ⊢
                              have hj' : j < (f i).1.length := by omega
                              rw [List.getElem?_eq_getElem hj']
                              exact r4 j _ _ (List.getElem?_eq_getElem hj') (List.getElem?_eq_getElem hj))
                            (fun hh => by cases hh) (fun t hh => by cases hh)
                          rw [hlen] at this
                          exact this
                      refine ⟨_, rfl, one _ _ hrep, done _ _ (.sl _ _ (fun t hh => by cases hh) hdat) hrep, _, rfl, ?_, ?_⟩
                      · rw [hlen]
                        have := hc.2.2
                        have := hc.2.1
                        have e : maxLen = 9223372036854775807 := rfl
                        omega
                      · intro x hx
                        obtain ⟨i, hi, rfl⟩ := List.mem_map.1 hx
                        rw [List.mem_range] at hi
                        exact mkE_ty (hf i hi).2.2.2.2.2 (by
                          have := (hf i hi).2.2.1
                          rcases Bool.or_eq_true _ _ ▸ hag with h1 | h1
                          · exact .inl h1
                          · exact .inr (by rw [this]; simpa using h1))
                  · cases h
              | _ => cases h
        | struct fs =>
          simp only [Bool.and_eq_true, List.all_eq_true] at hp
          simp only at h
          split at h
          · rename_i hc
            cases he : fs.toList.mapM fun f => DataW.trod enc P w base (fun _ => true) held n f.type ((cs.drop f.offset).take (P.cellsOf f.type)) with
            | none => rw [he] at h; cases h
            | some ys =>
              obtain ⟨xs, x1, x2, x3, x4⟩ := fields_rep (R := Ty P k) (tot := P.cellsOf t) (cs := cs) hc (fun f hf ys hy => ih k f.type _ ys (hp.2 f hf) hy) hp.1 he
              exact ⟨xs, by omega, fun i v y h1 h2 => x2 i v y (by simpa using h1) h2, x3, x4⟩
          · cases h
        | _ => cases hp

/-- What a parameter is. -/
def TyV (P : Program) (k : Nat) (t : TypeId) (x : AV) : Prop := if isAgg P t then ∃ cs, x = .agg cs ∧ Ty P k t cs else Ty P k t [x]
def TyAll (P : Program) (k : Nat) : List TypeId → List AV → Prop
  | [], [] => True
  | t :: ts, x :: xs => TyV P k t x ∧ TyAll P k ts xs
  | _, _ => False

theorem not_agg {k : Nat} {r : Reach} {b0 : Nat} {t : TypeId} {v : Value} (hp : plainT P k t = true) (ha : isAgg P t = false) (hval : Value.okWide P w r b0 t v) : v.cells = #[v] := by
  cases k with
  | zero => cases hp
  | succ k =>
    unfold plainT at hp
    unfold isAgg at ha
    unfold Value.okWide at hval
    cases hu : P.underlying t with
    | none => rw [hu] at hp; cases hp
    | some d =>
      rw [hu] at hp ha hval
      cases d with
      | struct fs => cases ha
      | bool => cases v <;> first | rfl | (simp [Cell.okWide, Cell.ok, hu] at hval; done)
      | int q => cases v <;> first | rfl | (simp [Cell.okWide, Cell.ok, hu] at hval; done)
      | float q => cases v <;> first | rfl | (simp [Cell.okWide, Cell.ok, hu] at hval; done)
      | string => cases v <;> first | rfl | (simp [Cell.okWide, Cell.ok, hu] at hval; done)
      | slice q => cases v <;> first | rfl | (simp [Cell.okWide, Cell.ok, hu] at hval; done)
      | _ => cases hp

theorem agg_of {r : Reach} {b0 : Nat} {t : TypeId} {v : Value} (ha : isAgg P t = true) (hval : Value.okWide P w r b0 t v) : ∃ cs, v = .agg cs := by
  unfold isAgg at ha
  unfold Value.okWide at hval
  cases hu : P.underlying t with
  | none => rw [hu] at ha; cases ha
  | some d =>
    rw [hu] at ha hval
    cases d with
    | struct fs => obtain ⟨cs, h, _⟩ := hval; exact ⟨cs, h⟩
    | _ => cases ha

theorem one_rep (hG : ∀ a v, w.cell? a = some v → a.off < G.lim a.block) {k : Nat} {r : Reach} {b0 : Nat} {t : TypeId} {v : Value} {d : DataW H} {ps : List MemPlace} (hp : plainT P k t = true) (hval : Value.okWide P w r b0 t v)
    (h : DataW.Trod enc P w base (fun _ => true) held t v d ps) : ∃ x, Rep G w v x ∧ TyV P k t x := by
  obtain ⟨n, hn⟩ := h
  obtain ⟨xs, x1, x2, x3, x4⟩ := trod_rep hG n k t _ _ hp hn
  unfold TyV
  cases ha : isAgg P t with
  | true =>
    obtain ⟨cs, rfl⟩ := agg_of ha hval
    refine ⟨.agg xs, .agg cs xs (by rw [x1]; exact Array.length_toList.symm) (fun i h1 h2 => x2 i _ _ ?_ (List.getElem?_eq_getElem h2)), xs, rfl, x4⟩
    rw [show (Value.agg cs).cells = cs from rfl, Array.getElem?_toList, Array.getElem?_eq_getElem h1]
  | false =>
    have hc := not_agg hp ha hval
    rw [hc] at x1 x2
    obtain ⟨y, rfl⟩ := List.length_eq_one_iff.1 (x1.trans rfl)
    exact ⟨y, x2 0 v y rfl rfl, x4⟩

theorem all_rep (hG : ∀ a v, w.cell? a = some v → a.off < G.lim a.block) {k : Nat} {r : Reach} {b0 : Nat} : ∀ {ts : List TypeId} {vs : List Value} {ds : List (DataW H)} {ps : List MemPlace}, ts.all (plainT P k) = true →
    (∀ (j : Nat) t v, ts[j]? = some t → vs[j]? = some v → Value.okWide P w r b0 t v) → DataW.TrodAll enc P w base (fun _ => true) held ts vs ds ps →
    ∃ xs : List AV, xs.length = vs.length ∧ (∀ (i : Nat) v y, vs[i]? = some v → xs[i]? = some y → Rep G w v y) ∧ TyAll P k ts xs
  | [], [], [], ps, _, _, _ => ⟨[], rfl, fun i v y h => (by simp at h), trivial⟩
  | t :: ts, v :: vs, d :: ds, ps, hp, hval, ⟨p, q, h1, h2, _⟩ => by
    rw [List.all_cons, Bool.and_eq_true] at hp
    obtain ⟨x, hx, hy⟩ := one_rep hG hp.1 (hval 0 t v rfl rfl) h1
    obtain ⟨xs, x1, x2, x3⟩ := all_rep hG hp.2 (fun j t v a b => hval (j + 1) t v a b) h2
    refine ⟨x :: xs, by simp [x1], fun i v' y' a b => ?_, hy, x3⟩
    cases i with
    | zero => cases a; cases b; exact hx
    | succ i => exact x2 i v' y' a b
  | [], [], _ :: _, _, _, _, h => h.elim
  | [], _ :: _, _, _, _, _, h => h.elim
  | _ :: _, [], _, _, _, _, h => h.elim
  | _ :: _, _ :: _, [], _, _, _, h => h.elim

theorem all_shut {w' : World} {k : Nat} {sp : Nat → Bool} (hB : Below w.heap.size w w') : ∀ {ts : List TypeId} {vs : List Value} {ds : List (DataW H)} {ps : List MemPlace}, ts.all (plainT P k) = true →
    (∀ p ∈ ps, sp p.block = true) → DataW.TrodAll enc P w base (fun _ => true) held ts vs ds ps → DataW.TrodAll enc P w' base sp held ts vs ds ps
  | [], [], [], ps, _, _, h => h
  | t :: ts, v :: vs, d :: ds, ps, hp, hs, ⟨p, q, ⟨n, h1⟩, h2, e⟩ => by
    subst e
    rw [List.all_cons, Bool.and_eq_true] at hp
    refine ⟨p, q, ⟨n, ?_⟩, all_shut hB hp.2 (fun x hx => hs x (by simp [hx])) h2, rfl⟩
    refine DataW.trod_carry n _ _ _ (trod_spare n k _ _ _ sp hp.1 h1 fun x hx => hs x (by simp [hx])) (fun x hx => hB.same (DataW.trod_lt n _ _ _ h1 x hx))
  | [], [], _ :: _, _, _, _, h => h.elim
  | [], _ :: _, _, _, _, _, h => h.elim
  | _ :: _, [], _, _, _, _, h => h.elim
  | _ :: _, _ :: _, [], _, _, _, h => h.elim

theorem all_len {sp : Nat → Bool} : ∀ {ts : List TypeId} {vs : List Value} {ds : List (DataW H)} {ps : List MemPlace}, DataW.TrodAll enc P w base sp held ts vs ds ps → vs.length = ts.length ∧ ds.length = ts.length
  | [], [], [], _, _ => ⟨rfl, rfl⟩
  | t :: ts, v :: vs, d :: ds, ps, ⟨p, q, h1, h2, e⟩ => by
    obtain ⟨a, b⟩ := all_len h2
    exact ⟨by simp [a], by simp [b]⟩
  | [], [], _ :: _, _, h => h.elim
  | [], _ :: _, _, _, h => h.elim
  | _ :: _, [], _, _, h => h.elim
  | _ :: _, _ :: _, [], _, h => h.elim

/-- All memory that is there is settled. -/
def GW (w : World) : Ghost := { lim := fun b => match w.heap[b]? with | some (.cells c _ _) => c.size | _ => 0, nb := 0, μ := fun _ => 0, nt := 0, τ := fun _ => 0, ext := fun _ => 0, cap := fun _ => 0, tes := fun _ => 0, nl := 0, ln := fun _ => 0 }
theorem GW_heap (w : World) : HRep P (GW w) w Heap.nil :=
  ⟨fun b hb => by simp [GW, Array.getElem?_eq_none hb], rfl, rfl, rfl, fun k hk => absurd hk (by simp [Heap.nil]), fun i j hi => absurd hi (by simp [GW]), fun k hk => absurd hk (by simp [GW]), fun t ht => absurd ht (by simp [Heap.nil]), fun i j hi => absurd hi (by simp [GW]),
   fun k t hk => absurd hk (by simp [GW]), fun l hl => absurd hl (by simp [Heap.nil]), fun i j hi => absurd hi (by simp [GW])⟩
theorem GW_lim : ∀ a v, w.cell? a = some v → a.off < (GW w).lim a.block := by
  intro a v h
  unfold World.cell? at h
  unfold GW
  simp only
  split at h
  · rename_i c _ _ hc
    rw [hc]
    split at h
    · cases h
    · exact (Array.getElem?_eq_some_iff.1 h).1
  · cases h

theorem step_below {G : Ghost} {w w' : World} {G' : Ghost} (h : Step G w G' w') (h1 : G.nb = 0) (h2 : G.nt = 0) (h3 : G.nl = 0) : Below w.heap.size w w' :=
  ⟨h.os, h.tape, h.output, h.size, fun k hk => (h.frame k hk (fun i hi => absurd hi (by omega)) (fun i hi => absurd hi (by omega)) (fun i hi => absurd hi (by omega))).1⟩

theorem post_of_below {f : Func} {s : ChangeSpec} {apart fresh handsOn again : Bool} {W W' : World} {args : Array Value} {v : Value} {ds gs : List (DataW H)} {before pa pv : List MemPlace}
    (hW : DataW.Whole enc P f.params.toList s.vars apart W args.toList ds gs before)
    (hres : ∀ (b : Nat) (sp : Nat → Bool) (hd : Bool), DataW.TrodAll enc P W' b sp hd f.resultTypes.toList (v.resultList f.resultTypes.size) (s.fn H (ds ++ gs)).results [])
    (hargs : ∀ sp : Nat → Bool, (∀ p ∈ before, sp p.block = true) → DataW.TrodAll enc P W' 0 sp true f.params.toList args.toList (s.fn H (ds ++ gs)).args pa)
    (hvars : ∀ sp : Nat → Bool, (∀ p ∈ before, sp p.block = true) → DataW.TrodVars enc P W' sp s.vars (s.fn H (ds ++ gs)).vars pv)
    (hps : before = pa ++ pv) (hb : Below W.heap.size W W')
    (hok : ∀ (j : Nat) (t : TypeId) (r : Value), f.resultTypes[j]? = some t → (v.resultList f.resultTypes.size)[j]? = some r → Value.okWide P W' .any 0 t r) :
    s.post enc P f apart fresh handsOn again W args v W' := by
  have hlt : ∀ p ∈ before, p.block < W.heap.size := fun p hp => hW.lt p hp
  have hold : ∀ p ∈ before, (fun b => decide (b < W.heap.size)) p.block = true := fun p hp => by simpa using hlt p hp
  refine ⟨ds, gs, before, [], pa, pv, hW, hres _ _ _, hargs _ hold, hvars _ hold, World.keptBut_mono (fun p hp => ⟨hp, ?_⟩) (hb.frame (· ∈ before)), fun _ => ?_⟩
  · rw [hps, List.mem_append] at hp
    exact Or.inr hp
  · obtain ⟨_, _, _, _, _, hz, hn⟩ := hW
    refine ⟨hok, _, _, ([] ++ pa) ++ pv, ⟨[] ++ pa, pv, trodAll_append (hargs _ (fun _ _ => rfl)) (hres _ _ _), hvars _ (fun _ _ => rfl), rfl, ?_, ?_⟩, ?_⟩
    · intro b off hp
      have hin : MemPlace.cell b off ∈ before := by rw [hps]; simpa using hp
      rw [hb.frozen (hlt _ hin)]
      exact hz b off hin
    · intro ha
      have := hn ha
      rw [hps] at this
      simpa using this
    · intro p hp _
      rw [hps]
      simpa using hp

/-- A LAW OF PLAIN DATA that answers true, whatever it is handed, returns true, and all reads as it did. -/
theorem law_row {cfg : Cfg} (hcfg : CfgOk P cfg) {f : FuncId} (hF : (cfg.F f).isSome = true) (hx : cfg.ext f = none) (ht : cfg.tryF f = false) {fn : Func} {s : ChangeSpec} {k : Nat} {tb : TypeId} {apart fresh handsOn again : Bool}
    (hpl : fn.params.toList.all (plainT P k) = true) (hrt : fn.resultTypes = #[tb]) (hb : P.underlying tb = some .bool) (hsv : s.vars = [])
    (hfn : ∀ ds : List (DataW H), ds.length = fn.params.toList.length → s.fn H ds = { results := [.lit (.bool true)], args := ds })
    (hlaw : ∀ xs, TyAll P k fn.params.toList xs → ∃ H', lim cfg (.fn f) xs Heap.nil = some (.ret (.bool true), H'))
    {W : World} {base : Nat} {args : Array Value} {ds gs : List (DataW H)} {before : List MemPlace}
    (hval : ∀ (j : Nat) t v, fn.params[j]? = some t → args[j]? = some v → Value.okWide P W .any base t v)
    (hW : DataW.Whole enc P fn.params.toList s.vars apart W args.toList ds gs before) :
    Calls P f args W fun e W' => ∃ v, e = .returned v ∧ s.post enc P fn apart fresh handsOn again W args v W' := by
  have hW' := hW
  obtain ⟨p, q, hA, hV, rfl, hfz, hnd⟩ := hW
  rw [hsv] at hV
  obtain ⟨rfl, rfl⟩ := trodVars_none hV
  rw [List.append_nil] at hW'
  obtain ⟨xs, x1, x2, x3⟩ := all_rep (G := GW W) GW_lim hpl (fun j t v a b => hval j t v (by simpa using a) (by simpa using b)) hA
  obtain ⟨H', hl⟩ := hlaw xs x3
  obtain ⟨n, hn⟩ := lim_iff.1 hl
  refine (calls_of hcfg hn hF hx ht (GW_heap W) ⟨by rw [x1]; simp, fun i h1 h2 => x2 i _ _ (by simp [h1]) (List.getElem?_eq_getElem h2)⟩).mono fun e W' ⟨u, G', he, hst, hr⟩ => ?_
  cases hr
  have hB := step_below hst rfl rfl rfl
  obtain ⟨l1, l2⟩ := all_len hA
  have hfn' := hfn ds l2
  refine ⟨_, he, post_of_below (pa := p) (pv := []) hW' ?_ ?_ ?_ (by simp) hB ?_⟩
  · intro b sp hd
    rw [List.append_nil, hfn', hrt]
    exact trodAll_mk1 (shut_bool hb _)
  · intro sp hsp
    rw [List.append_nil, hfn']
    exact all_shut hB hpl hsp hA
  · intro sp hsp
    rw [List.append_nil, hfn', hsv]
    rfl
  · exact ok_one hrt rfl (okWide_bool_mk hb _)
end

/-! ### What a type says -/
section
variable {P : Program} {k : Nat} {t : TypeId} {x : AV} {xs : List AV}
theorem ty_bool (hu : P.underlying t = some .bool) (h : Ty P (k + 1) t xs) : ∃ b, xs = [.bool b] := by unfold Ty at h; rw [hu] at h; exact h
theorem ty_int {q : IntKind} (hu : P.underlying t = some (.int q)) (h : Ty P (k + 1) t xs) : ∃ m, xs = [.int q m] ∧ (Lit.int q m).wf = true := by unfold Ty at h; rw [hu] at h; exact h
theorem ty_float (hu : P.underlying t = some (.float .f64)) (h : Ty P (k + 1) t xs) : ∃ b, xs = [fltOf b] ∧ (Lit.float .f64 b).wf = true := by unfold Ty at h; rw [hu] at h; exact h
theorem ty_string (hu : P.underlying t = some .string) (h : Ty P (k + 1) t xs) : ∃ s, xs = [.str s] ∧ s.length ≤ 9223372036854775807 := by unfold Ty at h; rw [hu] at h; exact h
theorem ty_slice {e : TypeId} (hu : P.underlying t = some (.slice e)) (h : Ty P (k + 1) t xs) : ∃ l : List AV, xs = [.sl .sh l] ∧ l.length ≤ 9223372036854775807 ∧ ∀ x ∈ l, TyV P k e x := by unfold Ty at h; rw [hu] at h; exact h
theorem ty_struct {fs : Array Field} (hu : P.underlying t = some (.struct fs)) (h : Ty P (k + 1) t xs) : Tys (Ty P k) fs.toList xs := by unfold Ty at h; rw [hu] at h; exact h
theorem tyv_bool (hu : P.underlying t = some .bool) (h : TyV P (k + 1) t x) : ∃ b, x = .bool b := by
  unfold TyV isAgg at h; rw [hu] at h
  obtain ⟨b, e⟩ := ty_bool hu h
  exact ⟨b, by simpa using e⟩
theorem tyv_int {q : IntKind} (hu : P.underlying t = some (.int q)) (h : TyV P (k + 1) t x) : ∃ m, x = .int q m ∧ (Lit.int q m).wf = true := by
  unfold TyV isAgg at h; rw [hu] at h
  obtain ⟨b, e, hw⟩ := ty_int hu h
  exact ⟨b, by simpa using e, hw⟩
theorem tyv_float (hu : P.underlying t = some (.float .f64)) (h : TyV P (k + 1) t x) : ∃ b, x = fltOf b ∧ (Lit.float .f64 b).wf = true := by
  unfold TyV isAgg at h; rw [hu] at h
  obtain ⟨b, e, hw⟩ := ty_float hu h
  exact ⟨b, by simpa using e, hw⟩
theorem tyv_string (hu : P.underlying t = some .string) (h : TyV P (k + 1) t x) : ∃ s, x = .str s ∧ s.length ≤ 9223372036854775807 := by
  unfold TyV isAgg at h; rw [hu] at h
  obtain ⟨b, e, hw⟩ := ty_string hu h
  exact ⟨b, by simpa using e, hw⟩
theorem tyv_slice {e : TypeId} (hu : P.underlying t = some (.slice e)) (h : TyV P (k + 1) t x) : ∃ l : List AV, x = .sl .sh l ∧ l.length ≤ 9223372036854775807 ∧ ∀ y ∈ l, TyV P k e y := by
  unfold TyV isAgg at h; rw [hu] at h
  obtain ⟨b, e, hw⟩ := ty_slice hu h
  exact ⟨b, by simpa using e, hw⟩
theorem tyv_struct {fs : Array Field} (hu : P.underlying t = some (.struct fs)) (h : TyV P (k + 1) t x) : ∃ cs, x = .agg cs ∧ Tys (Ty P k) fs.toList cs := by
  unfold TyV isAgg at h; rw [hu] at h
  obtain ⟨cs, e, hw⟩ := h
  exact ⟨cs, e, ty_struct hu hw⟩
theorem tyall_1 {a : TypeId} (h : TyAll P k [a] xs) : ∃ x, xs = [x] ∧ TyV P k a x := by
  match xs, h with
  | [x], ⟨h, _⟩ => exact ⟨x, rfl, h⟩
theorem tyall_2 {a b : TypeId} (h : TyAll P k [a, b] xs) : ∃ x y, xs = [x, y] ∧ TyV P k a x ∧ TyV P k b y := by
  match xs, h with
  | [x, y], ⟨h, h2, _⟩ => exact ⟨x, y, rfl, h, h2⟩
theorem tyall_3 {a b c : TypeId} (h : TyAll P k [a, b, c] xs) : ∃ x y z, xs = [x, y, z] ∧ TyV P k a x ∧ TyV P k b y ∧ TyV P k c z := by
  match xs, h with
  | [x, y, z], ⟨h, h2, h3, _⟩ => exact ⟨x, y, z, rfl, h, h2, h3⟩
theorem tyall_4 {a b c d : TypeId} (h : TyAll P k [a, b, c, d] xs) : ∃ x y z u, xs = [x, y, z, u] ∧ TyV P k a x ∧ TyV P k b y ∧ TyV P k c z ∧ TyV P k d u := by
  match xs, h with
  | [x, y, z, u], ⟨h, h2, h3, h4, _⟩ => exact ⟨x, y, z, u, rfl, h, h2, h3, h4⟩
theorem tyall_5 {a b c d e : TypeId} (h : TyAll P k [a, b, c, d, e] xs) : ∃ x y z u v, xs = [x, y, z, u, v] ∧ TyV P k a x ∧ TyV P k b y ∧ TyV P k c z ∧ TyV P k d u ∧ TyV P k e v := by
  match xs, h with
  | [x, y, z, u, v], ⟨h, h2, h3, h4, h5, _⟩ => exact ⟨x, y, z, u, v, rfl, h, h2, h3, h4, h5⟩
end
end Go.Aa
