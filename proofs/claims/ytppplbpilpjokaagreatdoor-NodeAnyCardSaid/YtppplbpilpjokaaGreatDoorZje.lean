/-
  WHAT THE LAW LEANS ON, part 5 of 8: a machine of values and its soundness; the functions of the law upon it; what they come to.
-/
import Derived.Test.YtppplbpilpjokaaGreatDoorZjd
import Derived.ChangeShapes
import Derived.ChangeReads
import Derived.ChangeOld
import Derived.ProofKit
import Derived.Carry
import Derived.DataElems
import Derived.Laws.Pointers
import Derived.Lib.SlTrimSet
import Derived.Shelf.Strings.SlTrimAscii
import Derived.Shelf.Strings.OnBuilder
import Derived.Shelf.Strings.Count
import Derived.Shelf.Strings.Search3
import Derived.Lib.ParseIntB
import Derived.Lib.Bytealg
import Derived.Lib.LaidTab
import Derived.Lib.AppendIntMem
import Derived.Lib.AtoiErrMem
import Derived.Test.YtppplbpilpjokaaGreatDoorChecked
import Derived.Tactics
import Derived.Tactics2
import Derived.Defers
import Derived.Recover
import Derived.Shelf.Strconv.Itoa3
import Derived.Shelf.Strconv.Itoa4
import Derived.Shelf.Strconv.ParseIntPublic10
import Derived.Shelf.Strconv.ErrVarParseInt
import Derived.Shelf.Small.Strs


set_option linter.unusedVariables false
set_option linter.unusedSimpArgs false
namespace Go.Aa
open Go.RowKit Go.ChangeShapes Go.WideShapes Go.ChangeAt
def fltOf (b : Nat) : AV := if (FloatKind.f64.format.read b).isNaN = true then .nan else .flt b
theorem fltOf_rep {G : Ghost} {w : World} (b : Nat) : Rep G w (.float .f64 b) (fltOf b) := by
  unfold fltOf
  split
  · rename_i h; exact .nan b h
  · exact .flt b
def tilesT (P : Program) : Nat → List Field → Nat → Bool
  | off, [], tot => off == tot
  | off, f :: fs, tot => (f.offset == off) && tilesT P (off + P.cellsOf f.type) fs tot
def isAgg (P : Program) (t : TypeId) : Bool := match P.underlying t with
  | some (.struct _) => true
  | _ => false
def plainT (P : Program) : Nat → TypeId → Bool
  | 0, _ => false
  | n + 1, t =>
    match P.underlying t with
    | some .bool => true
    | some (.int _) => true
    | some (.float .f64) => true
    | some .string => true
    | some (.slice e) => decide (0 < P.cellsOf e) && (isAgg P e || P.cellsOf e == 1) && plainT P n e
    | some (.struct fs) => tilesT P 0 fs.toList (P.cellsOf t) && fs.toList.all fun f => plainT P n f.type
    | _ => false
def Tys (R : TypeId → List AV → Prop) : List Field → List AV → Prop
  | [], xs => xs = []
  | f :: fs, xs => ∃ a b, xs = a ++ b ∧ R f.type a ∧ Tys R fs b
def Ty (P : Program) : Nat → TypeId → List AV → Prop
  | 0, _, _ => False
  | n + 1, t, xs =>
    match P.underlying t with
    | some .bool => ∃ b, xs = [.bool b]
    | some (.int k) => ∃ m, xs = [.int k m] ∧ (Lit.int k m).wf = true
    | some (.float .f64) => ∃ b, xs = [fltOf b] ∧ (Lit.float .f64 b).wf = true
    | some .string => ∃ s, xs = [.str s] ∧ s.length ≤ 9223372036854775807
    | some (.slice e) => ∃ l : List AV, xs = [.sl .sh l] ∧ (l.length ≤ 9223372036854775807 ∧ ∀ x ∈ l, if isAgg P e then ∃ cs, x = .agg cs ∧ Ty P n e cs else Ty P n e [x]) ∧ l.length * P.bytesOf e ≤ reachBytes
    | some (.struct fs) => Tys (Ty P n) fs.toList xs
    | _ => False
section
variable {H : Type} {enc : TypeId × Value → H} {P : Program} {w : World} {base : Nat} {held : Bool} {G : Ghost}
theorem mapM_each {α β : Type} {f : α → Option β} {l : List α} {r : List β} (h : l.mapM f = some r) : r.length = l.length ∧ ∀ i (h1 : i < l.length) (h2 : i < r.length), f l[i] = some r[i] := by
  refine ⟨mapM_some_length h, fun i h1 h2 => ?_⟩
  have := mapM_some_get h i l[i] (List.getElem?_eq_getElem h1)
  rw [this, List.getElem?_eq_getElem h2]
theorem trod_spare : ∀ (n k : Nat) (t : TypeId) (cs : List Value) (x : DataW H × List MemPlace) (sp : Nat → Bool), plainT P k t = true → DataW.trod enc P w base (fun _ => true) held n t cs = some x →
    (∀ p ∈ x.2, sp p.block = true) → DataW.trod enc P w base sp held n t cs = some x := by
  intro n
  induction n with
  | zero => intro k t cs x sp _ h; simp [DataW.trod] at h
  | succ n ih =>
    intro k t cs x sp hp h hs
    cases k with
    | zero => cases hp
    | succ k =>
      unfold plainT at hp
      unfold DataW.trod at h ⊢
      cases hu : P.underlying t with
      | none => rw [hu] at hp; cases hp
      | some d =>
        rw [hu] at hp h
        cases d with
        | bool =>
          cases cs with
          | nil => cases h
          | cons v r =>
            cases r with
            | cons v' r' => cases v <;> cases h
            | nil => cases v <;> first | exact h | cases h
        | int q =>
          cases cs with
          | nil => cases h
          | cons v r =>
            cases r with
            | cons v' r' => cases v <;> cases h
            | nil => cases v <;> first | exact h | cases h
        | float q =>
          cases cs with
          | nil => cases h
          | cons v r =>
            cases r with
            | cons v' r' => cases v <;> cases h
            | nil => cases v <;> first | exact h | cases h
        | string =>
          cases cs with
          | nil => cases h
          | cons v r =>
            cases r with
            | cons v' r' => cases v <;> cases h
            | nil => cases v <;> first | exact h | cases h
        | slice e =>
          simp only [Bool.and_eq_true, decide_eq_true_eq] at hp
          obtain ⟨⟨he, _⟩, hpe⟩ := hp
          cases cs with
          | nil => cases h
          | cons v r =>
            cases r with
            | cons v' r' => exact (by cases v <;> first | (cases h; done) | (rename_i oa len cap; cases oa <;> cases len <;> cases cap <;> cases h))
            | nil =>
              cases v with
              | slice oa len cap =>
                cases oa with
                | none => cases len <;> cases cap <;> first | exact h | cases h
                | some a =>
                  simp only at h ⊢
                  split at h
                  · rename_i hc
                    rw [if_pos hc]
                    cases he1 : (List.range len).mapM fun i => (w.cells? base (a.add (i * P.cellsOf e)) (P.cellsOf e)).bind (DataW.trod enc P w base (fun _ => true) held n e) with
                    | none => rw [he1] at h; cases h
                    | some elems =>
                      rw [he1] at h
                      simp only [Option.bind_some, if_true] at h
                      cases he2 : (List.range (cap - len)).mapM fun j => (w.cells? base (a.add ((len + j) * P.cellsOf e)) (P.cellsOf e)).bind (DataW.trod enc P w base (fun _ => true) held n e) with
                      | none => rw [he2] at h; cases h
                      | some rest =>
                        rw [he2] at h
                        simp only [Option.map_some, Option.some.injEq] at h
                        subst h
                        have one : ∀ (i : Nat) (y : DataW H × List MemPlace), y ∈ elems ++ rest → (w.cells? base (a.add (i * P.cellsOf e)) (P.cellsOf e)).bind (DataW.trod enc P w base (fun _ => true) held n e) = some y →
                            (w.cells? base (a.add (i * P.cellsOf e)) (P.cellsOf e)).bind (DataW.trod enc P w base sp held n e) = some y := by
                          intro i y hy hf
                          cases hcs : w.cells? base (a.add (i * P.cellsOf e)) (P.cellsOf e) with
                          | none => rw [hcs] at hf; cases hf
                          | some cs' =>
                            rw [hcs] at hf
                            simp only [Option.bind_some] at hf ⊢
                            exact ih k e cs' y sp hpe hf fun p hp => hs p (by
                              simp only [List.mem_append, List.mem_flatMap]
                              exact .inr ⟨y, by simpa using hy, hp⟩)
                        rw [mapM_carry he1 (fun i y _ hy hf => one i y (by simp [hy]) hf)]
                        simp only [Option.bind_some]
                        have hrest : (if sp a.block = true then (List.range (cap - len)).mapM fun j => (w.cells? base (a.add ((len + j) * P.cellsOf e)) (P.cellsOf e)).bind (DataW.trod enc P w base sp held n e) else some []) = some rest := by
                          by_cases hsp : sp a.block = true
                          · rw [if_pos hsp]
                            exact mapM_carry he2 (fun j y _ hy hf => one (len + j) y (by simp [hy]) hf)
                          · rw [if_neg hsp]
                            have hr := (mapM_each he2).1
                            rw [List.length_range] at hr
                            cases rest with
                            | nil => rfl
                            | cons r0 rs =>
                              exfalso
                              refine hsp (hs (.cell a.block (a.off + 0)) ?_)
                              simp only [List.mem_append]
                              refine .inl (MemPlace.mem_row.2 ⟨0, ?_, rfl⟩)
                              simp only [List.length_cons]
                              exact Nat.mul_pos (by omega) he
                        rw [hrest]
                        rfl
                  · cases h
              | _ => cases h
        | struct fs =>
          simp only [Bool.and_eq_true, List.all_eq_true] at hp
          simp only at h ⊢
          split at h
          · rename_i hc
            rw [if_pos hc]
            cases he : fs.toList.mapM fun f => DataW.trod enc P w base (fun _ => true) held n f.type ((cs.drop f.offset).take (P.cellsOf f.type)) with
            | none => rw [he] at h; cases h
            | some ys =>
              rw [he] at h
              simp only [Option.map_some, Option.some.injEq] at h
              subst h
              rw [mapM_carry he (fun f y hf hy hfy => ih k f.type _ y sp (hp.2 f hf) hfy fun p hp' => hs p (by simp only [List.mem_flatMap]; exact ⟨y, hy, hp'⟩))]
              rfl
          · cases h
        | _ => cases hp
theorem cells_each {a : Addr} {n : Nat} {cs : List Value} (h : w.cells? base a n = some cs) : cs.length = n ∧ ∀ j (hj : j < cs.length), w.cell? (a.add j) = some cs[j] := by
  obtain ⟨_, h1, h2⟩ := World.cells?_some h
  exact ⟨h1, fun j hj => by rw [h2 j (by omega), List.getElem?_eq_getElem hj]⟩
theorem addr_off (a : Addr) (n : Nat) : (a.add n).off = a.off + n := by unfold Addr.add; split <;> simp_all
theorem addr_block (a : Addr) (n : Nat) : (a.add n).block = a.block := by unfold Addr.add; split <;> rfl
theorem addr_add (a : Addr) (m n : Nat) : (a.add m).add n = a.add (m + n) := Addr.add_add a m n
theorem cell_spot {a : Addr} {v : Value} (h : w.cell? a = some v) : a.spot = none := by
  unfold World.cell? at h
  split at h
  · split at h
    · cases h
    · rename_i hs; simpa using hs
  · cases h
def mkE (P : Program) (e : TypeId) (xs : List AV) : AV := if isAgg P e then .agg xs else xs.headD .undef
theorem single {k : Nat} {e : TypeId} {y : AV} (h : Ty P k e [y]) (hn : isAgg P e = false) : y.cells = [y] := by
  cases k with
  | zero => cases h
  | succ k =>
    unfold Ty at h
    unfold isAgg at hn
    cases hu : P.underlying e with
    | none => rw [hu] at h; cases h
    | some d =>
      rw [hu] at h hn
      cases d with
      | bool => obtain ⟨b, hb⟩ := h; cases hb; rfl
      | int q => obtain ⟨b, hb, _⟩ := h; cases hb; rfl
      | float q =>
        cases q with
        | f32 => cases h
        | f64 =>
          obtain ⟨b, hb, _⟩ := h
          simp only [List.cons.injEq, and_true] at hb
          subst hb
          unfold fltOf; split <;> rfl
      | string => obtain ⟨b, hb, _⟩ := h; cases hb; rfl
      | slice q => obtain ⟨b, hb, _⟩ := h; cases hb; rfl
      | struct fs => cases hn
      | _ => cases h
theorem mkE_cells {k : Nat} {e : TypeId} {xs : List AV} (h : Ty P k e xs) (hx : isAgg P e = true ∨ xs.length = 1) : (mkE P e xs).cells = xs := by
  unfold mkE
  cases ha : isAgg P e with
  | true => rfl
  | false =>
    rcases hx with h1 | h1
    · rw [ha] at h1; cases h1
    · obtain ⟨y, rfl⟩ := List.length_eq_one_iff.1 h1
      exact single h ha
theorem mkE_ty {k : Nat} {e : TypeId} {xs : List AV} (h : Ty P k e xs) (hx : isAgg P e = true ∨ xs.length = 1) : if isAgg P e then ∃ cs, mkE P e xs = .agg cs ∧ Ty P k e cs else Ty P k e [mkE P e xs] := by
  unfold mkE
  cases ha : isAgg P e with
  | true => exact ⟨xs, rfl, h⟩
  | false =>
    rcases hx with h1 | h1
    · rw [ha] at h1; cases h1
    · obtain ⟨y, rfl⟩ := List.length_eq_one_iff.1 h1
      exact h
theorem tiles_le : ∀ {fs : List Field} {off tot : Nat}, tilesT P off fs tot = true → off ≤ tot
  | [], off, tot, h => by simp [tilesT] at h; omega
  | f :: fs, off, tot, h => by
    simp only [tilesT, Bool.and_eq_true] at h
    have := tiles_le h.2
    omega
theorem weights_at {ts : List TypeId} {ds : List (DataW H)} : ∀ {e : TypeId} {l : List (DataW H)}, (DataW.weightsAll P e l).all (· ≤ reachBytes) = true → ∀ (i : Nat) (h : i < l.length), (l[i].weights P e).all (· ≤ reachBytes) = true
  | e, [], _, i, h => absurd h (by simp)
  | e, d :: l, hw, 0, h => by
    simp only [DataW.weightsAll, List.all_append, Bool.and_eq_true] at hw
    exact hw.1
  | e, d :: l, hw, i + 1, h => by
    simp only [DataW.weightsAll, List.all_append, Bool.and_eq_true] at hw
    exact weights_at (ts := ts) (ds := ds) hw.2 i (by simpa using h)
theorem fields_rep {n : Nat} {R : TypeId → List AV → Prop} {cs : List Value} {tot : Nat} (hcs : cs.length = tot) : ∀ {fs : List Field} {off : Nat} {ys : List (DataW H × List MemPlace)},
    (∀ f ∈ fs, ∀ y, DataW.trod enc P w base (fun _ => true) held n f.type ((cs.drop f.offset).take (P.cellsOf f.type)) = some y → (y.1.weights P f.type).all (· ≤ reachBytes) = true →
      ∃ xs : List AV, xs.length = ((cs.drop f.offset).take (P.cellsOf f.type)).length ∧ (∀ (i : Nat) v y, ((cs.drop f.offset).take (P.cellsOf f.type))[i]? = some v → xs[i]? = some y → Rep G w v y) ∧ (∀ y ∈ xs, AV.Data y) ∧ R f.type xs) →
    tilesT P off fs tot = true → (fs.mapM fun f => DataW.trod enc P w base (fun _ => true) held n f.type ((cs.drop f.offset).take (P.cellsOf f.type))) = some ys → (DataW.weightsEach P (fs.map (·.type)) (ys.map (·.1))).all (· ≤ reachBytes) = true →
    ∃ xs : List AV, xs.length = tot - off ∧ (∀ (i : Nat) v y, cs[off + i]? = some v → xs[i]? = some y → Rep G w v y) ∧ (∀ y ∈ xs, AV.Data y) ∧ Tys R fs xs
  | [], off, ys, _, ht, _, _ => by
    simp [tilesT] at ht
    exact ⟨[], by simp; omega, fun i v y _ h => (by simp at h), fun y hy => (by cases hy), rfl⟩
  | f :: fs, off, ys, ih, ht, hm, hwt => by
    simp only [tilesT, Bool.and_eq_true, beq_iff_eq] at ht
    obtain ⟨hoff, ht⟩ := ht
    have hle := tiles_le ht
    rw [List.mapM_cons] at hm
    cases h1 : DataW.trod enc P w base (fun _ => true) held n f.type ((cs.drop f.offset).take (P.cellsOf f.type)) with
    | none => rw [h1] at hm; cases hm
    | some y =>
      rw [h1] at hm
      cases h2 : fs.mapM fun f => DataW.trod enc P w base (fun _ => true) held n f.type ((cs.drop f.offset).take (P.cellsOf f.type)) with
      | none => rw [h2] at hm; cases hm
      | some ys' =>
        rw [h2] at hm
        cases hm
        simp only [List.map_cons, DataW.weightsEach, List.all_append, Bool.and_eq_true] at hwt
        obtain ⟨a, a1, a2, a3, a4⟩ := ih f (by simp) y h1 hwt.1
        obtain ⟨b, b1, b2, b3, b4⟩ := fields_rep hcs (fun f hf => ih f (by simp [hf])) ht h2 hwt.2
        rw [List.length_take, List.length_drop, hoff] at a1
        have la : a.length = P.cellsOf f.type := by omega
        refine ⟨a ++ b, by rw [List.length_append]; omega, fun i v y hv hy => ?_, fun y hy => ?_, a, b, rfl, a4, b4⟩
        · rcases Nat.lt_or_ge i a.length with hi | hi
          · rw [List.getElem?_append_left hi] at hy
            refine a2 i v y ?_ hy
            rw [List.getElem?_take, if_pos (by omega), List.getElem?_drop, hoff]
            exact hv
          · rw [List.getElem?_append_right hi] at hy
            refine b2 (i - a.length) v y ?_ hy
            rw [← hv]; congr 1; omega
        · rcases List.mem_append.1 hy with hy | hy
          · exact a3 y hy
          · exact b3 y hy
theorem trod_rep (hG : ∀ a v, w.cell? a = some v → a.off < G.lim a.block) : ∀ (n k : Nat) (t : TypeId) (cs : List Value) (x : DataW H × List MemPlace), plainT P k t = true → DataW.trod enc P w base (fun _ => true) held n t cs = some x → (x.1.weights P t).all (· ≤ reachBytes) = true →
    ∃ xs : List AV, xs.length = cs.length ∧ (∀ (i : Nat) v y, cs[i]? = some v → xs[i]? = some y → Rep G w v y) ∧ (∀ y ∈ xs, AV.Data y) ∧ Ty P k t xs := by
  intro n
  induction n with
  | zero => intro k t cs x _ h; simp [DataW.trod] at h
  | succ n ih =>
    intro k t cs x hp h hwt
    cases k with
    | zero => cases hp
    | succ k =>
      unfold plainT at hp
      unfold DataW.trod at h
      unfold Ty
      cases hu : P.underlying t with
      | none => rw [hu] at hp; cases hp
      | some d =>
        rw [hu] at hp h
        have one : ∀ (v : Value) (y : AV), Rep G w v y → ∀ (i : Nat) v' y', [v][i]? = some v' → [y][i]? = some y' → Rep G w v' y' := fun v y hr i v' y' h1 h2 => by
          cases i with
          | zero => cases h1; cases h2; exact hr
          | succ i => cases h1
        have done : ∀ (v : Value) (y : AV), AV.Data y → Rep G w v y → ∀ z ∈ [y], AV.Data z := fun v y hd _ z hz => by
          rw [List.mem_singleton] at hz; subst hz; exact hd
        cases d with
        | bool =>
          cases cs with
          | nil => cases h
          | cons v r =>
            cases r with
            | cons v' r' => cases v <;> cases h
            | nil =>
              cases v with
              | bool b => exact ⟨[.bool b], rfl, one _ _ (.bool b), done _ _ (.bool b) (.bool (w := w) (G := G) b), b, rfl⟩
              | _ => cases h
        | int q =>
          cases cs with
          | nil => cases h
          | cons v r =>
            cases r with
            | cons v' r' => cases v <;> cases h
            | nil =>
              cases v with
              | int q' m =>
                simp only at h
                split at h
                · rename_i hc
                  obtain ⟨rfl, hw⟩ := hc
                  exact ⟨[.int q' m], rfl, one _ _ (.int q' m), done _ _ (.int q' m) (.int (w := w) (G := G) q' m), m, rfl, hw⟩
                · cases h
              | _ => cases h
        | float q =>
          cases q with
          | f32 => cases hp
          | f64 =>
          cases cs with
          | nil => cases h
          | cons v r =>
            cases r with
            | cons v' r' => cases v <;> cases h
            | nil =>
              cases v with
              | float q' m =>
                simp only at h
                split at h
                · rename_i hc
                  obtain ⟨rfl, hw⟩ := hc
                  refine ⟨[fltOf m], rfl, one _ _ (fltOf_rep m), done (.float .f64 m) _ ?_ (fltOf_rep m), m, rfl, hw⟩
                  unfold fltOf
                  split
                  · exact .nan
                  · exact .flt m
                · cases h
              | _ => cases h
        | string =>
          cases cs with
          | nil => cases h
          | cons v r =>
            cases r with
            | cons v' r' => cases v <;> cases h
            | nil =>
              cases v with
              | string b =>
                simp only at h
                split at h
                · rename_i hc
                  refine ⟨[.str b.data.toList], rfl, one _ _ (.str (w := w) (G := G) b.data.toList), done (.string b) _ (.str _) (.str (w := w) (G := G) b.data.toList), _, rfl, ?_⟩
                  exact hc
                · cases h
              | _ => cases h
        | slice e =>
          simp only [Bool.and_eq_true, decide_eq_true_eq] at hp
          obtain ⟨⟨he, hag⟩, hpe⟩ := hp
          cases cs with
          | nil => cases h
          | cons v r =>
            cases r with
            | cons v' r' => exact (by cases v <;> first | (cases h; done) | (rename_i oa len cap; cases oa <;> cases len <;> cases cap <;> cases h))
            | nil =>
              cases v with
              | slice oa len cap =>
                cases oa with
                | none =>
                  cases len with
                  | succ l => cases h
                  | zero =>
                    cases cap with
                    | succ l => cases h
                    | zero => exact ⟨[.sl .sh []], rfl, one _ _ (.sl0 none 0 .sh (fun hh => by cases hh) (fun t hh => by cases hh)), done (.slice none 0 0) _ (.sl _ _ (fun t hh => by cases hh) (fun x hx => by cases hx)) (.sl0 none 0 .sh (fun hh => by cases hh) (fun t hh => by cases hh)), [], rfl, ⟨by simp, fun x hx => by cases hx⟩, by simp⟩
                | some a =>
                  simp only at h
                  split at h
                  · rename_i hc
                    cases he1 : (List.range len).mapM fun i => (w.cells? base (a.add (i * P.cellsOf e)) (P.cellsOf e)).bind (DataW.trod enc P w base (fun _ => true) held n e) with
                    | none => rw [he1] at h; cases h
                    | some elems =>
                      obtain ⟨hl, hel⟩ := mapM_each he1
                      rw [List.length_range] at hl
                      rw [he1, Option.bind_some, Option.map_eq_some_iff] at h
                      obtain ⟨rest, -, h⟩ := h
                      subst h
                      simp only [DataW.weights, hu, List.all_cons, List.all_append, Bool.and_eq_true, decide_eq_true_eq, List.length_map] at hwt
                      have hwe := weights_at (ts := []) (ds := []) hwt.2.1
                      have each : ∀ i, ∃ p : List Value × List AV, i < len → p.1.length = P.cellsOf e ∧ (∀ j (hj : j < p.1.length), w.cell? (a.add (i * P.cellsOf e + j)) = some p.1[j]) ∧ p.2.length = P.cellsOf e ∧
                          (∀ (j : Nat) v y, p.1[j]? = some v → p.2[j]? = some y → Rep G w v y) ∧ (∀ y ∈ p.2, AV.Data y) ∧ Ty P k e p.2 := by
                        intro i
                        by_cases hi : i < len
                        · have := hel i (by simpa using hi) (by omega)
                          simp only [List.getElem_range] at this
                          cases hcs : w.cells? base (a.add (i * P.cellsOf e)) (P.cellsOf e) with
                          | none => rw [hcs] at this; cases this
                          | some row =>
                            rw [hcs] at this
                            obtain ⟨r1, r2⟩ := cells_each hcs
                            obtain ⟨xs, x1, x3, x4, x5⟩ := ih k e row _ hpe this (by have := hwe i (by rw [List.length_map]; omega); rwa [List.getElem_map] at this)
                            exact ⟨(row, xs), fun _ => ⟨r1, fun j hj => by rw [← r2 j hj, addr_add], by simp only; omega, x3, x4, x5⟩⟩
                        · exact ⟨([], []), fun hh => absurd hh hi⟩
                      obtain ⟨f, hf⟩ := Classical.axiomOfChoice each
                      have hcells : ∀ i, i < len → (mkE P e (f i).2).cells = (f i).2 := fun i hi => mkE_cells (hf i hi).2.2.2.2.2 (by
                        have := (hf i hi).2.2.1
                        rcases Bool.or_eq_true _ _ ▸ hag with h1 | h1
                        · exact .inl h1
                        · exact .inr (by rw [this]; simpa using h1))
                      have hlen : ((List.range len).map fun i => mkE P e (f i).2).length = len := by simp
                      have hget : ∀ i (hi : i < ((List.range len).map fun i => mkE P e (f i).2).length), ((List.range len).map fun i => mkE P e (f i).2)[i] = mkE P e (f i).2 := fun i hi => by simp
                      have hdat : ∀ x ∈ ((List.range len).map fun i => mkE P e (f i).2), ∀ y ∈ x.cells, AV.Data y := fun x hx y hy => by
                        obtain ⟨i, hi, rfl⟩ := List.mem_map.1 hx
                        rw [List.mem_range] at hi
                        rw [hcells i hi] at hy
                        exact (hf i hi).2.2.2.2.1 y hy
                      have hrep : Rep G w (.slice (some a) len cap) (.sl .sh ((List.range len).map fun i => mkE P e (f i).2)) := by
                        rcases Nat.eq_zero_or_pos len with h0 | h0
                        · subst h0
                          exact .sl0 (some a) cap .sh (fun hh => by cases hh) (fun t hh => by cases hh)
                        · have hs : a.spot = none := by
                            obtain ⟨r1, r2, _⟩ := hf 0 h0
                            have := r2 0 (by omega)
                            rw [show 0 * P.cellsOf e + 0 = 0 by omega] at this
                            exact cell_spot (a := a) this
                          have := Rep.sl (G := G) (w := w) a cap .sh ((List.range len).map fun i => mkE P e (f i).2) (P.cellsOf e) (fun i j => ((f i).1[j]?).getD Go.undef) (by
                              intro hh
                              have := congrArg List.length hh
                              rw [hlen] at this
                              simp at this; omega)
                            (by rw [hlen]; exact hc.2.1) hc.2.2 hs (fun i hi => by rw [hget i hi, hcells i (by omega)]; exact (hf i (by omega)).2.2.1) he hdat
                            (by
                              rw [hlen]
                              obtain ⟨r1, r2, _⟩ := hf (len - 1) (by omega)
                              have := hG _ _ (r2 (P.cellsOf e - 1) (by omega))
                              have e2 : (a.add ((len - 1) * P.cellsOf e + (P.cellsOf e - 1))).off = a.off + ((len - 1) * P.cellsOf e + (P.cellsOf e - 1)) := addr_off _ _
                              rw [e2] at this
                              have e3 : len * P.cellsOf e = (len - 1) * P.cellsOf e + P.cellsOf e := by
                                conv => lhs; rw [show len = (len - 1) + 1 by omega, Nat.add_mul, Nat.one_mul]
                              have e4 : (a.add ((len - 1) * P.cellsOf e + (P.cellsOf e - 1))).block = a.block := addr_block _ _
                              rw [e4] at this
                              omega)
                            (fun i hi j hj => by
                              rw [hlen] at hi
                              obtain ⟨r1, r2, _⟩ := hf i hi
                              have hj' : j < (f i).1.length := by omega
                              rw [r2 j hj', List.getElem?_eq_getElem hj']; rfl)
                            (fun i hi j hj => by
                              have hi' : i < len := by omega
                              obtain ⟨r1, r2, r3, r4, _⟩ := hf i hi'
                              simp only [hget i hi, hcells i hi'] at hj ⊢
                              have hj' : j < (f i).1.length := by omega
                              rw [List.getElem?_eq_getElem hj']
                              exact r4 j _ _ (List.getElem?_eq_getElem hj') (List.getElem?_eq_getElem hj))
                            (fun hh => by cases hh) (fun t hh => by cases hh)
                          rw [hlen] at this
                          exact this
                      refine ⟨_, rfl, one _ _ hrep, done _ _ (.sl _ _ (fun t hh => by cases hh) hdat) hrep, _, rfl, ⟨?_, ?_⟩, by rw [hlen, ← hl]; exact Nat.le_trans (Nat.mul_le_mul_right _ (Nat.le_add_right _ _)) hwt.1⟩
                      · rw [hlen]
                        have := hc.2.2
                        have := hc.2.1
                        have e : maxLen = 9223372036854775807 := rfl
                        omega
                      · intro x hx
                        obtain ⟨i, hi, rfl⟩ := List.mem_map.1 hx
                        rw [List.mem_range] at hi
                        exact mkE_ty (hf i hi).2.2.2.2.2 (by
                          have := (hf i hi).2.2.1
                          rcases Bool.or_eq_true _ _ ▸ hag with h1 | h1
                          · exact .inl h1
                          · exact .inr (by rw [this]; simpa using h1))
                  · cases h
              | _ => cases h
        | struct fs =>
          simp only [Bool.and_eq_true, List.all_eq_true] at hp
          simp only at h
          split at h
          · rename_i hc
            cases he : fs.toList.mapM fun f => DataW.trod enc P w base (fun _ => true) held n f.type ((cs.drop f.offset).take (P.cellsOf f.type)) with
            | none => rw [he] at h; cases h
            | some ys =>
              rw [he] at h
              simp only [Option.map_some, Option.some.injEq] at h
              subst h
              simp only [DataW.weights, hu] at hwt
              obtain ⟨xs, x1, x2, x3, x4⟩ := fields_rep (R := Ty P k) (tot := P.cellsOf t) (cs := cs) hc (fun f hf ys hy hw => ih k f.type _ ys (hp.2 f hf) hy hw) hp.1 he hwt
              exact ⟨xs, by omega, fun i v y h1 h2 => x2 i v y (by simpa using h1) h2, x3, x4⟩
          · cases h
        | _ => cases hp
def TyV (P : Program) (k : Nat) (t : TypeId) (x : AV) : Prop := if isAgg P t then ∃ cs, x = .agg cs ∧ Ty P k t cs else Ty P k t [x]
def TyAll (P : Program) (k : Nat) : List TypeId → List AV → Prop
  | [], [] => True
  | t :: ts, x :: xs => TyV P k t x ∧ TyAll P k ts xs
  | _, _ => False
theorem not_agg {k : Nat} {r : Reach} {b0 : Nat} {t : TypeId} {v : Value} (hp : plainT P k t = true) (ha : isAgg P t = false) (hval : Value.okWide P w r b0 t v) : v.cells = #[v] := by
  cases k with
  | zero => cases hp
  | succ k =>
    unfold plainT at hp
    unfold isAgg at ha
    unfold Value.okWide at hval
    cases hu : P.underlying t with
    | none => rw [hu] at hp; cases hp
    | some d =>
      rw [hu] at hp ha hval
      cases d with
      | struct fs => cases ha
      | bool => cases v <;> first | rfl | (simp [Cell.okWide, Cell.ok, hu] at hval; done)
      | int q => cases v <;> first | rfl | (simp [Cell.okWide, Cell.ok, hu] at hval; done)
      | float q => cases v <;> first | rfl | (simp [Cell.okWide, Cell.ok, hu] at hval; done)
      | string => cases v <;> first | rfl | (simp [Cell.okWide, Cell.ok, hu] at hval; done)
      | slice q => cases v <;> first | rfl | (simp [Cell.okWide, Cell.ok, hu] at hval; done)
      | _ => cases hp
theorem agg_of {r : Reach} {b0 : Nat} {t : TypeId} {v : Value} (ha : isAgg P t = true) (hval : Value.okWide P w r b0 t v) : ∃ cs, v = .agg cs := by
  unfold isAgg at ha
  unfold Value.okWide at hval
  cases hu : P.underlying t with
  | none => rw [hu] at ha; cases ha
  | some d =>
    rw [hu] at ha hval
    cases d with
    | struct fs => obtain ⟨cs, h, _⟩ := hval; exact ⟨cs, h⟩
    | _ => cases ha
theorem one_rep (hG : ∀ a v, w.cell? a = some v → a.off < G.lim a.block) {k : Nat} {r : Reach} {b0 : Nat} {t : TypeId} {v : Value} {d : DataW H} {ps : List MemPlace} (hp : plainT P k t = true) (hval : Value.okWide P w r b0 t v)
    (h : DataW.Trod enc P w base (fun _ => true) held t v d ps) (hwt : (d.weights P t).all (· ≤ reachBytes) = true) : ∃ x, Rep G w v x ∧ TyV P k t x := by
  obtain ⟨n, hn⟩ := h
  obtain ⟨xs, x1, x2, x3, x4⟩ := trod_rep hG n k t _ _ hp hn hwt
  unfold TyV
  cases ha : isAgg P t with
  | true =>
    obtain ⟨cs, rfl⟩ := agg_of ha hval
    refine ⟨.agg xs, .agg cs xs (by rw [x1]; exact Array.length_toList.symm) (fun i h1 h2 => x2 i _ _ ?_ (List.getElem?_eq_getElem h2)), xs, rfl, x4⟩
    rw [show (Value.agg cs).cells = cs from rfl, Array.getElem?_toList, Array.getElem?_eq_getElem h1]
  | false =>
    have hc := not_agg hp ha hval
    rw [hc] at x1 x2
    obtain ⟨y, rfl⟩ := List.length_eq_one_iff.1 (x1.trans rfl)
    exact ⟨y, x2 0 v y rfl rfl, x4⟩
theorem all_rep (hG : ∀ a v, w.cell? a = some v → a.off < G.lim a.block) {k : Nat} {r : Reach} {b0 : Nat} : ∀ {ts : List TypeId} {vs : List Value} {ds : List (DataW H)} {ps : List MemPlace}, ts.all (plainT P k) = true →
    (∀ (j : Nat) t v, ts[j]? = some t → vs[j]? = some v → Value.okWide P w r b0 t v) → DataW.TrodAll enc P w base (fun _ => true) held ts vs ds ps → (DataW.weightsEach P ts ds).all (· ≤ reachBytes) = true →
    ∃ xs : List AV, xs.length = vs.length ∧ (∀ (i : Nat) v y, vs[i]? = some v → xs[i]? = some y → Rep G w v y) ∧ TyAll P k ts xs
  | [], [], [], ps, _, _, _, _ => ⟨[], rfl, fun i v y h => (by simp at h), trivial⟩
  | t :: ts, v :: vs, d :: ds, ps, hp, hval, ⟨p, q, h1, h2, _⟩, hwt => by
    rw [List.all_cons, Bool.and_eq_true] at hp
    simp only [DataW.weightsEach, List.all_append, Bool.and_eq_true] at hwt
    obtain ⟨x, hx, hy⟩ := one_rep hG hp.1 (hval 0 t v rfl rfl) h1 hwt.1
    obtain ⟨xs, x1, x2, x3⟩ := all_rep hG hp.2 (fun j t v a b => hval (j + 1) t v a b) h2 hwt.2
    refine ⟨x :: xs, by simp [x1], fun i v' y' a b => ?_, hy, x3⟩
    cases i with
    | zero => cases a; cases b; exact hx
    | succ i => exact x2 i v' y' a b
  | [], [], _ :: _, _, _, _, h, _ => h.elim
  | [], _ :: _, _, _, _, _, h, _ => h.elim
  | _ :: _, [], _, _, _, _, h, _ => h.elim
  | _ :: _, _ :: _, [], _, _, _, h, _ => h.elim
theorem all_shut {w' : World} {k : Nat} {sp : Nat → Bool} (hB : Below w.heap.size w w') : ∀ {ts : List TypeId} {vs : List Value} {ds : List (DataW H)} {ps : List MemPlace}, ts.all (plainT P k) = true →
    (∀ p ∈ ps, sp p.block = true) → DataW.TrodAll enc P w base (fun _ => true) held ts vs ds ps → DataW.TrodAll enc P w' base sp held ts vs ds ps
  | [], [], [], ps, _, _, h => h
  | t :: ts, v :: vs, d :: ds, ps, hp, hs, ⟨p, q, ⟨n, h1⟩, h2, e⟩ => by
    subst e
    rw [List.all_cons, Bool.and_eq_true] at hp
    refine ⟨p, q, ⟨n, ?_⟩, all_shut hB hp.2 (fun x hx => hs x (by simp [hx])) h2, rfl⟩
    refine DataW.trod_carry n _ _ _ (trod_spare n k _ _ _ sp hp.1 h1 fun x hx => hs x (by simp [hx])) (fun x hx => hB.same (DataW.trod_lt n _ _ _ h1 x hx))
  | [], [], _ :: _, _, _, _, h => h.elim
  | [], _ :: _, _, _, _, _, h => h.elim
  | _ :: _, [], _, _, _, _, h => h.elim
  | _ :: _, _ :: _, [], _, _, _, h => h.elim
theorem all_len {sp : Nat → Bool} : ∀ {ts : List TypeId} {vs : List Value} {ds : List (DataW H)} {ps : List MemPlace}, DataW.TrodAll enc P w base sp held ts vs ds ps → vs.length = ts.length ∧ ds.length = ts.length
  | [], [], [], _, _ => ⟨rfl, rfl⟩
  | t :: ts, v :: vs, d :: ds, ps, ⟨p, q, h1, h2, e⟩ => by
    obtain ⟨a, b⟩ := all_len h2
    exact ⟨by simp [a], by simp [b]⟩
  | [], [], _ :: _, _, h => h.elim
  | [], _ :: _, _, _, h => h.elim
  | _ :: _, [], _, _, h => h.elim
  | _ :: _, _ :: _, [], _, h => h.elim
def GW (w : World) : Ghost := { lim := fun b => match w.heap[b]? with | some (.cells c _ _) => c.size | _ => 0, nb := 0, μ := fun _ => 0, nt := 0, τ := fun _ => 0, ext := fun _ => 0, cap := fun _ => 0, tes := fun _ => 0, nl := 0, ln := fun _ => 0, mc := fun _ => 0, hole := fun _ => false }
def Glob0 (P : Program) (w : World) : Prop := ∀ s ∈ globSpec, ∀ g, P.globalNamed s.1 = some g → ∃ cs e m, w.heap[g]? = some (.cells cs e m) ∧ s.2 cs
theorem glob0_none (h : (globSpec.map (fun s => s.1)).all (fun s => (P.globalNamed s).isNone) = true) (w : World) : Glob0 P w := fun s hs g hg => by
  have := List.all_eq_true.1 h s.1 (List.mem_map_of_mem hs)
  rw [hg] at this; cases this
theorem GW_heap (w : World) (hg : Glob0 P w) : HRep P (GW w) w Heap.nil :=
  ⟨fun b hb => by simp [GW, Array.getElem?_eq_none hb], rfl, rfl, rfl, fun k hk => absurd hk (by simp [Heap.nil]), fun i j hi => absurd hi.1 (by simp [GW]), fun k hk => absurd hk.1 (by simp [GW]), fun t ht => absurd ht (by simp [Heap.nil]), fun i j hi => absurd hi (by simp [GW]),
   fun k t hk => absurd hk.1 (by simp [GW]), fun l hl => absurd hl (by simp [Heap.nil]), fun i j hi => absurd hi (by simp [GW]),
   fun s hs g h => by
     obtain ⟨cs, e, m, h1, h2⟩ := hg s hs g h
     exact ⟨⟨fun k hk => absurd hk.1 (by simp [GW]), fun k hk => absurd hk (by simp [GW]), fun k hk => absurd hk (by simp [GW])⟩, cs, e, m, h1, h2⟩⟩
theorem GW_lim : ∀ a v, w.cell? a = some v → a.off < (GW w).lim a.block := by
  intro a v h
  unfold World.cell? at h
  unfold GW
  simp only
  split at h
  · rename_i c _ _ hc
    rw [hc]
    split at h
    · cases h
    · exact (Array.getElem?_eq_some_iff.1 h).1
  · cases h
theorem step_below {G : Ghost} {w w' : World} {G' : Ghost} (h : Step G w G' w') (h1 : G.nb = 0) (h2 : G.nt = 0) (h3 : G.nl = 0) : Below w.heap.size w w' :=
  ⟨h.os, h.tape, h.output, h.size, fun k hk => (h.frame k hk (fun i hi => absurd hi.1 (by omega)) (fun i hi => absurd hi (by omega)) (fun i hi => absurd hi (by omega))).1⟩
theorem post_of_below {f : Func} {s : ChangeSpec} {apart fresh handsOn again : Bool} {W W' : World} {args : Array Value} {v : Value} {ds gs : List (DataW H)} {before pa pv : List MemPlace}
    (hW : DataW.Whole enc P f.params.toList s.vars apart W args.toList ds gs before)
    (hres : ∀ (b : Nat) (sp : Nat → Bool) (hd : Bool), DataW.TrodAll enc P W' b sp hd f.resultTypes.toList (v.resultList f.resultTypes.size) (s.fn H (ds ++ gs)).results [])
    (hargs : ∀ sp : Nat → Bool, (∀ p ∈ before, sp p.block = true) → DataW.TrodAll enc P W' 0 sp true f.params.toList args.toList (s.fn H (ds ++ gs)).args pa)
    (hvars : ∀ sp : Nat → Bool, (∀ p ∈ before, sp p.block = true) → DataW.TrodVars enc P W' sp s.vars (s.fn H (ds ++ gs)).vars pv)
    (hps : before = pa ++ pv) (hb : Below W.heap.size W W')
    (hok : ∀ (j : Nat) (t : TypeId) (r : Value), f.resultTypes[j]? = some t → (v.resultList f.resultTypes.size)[j]? = some r → Value.okWide P W' .any 0 t r) :
    s.post enc P f apart fresh handsOn again W args v W' := by
  have hlt : ∀ p ∈ before, p.block < W.heap.size := fun p hp => hW.lt p hp
  have hold : ∀ p ∈ before, (fun b => decide (b < W.heap.size)) p.block = true := fun p hp => by simpa using hlt p hp
  refine ⟨ds, gs, before, [], pa, pv, hW, hres _ _ _, hargs _ hold, hvars _ hold, World.keptBut_mono (fun p hp => ⟨hp, ?_⟩) (hb.frame (· ∈ before)), fun _ => ?_⟩
  · rw [hps, List.mem_append] at hp
    exact Or.inr hp
  · obtain ⟨_, _, _, _, _, hz, hn⟩ := hW
    refine ⟨hok, _, _, ([] ++ pa) ++ pv, ⟨[] ++ pa, pv, trodAll_append (hargs _ (fun _ _ => rfl)) (hres _ _ _), hvars _ (fun _ _ => rfl), rfl, ?_, ?_⟩, ?_⟩
    · intro b off hp
      have hin : MemPlace.cell b off ∈ before := by rw [hps]; simpa using hp
      rw [hb.frozen (hlt _ hin)]
      exact hz b off hin
    · intro ha
      have := hn ha
      rw [hps] at this
      simpa using this
    · intro p hp _
      rw [hps]
      simpa using hp
end

section
variable {P : Program} {k : Nat} {t : TypeId} {x : AV} {xs : List AV}
theorem ty_bool (hu : P.underlying t = some .bool) (h : Ty P (k + 1) t xs) : ∃ b, xs = [.bool b] := by unfold Ty at h; rw [hu] at h; exact h
theorem ty_int {q : IntKind} (hu : P.underlying t = some (.int q)) (h : Ty P (k + 1) t xs) : ∃ m, xs = [.int q m] ∧ (Lit.int q m).wf = true := by unfold Ty at h; rw [hu] at h; exact h
theorem ty_string (hu : P.underlying t = some .string) (h : Ty P (k + 1) t xs) : ∃ s, xs = [.str s] ∧ s.length ≤ 9223372036854775807 := by unfold Ty at h; rw [hu] at h; exact h
theorem ty_sliceZ {e : TypeId} (hu : P.underlying t = some (.slice e)) (h : Ty P (k + 1) t xs) : ∃ l : List AV, xs = [.sl .sh l] ∧ (l.length ≤ 9223372036854775807 ∧ ∀ x ∈ l, TyV P k e x) ∧ l.length * P.bytesOf e ≤ reachBytes := by unfold Ty at h; rw [hu] at h; exact h
theorem ty_slice {e : TypeId} (hu : P.underlying t = some (.slice e)) (h : Ty P (k + 1) t xs) : ∃ l : List AV, xs = [.sl .sh l] ∧ l.length ≤ 9223372036854775807 ∧ ∀ x ∈ l, TyV P k e x := by
  obtain ⟨l, h1, h2, -⟩ := ty_sliceZ hu h
  exact ⟨l, h1, h2⟩
theorem ty_struct {fs : Array Field} (hu : P.underlying t = some (.struct fs)) (h : Ty P (k + 1) t xs) : Tys (Ty P k) fs.toList xs := by unfold Ty at h; rw [hu] at h; exact h
theorem tyv_struct {fs : Array Field} (hu : P.underlying t = some (.struct fs)) (h : TyV P (k + 1) t x) : ∃ cs, x = .agg cs ∧ Tys (Ty P k) fs.toList cs := by
  unfold TyV isAgg at h; rw [hu] at h
  obtain ⟨cs, e, hw⟩ := h
  exact ⟨cs, e, ty_struct hu hw⟩
theorem tyall_2 {a b : TypeId} (h : TyAll P k [a, b] xs) : ∃ x y, xs = [x, y] ∧ TyV P k a x ∧ TyV P k b y := by
  match xs, h with
  | [x, y], ⟨h, h2, _⟩ => exact ⟨x, y, rfl, h, h2⟩
end
end Go.Aa

set_option linter.unusedVariables false
set_option linter.unusedSimpArgs false
namespace Go.Aa
open Go.RowKit
variable {P : Program} {G G' : Ghost} {w w2 w3 : World} {H H' : Heap}
def Free (G : Ghost) (b : Nat) : Prop := G.lim b = 0 ∧ (∀ k, G.on k → b ≠ G.μ k) ∧ (∀ t, t < G.nt → b ≠ G.τ t) ∧ (∀ k, k < G.nl → b ≠ G.ln k)
theorem free_new (hH : HRep P G w H) : Free G w.heap.size :=
  ⟨hH.base _ (Nat.le_refl _), fun k hk e => by have := hH.μlt hk; omega, fun t ht e => by
    obtain ⟨_, us, u, h, _⟩ := hH.tok t (by rw [← hH.nt]; exact ht)
    rw [← e] at h
    exact absurd (Array.getElem?_eq_some_iff.1 h).1 (by omega),
   fun l hl e => by
    obtain ⟨rec, h, _⟩ := hH.loop l (by rw [← hH.nl]; exact hl)
    rw [← e] at h
    exact absurd (Array.getElem?_eq_some_iff.1 h).1 (by omega)⟩
theorem lay_step (hH : HRep P G w H) (o : Obj) : Step G w G (w.alloc o) ∧ HRep P G (w.alloc o) H := by
  have hheap : ∀ b, b < w.heap.size → (w.alloc o).heap[b]? = w.heap[b]? := fun b hb => Below.heap_alloc w o b hb
  have hsz : (w.alloc o).heap.size = w.heap.size + 1 := by simp
  have hcell : ∀ b off, off < G.lim b → (w.alloc o).cell? ⟨b, off, none⟩ = w.cell? ⟨b, off, none⟩ := fun b off h => by
    have hb : b < w.heap.size := by
      rcases Nat.lt_or_ge b w.heap.size with h1 | h1
      · exact h1
      · rw [hH.base b h1] at h; omega
    unfold World.cell?
    rw [hheap b hb]
  have hst : Step G w G (w.alloc o) :=
    ⟨rfl, rfl, rfl, by omega, fun _ => Nat.le_refl _, hcell, Nat.le_refl _, fun _ _ => rfl, fun _ _ => rfl, fun k h => .inl ⟨k, h, rfl⟩, fun _ _ => rfl, Nat.le_refl _, fun _ _ => Nat.le_refl _,
     fun _ _ _ => ⟨rfl, rfl⟩, fun _ _ => rfl, fun _ h => .inl ⟨h, rfl⟩, Nat.le_refl _, fun _ _ => rfl, fun _ h1 h2 => absurd h2 (by omega), fun b hb _ _ _ => ⟨hheap b hb, rfl⟩⟩
  refine ⟨hst, fun b hb => hH.base b (by omega), hH.nb, hH.nt, hH.nl, fun k hk hh => ?_, hH.μinj, hH.μlim, fun t ht => ?_, hH.τinj, hH.μτ, fun l hl => ?_, hH.linj, hH.glob.step hst⟩
  · obtain ⟨us, e, h, h1, h2⟩ := hH.box k hk hh
    exact ⟨us, e, by rw [hheap _ (Array.getElem?_eq_some_iff.1 h).1]; exact h, h1, fun i i1 i2 => (h2 i i1 i2).step hst⟩
  · obtain ⟨h0, us, e, h, h1⟩ := hH.tok t ht
    exact ⟨h0, us, e, by rw [hheap _ (Array.getElem?_eq_some_iff.1 h).1]; exact h, h1⟩
  · obtain ⟨rec, h, h1⟩ := hH.loop l hl
    exact ⟨rec, by rw [hheap _ (Array.getElem?_eq_some_iff.1 h).1]; exact h, h1.keep hst.keep⟩
theorem free_step {b : Nat} (hf : Free G b) (hb : b < w.heap.size) (hst : Step G w G' w2) (hlt : ∀ t, t < G.nt → G.τ t < w.heap.size) : Free G' b ∧ w2.heap[b]? = w.heap[b]? := by
  obtain ⟨h0, h1, h2, h3⟩ := hf
  obtain ⟨f1, f2⟩ := hst.frame b hb h1 h2 h3
  refine ⟨⟨by rw [f2]; exact h0, fun k hk e => ?_, fun t ht e => ?_, fun l hl e => ?_⟩, f1⟩
  · rcases hst.μnew k hk with ⟨j, hj, e2⟩ | h
    · exact h1 j hj (e.trans e2)
    · omega
  · rcases hst.τnew t ht with ⟨ht', e'⟩ | h
    · rw [e'] at e; exact h2 t ht' e
    · omega
  · rcases Nat.lt_or_ge l G.nl with hl' | hl'
    · rw [hst.ln l hl'] at e; exact h3 l hl' e
    · have := hst.lnew l hl' hl; omega
theorem poke {b : Nat} (hf : Free G' b) (hbase : Base G w) (hb : w.heap.size ≤ b) (hst : Step G w G' w2) (hH2 : HRep P G' w2 H') (hother : ∀ k, k ≠ b → w3.heap[k]? = w2.heap[k]?) (hsz : w3.heap.size = w2.heap.size)
    (hgl : Glob P G w)
    (hos : w3.os = w2.os) (htape : w3.tape = w2.tape) (hout : w3.output = w2.output) : Step G w G' w3 ∧ HRep P G' w3 H' := by
  obtain ⟨h0, h1, h2, h3⟩ := hf
  have hkeep : Keep G' w2 G' w3 :=
    ⟨fun _ => Nat.le_refl _, fun c off h => by
      have : c ≠ b := fun e => by subst e; omega
      unfold World.cell?
      rw [hother c this], Nat.le_refl _, fun _ h => h, fun _ _ => rfl, Nat.le_refl _, fun _ _ => Nat.le_refl _, fun _ _ _ => ⟨rfl, rfl⟩, fun _ _ => rfl, Nat.le_refl _, fun _ _ => rfl, fun _ _ => rfl⟩
  refine ⟨⟨hos.trans hst.os, htape.trans hst.tape, hout.trans hst.output, by rw [hsz]; exact hst.size, hst.lim, fun c off h => ?_, hst.nb, hst.hole, hst.μ, hst.μnew, hst.mc, hst.nt, hst.ext, hst.τ, hst.tes, hst.τnew, hst.nl, hst.ln, hst.lnew, fun c hc a1 a2 a3 => ?_⟩,
    fun c hc => hH2.base c (by omega), hH2.nb, hH2.nt, hH2.nl, fun k hk hh => ?_, hH2.μinj, hH2.μlim, fun t ht => ?_, hH2.τinj, hH2.μτ, fun l hl => ?_, hH2.linj, fun sp hs g hg => by
      obtain ⟨g1, cs, e, m, g4, g5⟩ := hH2.glob sp hs g hg
      obtain ⟨_, _, _, _, q4, _⟩ := hgl sp hs g hg
      have := (Array.getElem?_eq_some_iff.1 q4).1
      exact ⟨g1, cs, e, m, by rw [hother g (by omega)]; exact g4, g5⟩⟩
  · rw [← hst.cell c off h]
    exact hkeep.cell c off (Nat.lt_of_lt_of_le h (hst.lim c))
  · obtain ⟨e1, e2⟩ := hst.frame c hc a1 a2 a3
    exact ⟨by rw [hother c (by omega)]; exact e1, e2⟩
  · obtain ⟨us, e, h, g1, g2⟩ := hH2.box k hk hh
    exact ⟨us, e, by rw [hother _ (Ne.symm (h1 k ⟨by rw [hH2.nb]; exact hk, hh⟩))]; exact h, g1, fun i i1 i2 => (g2 i i1 i2).keep hkeep⟩
  · obtain ⟨g0, us, e, h, g1⟩ := hH2.tok t ht
    exact ⟨g0, us, e, by rw [hother _ (Ne.symm (h2 t (by rw [hH2.nt]; exact ht)))]; exact h, g1⟩
  · obtain ⟨rec, h, g1⟩ := hH2.loop l hl
    exact ⟨rec, by rw [hother _ (Ne.symm (h3 l (by rw [hH2.nl]; exact hl)))]; exact h, g1.keep hkeep⟩
theorem tok_lt (hH : HRep P G w H) : ∀ t, t < G.nt → G.τ t < w.heap.size := fun t ht => by
  obtain ⟨_, us, u, h, _⟩ := hH.tok t (by rw [← hH.nt]; exact ht)
  exact (Array.getElem?_eq_some_iff.1 h).1
end Go.Aa

set_option linter.unusedVariables false
set_option linter.unusedSimpArgs false
namespace Go.Aa
open Go.RowKit
variable {P : Program} {G : Ghost} {w w' : World} {H : Heap}
theorem below_step (hH : HRep P G w H) (hB : Below w.heap.size w w') : Step G w G w' ∧ HRep P G w' H := by
  have hheap : ∀ b, b < w.heap.size → w'.heap[b]? = w.heap[b]? := fun b hb => hB.block b hb
  have hcell : ∀ b off, off < G.lim b → w'.cell? ⟨b, off, none⟩ = w.cell? ⟨b, off, none⟩ := fun b off h => by
    have hb : b < w.heap.size := by
      rcases Nat.lt_or_ge b w.heap.size with h1 | h1
      · exact h1
      · rw [hH.base b h1] at h; omega
    unfold World.cell?
    rw [hheap b hb]
  have hst : Step G w G w' :=
    ⟨hB.os, hB.tape, hB.output, hB.size, fun _ => Nat.le_refl _, hcell, Nat.le_refl _, fun _ _ => rfl, fun _ _ => rfl, fun k h => .inl ⟨k, h, rfl⟩, fun _ _ => rfl, Nat.le_refl _, fun _ _ => Nat.le_refl _,
     fun _ _ _ => ⟨rfl, rfl⟩, fun _ _ => rfl, fun _ h => .inl ⟨h, rfl⟩, Nat.le_refl _, fun _ _ => rfl, fun _ h1 h2 => absurd h2 (by omega), fun b hb _ _ _ => ⟨hheap b hb, rfl⟩⟩
  refine ⟨hst, fun b hb => hH.base b (by have := hB.size; omega), hH.nb, hH.nt, hH.nl, fun k hk hh => ?_, hH.μinj, hH.μlim, fun t ht => ?_, hH.τinj, hH.μτ, fun l hl => ?_, hH.linj, hH.glob.step hst⟩
  · obtain ⟨us, e, h, h1, h2⟩ := hH.box k hk hh
    exact ⟨us, e, by rw [hheap _ (Array.getElem?_eq_some_iff.1 h).1]; exact h, h1, fun i i1 i2 => (h2 i i1 i2).step hst⟩
  · obtain ⟨h0, us, e, h, h1⟩ := hH.tok t ht
    exact ⟨h0, us, e, by rw [hheap _ (Array.getElem?_eq_some_iff.1 h).1]; exact h, h1⟩
  · obtain ⟨rec, h, h1⟩ := hH.loop l hl
    exact ⟨rec, by rw [hheap _ (Array.getElem?_eq_some_iff.1 h).1]; exact h, h1.keep hst.keep⟩
theorem args_two {vs : Array Value} {x y : AV} (h : Args G w vs [x, y]) : ∃ u v, vs = #[u, v] ∧ Rep G w u x ∧ Rep G w v y := by
  obtain ⟨h1, h2⟩ := h
  have hs : vs.size = 2 := by simpa using h1
  refine ⟨vs[0], vs[1], ?_, by simpa using h2 0 (by omega) (by simp), by simpa using h2 1 (by omega) (by simp)⟩
  apply Array.ext
  · simpa using hs
  · intro i i1 i2
    have : i = 0 ∨ i = 1 := by omega
    rcases this with rfl | rfl <;> rfl
theorem str_inv {v : Value} {s : List UInt8} (h : Rep G w v (.str s)) : v = .string ⟨s.toArray⟩ := by cases h; rfl
def Enters (P : Program) (f : FuncId) : Prop := ∀ vs w, (callFunc f vs).run P w = .ok (.enter f vs) w
def indexE (xs : List AV) (H : Heap) : Option (AV × Heap) := match xs with
  | [.str s, .str [c]] => some (.int .i64 (Lib.indexByte s c), H)
  | _ => none
def countE (xs : List AV) (H : Heap) : Option (AV × Heap) := match xs with
  | [.str s, .str [c]] => some (.int .i64 (Lib.countByte s c), H)
  | _ => none
def trimE (xs : List AV) (H : Heap) : Option (AV × Heap) := match xs with
  | [.str s, .str cs] => if s.length ≤ 9223372036854775807 ∧ cs.length < 4294967281 ∧ cs.all (fun b => decide (b.toNat < 128)) = true then some (.str (Lib.trimS s cs), H) else none
  | _ => none
def strsA : List AV → Option (List (List UInt8))
  | [] => some []
  | .str s :: xs => (strsA xs).map (s :: ·)
  | _ => none
def joinE (xs : List AV) (H : Heap) : Option (AV × Heap) := match xs with
  | [.sl k l, .str sep] => match strsA l with
    | some ss => if ss.length ≤ 140737488355328 ∧ (Lib.join ss sep).length ≤ 140737488355328 then some (.str (Lib.join ss sep), H) else none
    | none => none
  | _ => none
theorem ext_index {f : FuncId} (hf : Enters P f) (h : ∀ (s : ByteArray) (c : UInt8) (w : World), Calls P f #[.string s, .string ⟨#[c]⟩] w fun e w' => e = .returned (.int .i64 (Lib.indexByte s.data.toList c)) ∧ w' = w) : ExtOk P f indexE := by
  intro xs H v H' hg G w vs hH hargs
  unfold indexE at hg
  split at hg <;> simp only [Option.some.injEq, Prod.mk.injEq, reduceCtorEq] at hg
  rename_i s c
  obtain ⟨rfl, rfl⟩ := hg
  obtain ⟨u, u', rfl, h1, h2⟩ := args_two hargs
  cases str_inv h1
  cases str_inv h2
  refine .inl ⟨w, hf _ _, (h ⟨s.toArray⟩ c w).mono fun e w' hh => ?_, rfl⟩
  obtain ⟨rfl, rfl⟩ := hh
  exact ⟨G, .refl _ _, hH, _, rfl, .int _ _⟩
theorem ext_count {f : FuncId} (hf : Enters P f) (h : ∀ (s : ByteArray) (c : UInt8) (w : World), Calls P f #[.string s, .string ⟨#[c]⟩] w fun e w' => e = .returned (.int .i64 (Lib.countByte s.data.toList c)) ∧ w' = w) : ExtOk P f countE := by
  intro xs H v H' hg G w vs hH hargs
  unfold countE at hg
  split at hg <;> simp only [Option.some.injEq, Prod.mk.injEq, reduceCtorEq] at hg
  rename_i s c
  obtain ⟨rfl, rfl⟩ := hg
  obtain ⟨u, u', rfl, h1, h2⟩ := args_two hargs
  cases str_inv h1
  cases str_inv h2
  refine .inl ⟨w, hf _ _, (h ⟨s.toArray⟩ c w).mono fun e w' hh => ?_, rfl⟩
  obtain ⟨rfl, rfl⟩ := hh
  exact ⟨G, .refl _ _, hH, _, rfl, .int _ _⟩
theorem ext_trim {f : FuncId} (hf : Enters P f) (h : ∀ (s cutset : ByteArray) (w : World), s.size ≤ 9223372036854775807 → cutset.size < 4294967281 → (∀ (j : Nat) (b : UInt8), cutset.data.toList[j]? = some b → b.toNat < 128) →
    Calls P f #[.string s, .string cutset] w fun e w' => e = .returned (.string ⟨(Lib.trimS s.data.toList cutset.data.toList).toArray⟩) ∧ Below w.heap.size w w') : ExtOk P f trimE := by
  intro xs H v H' hg G w vs hH hargs
  unfold trimE at hg
  split at hg
  · rename_i s cs
    split at hg <;> simp only [Option.some.injEq, Prod.mk.injEq, reduceCtorEq] at hg
    rename_i hc
    obtain ⟨rfl, rfl⟩ := hg
    obtain ⟨u, u', rfl, h1, h2⟩ := args_two hargs
    cases str_inv h1
    cases str_inv h2
    refine .inl ⟨w, hf _ _, (h ⟨s.toArray⟩ ⟨cs.toArray⟩ w hc.1 hc.2.1 fun j b hb => ?_).mono fun e w' hh => ?_, rfl⟩
    · have := List.all_eq_true.1 hc.2.2 b (List.mem_of_getElem? hb)
      simpa using this
    · obtain ⟨rfl, hB⟩ := hh
      obtain ⟨s1, s2⟩ := below_step hH hB
      exact ⟨G, s1, s2, _, rfl, .str _⟩
  · cases hg
theorem strsA_inv : ∀ {l : List AV} {ss : List (List UInt8)}, strsA l = some ss → l = ss.map .str
  | [], ss, h => by simp only [strsA, Option.some.injEq] at h; subst h; rfl
  | x :: l, ss, h => by
    cases x with
    | str s =>
      simp only [strsA] at h
      cases hl : strsA l with
      | none => rw [hl] at h; cases h
      | some ss' =>
        rw [hl] at h
        simp only [Option.map_some, Option.some.injEq] at h
        subst h
        rw [strsA_inv hl]; rfl
    | _ => cases h
theorem ext_join {f : FuncId} (hf : Enters P f)
    (h0 : ∀ (a : Option Addr) (c : Nat) (sep : ByteArray) (w : World), Calls P f #[.slice a 0 c, .string sep] w fun e w' => e = .returned (.string ⟨#[]⟩) ∧ w' = w)
    (h : ∀ (bk o c : Nat) (xs : List ByteArray) (sep : ByteArray) (w : World), (∀ (j : Nat) x, xs[j]? = some x → w.cell? ⟨bk, o + j, none⟩ = some (.string x)) → bk < w.heap.size → xs.length ≤ 140737488355328 → xs.length ≤ c →
      (Lib.join (xs.map (·.data.toList)) sep.data.toList).length ≤ 140737488355328 →
      Calls P f #[.slice (some ⟨bk, o, none⟩) xs.length c, .string sep] w fun e w' => e = .returned (.string ⟨(Lib.join (xs.map (·.data.toList)) sep.data.toList).toArray⟩) ∧ Below w.heap.size w w') : ExtOk P f joinE := by
  intro xs H v H' hg G w vs hH hargs
  unfold joinE at hg
  split at hg
  · rename_i k l sep
    split at hg
    · rename_i ss hss
      split at hg <;> simp only [Option.some.injEq, Prod.mk.injEq, reduceCtorEq] at hg
      rename_i hc
      obtain ⟨rfl, rfl⟩ := hg
      obtain ⟨u, u', rfl, h1, h2⟩ := args_two hargs
      cases str_inv h2
      have hl := strsA_inv hss
      cases h1 with
      | sl0 a c _ _ _ =>
        have : ss = [] := by cases ss with | nil => rfl | cons s ss => cases hl
        subst this
        refine .inl ⟨w, hf _ _, (h0 a c ⟨sep.toArray⟩ w).mono fun e w' hh => ?_, rfl⟩
        obtain ⟨rfl, rfl⟩ := hh
        exact ⟨G, .refl _ _, hH, _, rfl, .str _⟩
      | sl a c _ _ es us hne hlc hcm hs hes he0 hd hlim hcell hrep hfull hown =>
        subst hl
        have hlen : 0 < ss.length := by cases ss with | nil => exact absurd rfl hne | cons s ss => simp
        have he1 : es = 1 := by
          have := hes 0 (by simpa using hlen)
          simp only [List.getElem_map, AV.cells, List.length_singleton] at this
          exact this.symm
        subst he1
        have hval : ∀ i (hi : i < ss.length), us i 0 = .string ⟨ss[i].toArray⟩ := fun i hi => by
          have := hrep i (by simpa using hi) 0 (by simp [AV.cells])
          simp only [List.getElem_map, AV.cells, List.getElem_cons_zero] at this
          exact str_inv this
        obtain ⟨bk, o, spot⟩ := a
        simp only at hs
        subst hs
        have hc0 : ∀ i (hi : i < ss.length), w.cell? ⟨bk, o + i, none⟩ = some (.string ⟨ss[i].toArray⟩) := fun i hi => by
          have := hcell i (by simpa using hi) 0 (by omega)
          rw [hval i hi] at this
          rw [← this]
          simp [Addr.add]
          split <;> simp_all
        have hbk : bk < w.heap.size := by
          have := hc0 0 hlen
          unfold World.cell? at this
          split at this
          · rename_i hh; exact (Array.getElem?_eq_some_iff.1 hh).1
          · cases this
        have e1 : (ss.map (fun s => (⟨s.toArray⟩ : ByteArray))).map (fun x => x.data.toList) = ss := by
          rw [List.map_map]; conv => rhs; rw [← List.map_id ss]
          exact List.map_congr_left fun s _ => rfl
        have hcall := h bk o c (ss.map fun s => ⟨s.toArray⟩) ⟨sep.toArray⟩ w (fun j x hx => by
            rw [List.getElem?_map] at hx
            cases hj : ss[j]? with
            | none => rw [hj] at hx; cases hx
            | some s =>
              rw [hj] at hx
              simp only [Option.map_some, Option.some.injEq] at hx
              subst hx
              obtain ⟨hj1, rfl⟩ := List.getElem?_eq_some_iff.1 hj
              exact hc0 j hj1) hbk (by simpa using hc.1) (by simpa using hlc) (by rw [e1]; exact hc.2)
        rw [e1] at hcall
        simp only [List.length_map] at hcall ⊢
        refine .inl ⟨w, hf _ _, hcall.mono fun e w' hh => ?_, rfl⟩
        obtain ⟨rfl, hB⟩ := hh
        obtain ⟨s1, s2⟩ := below_step hH hB
        exact ⟨G, s1, s2, _, rfl, .str _⟩
    · cases hg
  · cases hg
end Go.Aa

set_option linter.unusedVariables false
set_option linter.unusedSimpArgs false
namespace Go.Aa
open Go.RowKit
variable {P : Program} {G : Ghost} {w w' : World} {H : Heap}
def decF : Nat → Nat → List UInt8
  | 0, _ => []
  | n + 1, u => if u < 10 then [UInt8.ofNat (48 + u)] else decF n (u / 10) ++ [UInt8.ofNat (48 + u % 10)]
theorem decF_eq : ∀ (n u : Nat), u < 10 ^ n → 0 < n → decF n u = Lib.decDigits u
  | 0, _, _, h => absurd h (by omega)
  | n + 1, u, h, _ => by
    unfold decF
    rw [Lib.decDigits]
    by_cases hu : u < 10
    · rw [if_pos hu, dif_pos hu]
    · rw [if_neg hu, dif_neg hu]
      have h2 : u / 10 < 10 ^ n := by
        rw [Nat.pow_succ] at h
        exact Nat.div_lt_of_lt_mul (by rw [Nat.mul_comm]; exact h)
      have hn : 0 < n := by
        rcases Nat.eq_zero_or_pos n with rfl | h3
        · simp only [Nat.pow_zero] at h2; omega
        · exact h3
      rw [decF_eq n (u / 10) h2 hn]
def itoaF (n : Int) : List UInt8 := if n < 0 then 45 :: decF 20 n.natAbs else decF 20 n.toNat
theorem itoaF_eq {n : Int} (h0 : -9223372036854775808 ≤ n) (h1 : n ≤ 9223372036854775807) : itoaF n = Lib.itoa n := by
  unfold itoaF Lib.itoa
  have e : (10 : Nat) ^ 20 = 100000000000000000000 := by decide
  split
  · rw [decF_eq 20 _ (by rw [e]; omega) (by decide)]
  · rw [decF_eq 20 _ (by rw [e]; omega) (by decide)]
def itoaE (xs : List AV) (H : Heap) : Option (AV × Heap) := match xs with
  | [.int k n] => if k = .i64 ∧ -9223372036854775808 ≤ n ∧ n ≤ 9223372036854775807 then some (.str (itoaF n), H) else none
  | _ => none
def fmtE (xs : List AV) (H : Heap) : Option (AV × Heap) := match xs with
  | [.int k n, .int k2 b] => if k = .i64 ∧ k2 = .i64 ∧ b = 10 ∧ -9223372036854775808 ≤ n ∧ n ≤ 9223372036854775807 then some (.str (itoaF n), H) else none
  | _ => none
def cmpE (xs : List AV) (H : Heap) : Option (AV × Heap) := match xs with
  | [.str a, .str b] => some (.int .i64 (Lib.compareBytes a b), H)
  | _ => none
def parseE (T : TypeId) (xs : List AV) (H : Heap) : Option (AV × Heap) := match xs with
  | [.str s, .int k b, .int k2 z] => if k = .i64 ∧ k2 = .i64 ∧ b = 10 ∧ z = 64 ∧ s.length ≤ 281474976710656 then (match Lib.parseIntB 64 s with
    | .ok v => some (.tuple [.int .i64 v, .nilIface], H)
    | Lib.NumEnd.syntax => some (.tuple [.int .i64 0, .iface T .undef], H)
    | Lib.NumEnd.range => some (.tuple [.int .i64 (Lib.intSat 64 s), .iface T .undef], H)) else none
  | _ => none
theorem args_one {az : AV} {vs : Array Value} (h : Args G w vs [az]) : ∃ v, vs = #[v] ∧ Rep G w v az := by
  obtain ⟨hs, h2⟩ := h
  simp only [List.length_cons, List.length_nil] at hs
  refine ⟨vs[0], ?_, by simpa using h2 0 (by omega) (by simp)⟩
  apply Array.ext
  · simpa using hs
  · intro i i1 i2
    have : i = 0 := by omega
    subst this; rfl
theorem args_three {a b c : AV} {vs : Array Value} (h : Args G w vs [a, b, c]) : ∃ x y z, vs = #[x, y, z] ∧ Rep G w x a ∧ Rep G w y b ∧ Rep G w z c := by
  obtain ⟨hs, h2⟩ := h
  simp only [List.length_cons, List.length_nil] at hs
  refine ⟨vs[0], vs[1], vs[2], ?_, by simpa using h2 0 (by omega) (by simp), by simpa using h2 1 (by omega) (by simp), by simpa using h2 2 (by omega) (by simp)⟩
  apply Array.ext
  · simpa using hs
  · intro i i1 i2
    have : i = 0 ∨ i = 1 ∨ i = 2 := by omega
    rcases this with rfl | rfl | rfl <;> rfl
theorem int_inv {v : Value} {k : IntKind} {n : Int} (h : Rep G w v (.int k n)) : v = .int k n := by cases h; rfl
theorem glob_var (hH : HRep P G w H) {s : String × (Array Value → Prop)} (hs : s ∈ globSpec) {g : Nat} (hg : P.globalNamed s.1 = some g) : ∃ cs, w.var? P s.1 = some cs ∧ s.2 cs := by
  obtain ⟨_, cs, e, m, h1, h2⟩ := hH.glob s hs g hg
  refine ⟨cs, ?_, h2⟩
  simp only [World.var?, hg, Option.bind_some, h1]
theorem glob_tab (hH : HRep P G w H) {g : Nat} (hg : P.globalNamed "internal/strconv.uint64pow10" = some g) : Lib.TabIs P w "internal/strconv.uint64pow10" .u64 Lib.pow10Tab := by
  obtain ⟨cs, h1, h2⟩ := glob_var hH (s := ("internal/strconv.uint64pow10", _)) (by unfold globSpec; exact List.mem_cons_self ..) hg
  unfold Lib.TabIs
  rw [h1]; simp only at h2; rw [h2]
theorem glob_syntax (hH : HRep P G w H) {g : Nat} (hg : P.globalNamed "strconv.ErrSyntax" = some g) : ∃ tp p, w.var? P "strconv.ErrSyntax" = some #[.iface tp p] := by
  obtain ⟨cs, h1, tp, p, h2⟩ := glob_var hH (s := ("strconv.ErrSyntax", _)) (by unfold globSpec; exact List.mem_cons_of_mem _ (List.mem_cons_self ..)) hg
  exact ⟨tp, p, by rw [h1, h2]⟩
theorem glob_range (hH : HRep P G w H) {g : Nat} (hg : P.globalNamed "strconv.ErrRange" = some g) : ∃ tp p, w.var? P "strconv.ErrRange" = some #[.iface tp p] := by
  obtain ⟨cs, h1, tp, p, h2⟩ := glob_var hH (s := ("strconv.ErrRange", _)) (by unfold globSpec; exact List.mem_cons_of_mem _ (List.mem_cons_of_mem _ (List.mem_cons_self ..))) hg
  exact ⟨tp, p, by rw [h1, h2]⟩
theorem ext_itoa {f : FuncId} (hf : Enters P f) {g : Nat} (hg : P.globalNamed "internal/strconv.uint64pow10" = some g)
    (h : ∀ (n : Int) (w : World), -9223372036854775808 ≤ n → n ≤ 9223372036854775807 → Lib.TabIs P w "internal/strconv.uint64pow10" .u64 Lib.pow10Tab → Calls P f #[.int .i64 n] w fun e w' => e = .returned (.string ⟨(Lib.itoa n).toArray⟩) ∧ Below w.heap.size w w') : ExtOk P f itoaE := by
  intro xs H v H' hv G w vs hH hargs
  unfold itoaE at hv
  split at hv
  · rename_i k n
    split at hv <;> simp only [Option.some.injEq, Prod.mk.injEq, reduceCtorEq] at hv
    rename_i hc
    obtain ⟨rfl, c1, c2⟩ := hc
    obtain ⟨rfl, rfl⟩ := hv
    obtain ⟨u, rfl, h1⟩ := args_one hargs
    cases int_inv h1
    refine .inl ⟨w, hf _ _, (h n w c1 c2 (glob_tab hH hg)).mono fun e w' hh => ?_, rfl⟩
    obtain ⟨rfl, hB⟩ := hh
    obtain ⟨s1, s2⟩ := below_step hH hB
    exact ⟨G, s1, s2, _, rfl, by rw [itoaF_eq c1 c2]; exact .str _⟩
  · cases hv
theorem ext_fmt {f : FuncId} (hf : Enters P f) {g : Nat} (hg : P.globalNamed "internal/strconv.uint64pow10" = some g)
    (h : ∀ (n : Int) (w : World), -9223372036854775808 ≤ n → n ≤ 9223372036854775807 → Lib.TabIs P w "internal/strconv.uint64pow10" .u64 Lib.pow10Tab → Calls P f #[.int .i64 n, .int .i64 10] w fun e w' => e = .returned (.string ⟨(Lib.itoa n).toArray⟩) ∧ Below w.heap.size w w') : ExtOk P f fmtE := by
  intro xs H v H' hv G w vs hH hargs
  unfold fmtE at hv
  split at hv
  · rename_i k n k2 b
    split at hv <;> simp only [Option.some.injEq, Prod.mk.injEq, reduceCtorEq] at hv
    rename_i hc
    obtain ⟨rfl, rfl, rfl, c1, c2⟩ := hc
    obtain ⟨rfl, rfl⟩ := hv
    obtain ⟨u, u', rfl, h1, h2⟩ := args_two hargs
    cases int_inv h1
    cases int_inv h2
    refine .inl ⟨w, hf _ _, (h n w c1 c2 (glob_tab hH hg)).mono fun e w' hh => ?_, rfl⟩
    obtain ⟨rfl, hB⟩ := hh
    obtain ⟨s1, s2⟩ := below_step hH hB
    exact ⟨G, s1, s2, _, rfl, by rw [itoaF_eq c1 c2]; exact .str _⟩
  · cases hv
theorem ext_cmp {f : FuncId} (hf : Enters P f) (h : ∀ (a b : ByteArray) (w : World), Calls P f #[.string a, .string b] w fun e w' => e = .returned (.int .i64 (Lib.compareBytes a.data.toList b.data.toList)) ∧ w' = w) : ExtOk P f cmpE := by
  intro xs H v H' hg G w vs hH hargs
  unfold cmpE at hg
  split at hg <;> simp only [Option.some.injEq, Prod.mk.injEq, reduceCtorEq] at hg
  rename_i a b
  obtain ⟨rfl, rfl⟩ := hg
  obtain ⟨u, u', rfl, h1, h2⟩ := args_two hargs
  cases str_inv h1
  cases str_inv h2
  refine .inl ⟨w, hf _ _, (h ⟨a.toArray⟩ ⟨b.toArray⟩ w).mono fun e w' hh => ?_, rfl⟩
  obtain ⟨rfl, rfl⟩ := hh
  exact ⟨G, .refl _ _, hH, _, rfl, .int _ _⟩
theorem rep_pair {a : Int} {t : TypeId} {v : Value} : Rep G w (.tuple #[.int .i64 a, .iface t v]) (.tuple [.int .i64 a, .iface t .undef]) :=
  .tuple _ _ rfl (fun i h1 h2 => by
    have : i = 0 ∨ i = 1 := by simp at h1; omega
    rcases this with rfl | rfl
    · exact .int _ _
    · exact .iface _ _ _ (.undef _))
theorem ext_parse {f : FuncId} {T : TypeId} (hf : Enters P f) {g1 g2 : Nat} (hg1 : P.globalNamed "strconv.ErrSyntax" = some g1) (hg2 : P.globalNamed "strconv.ErrRange" = some g2)
    (h : ∀ (s : ByteArray) (v : Int) (w : World), s.size ≤ 281474976710656 → Lib.parseIntB 64 s.data.toList = .ok v → Calls P f #[.string s, .int .i64 10, .int .i64 64] w fun e w' => e = .returned (.tuple #[.int .i64 v, .nilIface]) ∧ Below w.heap.size w w')
    (hS : ∀ (s : ByteArray) (w : World) tp p, s.size ≤ 281474976710656 → Lib.parseIntB 64 s.data.toList = Lib.NumEnd.syntax → w.var? P "strconv.ErrSyntax" = some #[.iface tp p] → Calls P f #[.string s, .int .i64 10, .int .i64 64] w fun e w' => ∃ p, e = .returned (.tuple #[.int .i64 0, .iface T p]) ∧ Below w.heap.size w w')
    (hR : ∀ (s : ByteArray) (w : World) tp p, s.size ≤ 281474976710656 → Lib.parseIntB 64 s.data.toList = Lib.NumEnd.range → w.var? P "strconv.ErrRange" = some #[.iface tp p] → Calls P f #[.string s, .int .i64 10, .int .i64 64] w fun e w' => ∃ p, e = .returned (.tuple #[.int .i64 (Lib.intSat 64 s.data.toList), .iface T p]) ∧ Below w.heap.size w w') : ExtOk P f (parseE T) := by
  intro xs H v H' hv G w vs hH hargs
  unfold parseE at hv
  split at hv
  · rename_i s k b k2 z
    split at hv
    · rename_i hc
      obtain ⟨rfl, rfl, rfl, rfl, c1⟩ := hc
      obtain ⟨u, u', u'', rfl, h1, h2, h3⟩ := args_three hargs
      cases str_inv h1
      cases int_inv h2
      cases int_inv h3
      have hz : (⟨s.toArray⟩ : ByteArray).size ≤ 281474976710656 := by simpa [ByteArray.size] using c1
      split at hv <;> simp only [Option.some.injEq, Prod.mk.injEq] at hv <;> obtain ⟨rfl, rfl⟩ := hv
      · rename_i v he
        refine .inl ⟨w, hf _ _, (h ⟨s.toArray⟩ v w hz (by simpa using he)).mono fun e w' hh => ?_, rfl⟩
        obtain ⟨rfl, hB⟩ := hh
        obtain ⟨s1, s2⟩ := below_step hH hB
        exact ⟨G, s1, s2, _, rfl, .tuple _ _ rfl (fun i h1 h2 => by
          have : i = 0 ∨ i = 1 := by simp at h1; omega
          rcases this with rfl | rfl
          · exact .int _ _
          · exact .nilIface)⟩
      · rename_i he
        obtain ⟨tp, p, hvar⟩ := glob_syntax hH hg1
        refine .inl ⟨w, hf _ _, (hS ⟨s.toArray⟩ w tp p hz (by simpa using he) hvar).mono fun e w' hh => ?_, rfl⟩
        obtain ⟨q, rfl, hB⟩ := hh
        obtain ⟨s1, s2⟩ := below_step hH hB
        exact ⟨G, s1, s2, _, rfl, rep_pair⟩
      · rename_i he
        obtain ⟨tp, p, hvar⟩ := glob_range hH hg2
        refine .inl ⟨w, hf _ _, (hR ⟨s.toArray⟩ w tp p hz (by simpa using he) hvar).mono fun e w' hh => ?_, rfl⟩
        obtain ⟨q, rfl, hB⟩ := hh
        obtain ⟨s1, s2⟩ := below_step hH hB
        exact ⟨G, s1, s2, _, rfl, rep_pair⟩
    · cases hv
  · cases hv
end Go.Aa

set_option linter.unusedVariables false
set_option linter.unusedSimpArgs false
namespace Go.Aa
open Go.RowKit Go.ChangeShapes Go.WideShapes Go.ChangeAt
section
variable {H : Type} {enc : TypeId × Value → H} {P : Program} {w : World} {base : Nat} {sp : Nat → Bool} {held : Bool} {G : Ghost}
theorem mapM_len {α β : Type} {f : α → Option β} : ∀ {l : List α} {r : List β}, l.mapM f = some r → r.length = l.length
  | [], r, h => by cases h; rfl
  | x :: l, r, h => by
    rw [List.mapM_cons] at h
    cases hx : f x with
    | none => rw [hx] at h; cases h
    | some y =>
      cases hl : l.mapM f with
      | none => rw [hx, hl] at h; cases h
      | some ys =>
        rw [hx, hl] at h
        cases h
        simp [mapM_len hl]
theorem slice_sz {t e : TypeId} {v : Value} {d : DataW H} {ps : List MemPlace} {l : List AV} {k : SK} (hu : P.underlying t = some (.slice e)) (hr : Rep G w v (.sl k l)) (ht : DataW.Trod enc P w base sp held t v d ps)
    (hw : (d.weights P t).all (· ≤ reachBytes) = true) : l.length * P.bytesOf e ≤ reachBytes := by
  cases hr with
  | sl0 => simp
  | sl a c _ _ es us hl hc hcm hs hes he0 hd hlim hcell hrep hfull hown =>
    obtain ⟨fuel, h⟩ := ht
    cases fuel with
    | zero => cases h
    | succ fuel =>
      simp only [DataW.trod, hu, Value.cells] at h
      split at h
      · cases he : (List.range l.length).mapM (fun i => (w.cells? base (a.add (i * P.cellsOf e)) (P.cellsOf e)).bind (DataW.trod enc P w base sp held fuel e)) with
        | none => rw [he] at h; cases h
        | some elems =>
          rw [he, Option.bind_some, Option.map_eq_some_iff] at h
          obtain ⟨rest, -, h⟩ := h
          cases h
          have e1 : elems.length = l.length := by rw [mapM_len he, List.length_range]
          simp only [DataW.weights, hu, List.all_cons, Bool.and_eq_true, decide_eq_true_eq, List.length_map] at hw
          have := hw.1
          rw [e1] at this
          exact Nat.le_trans (Nat.mul_le_mul_right _ (Nat.le_add_right _ _)) this
      · cases h
theorem str_sz {t : TypeId} {v : Value} {d : DataW H} {ps : List MemPlace} {s : List UInt8} (hu : P.underlying t = some .string) (hr : Rep G w v (.str s)) (ht : DataW.Trod enc P w base sp held t v d ps)
    (hw : (d.weights P t).all (· ≤ reachBytes) = true) : s.length ≤ reachBytes := by
  cases hr with
  | str s =>
    obtain ⟨fuel, h⟩ := ht
    cases fuel with
    | zero => cases h
    | succ fuel =>
      simp only [DataW.trod, hu, Value.cells] at h
      split at h
      · cases h
        simpa [DataW.weights] using hw
      · cases h
def Sz1 (P : Program) (t : TypeId) (x : AV) : Prop := (∀ e k l, P.underlying t = some (.slice e) → x = .sl k l → l.length * P.bytesOf e ≤ reachBytes) ∧ (∀ s, P.underlying t = some .string → x = .str s → s.length ≤ reachBytes)
def SzAll (P : Program) : List TypeId → List AV → Prop
  | t :: ts, x :: xs => Sz1 P t x ∧ SzAll P ts xs
  | _, _ => True
theorem all_sz : ∀ {ts us : List TypeId} {vs : List Value} {ds gs : List (DataW H)} {ps : List MemPlace} {xs : List AV}, DataW.TrodAll enc P w base sp held ts vs ds ps → (DataW.weightsEach P (ts ++ us) (ds ++ gs)).all (· ≤ reachBytes) = true →
    (∀ (i : Nat) v y, vs[i]? = some v → xs[i]? = some y → Rep G w v y) → SzAll P ts xs
  | [], _, _, _, _, _, _, _, _, _ => by unfold SzAll; trivial
  | t :: ts, us, [], ds, gs, ps, xs, h, _, _ => h.elim
  | t :: ts, us, v :: vs, [], gs, ps, xs, h, _, _ => h.elim
  | t :: ts, us, v :: vs, d :: ds, gs, ps, [], _, _, _ => by unfold SzAll; trivial
  | t :: ts, us, v :: vs, d :: ds, gs, ps, x :: xs, ⟨p, q, h1, h2, _⟩, hw, hr => by
    simp only [List.cons_append, DataW.weightsEach, List.all_append, Bool.and_eq_true] at hw
    refine ⟨⟨fun e k l hu hx => ?_, fun s hu hx => ?_⟩, all_sz h2 hw.2 (fun i v y a b => hr (i + 1) v y a b)⟩
    · subst hx; exact slice_sz hu (hr 0 _ _ rfl rfl) h1 hw.1
    · subst hx; exact str_sz hu (hr 0 _ _ rfl rfl) h1 hw.1
theorem weights_left : ∀ {ts us : List TypeId} {ds gs : List (DataW H)}, (DataW.weightsEach P (ts ++ us) (ds ++ gs)).all (· ≤ reachBytes) = true → (DataW.weightsEach P ts ds).all (· ≤ reachBytes) = true
  | [], _, _, _, _ => by simp [DataW.weightsEach]
  | _ :: _, _, [], _, _ => by simp [DataW.weightsEach]
  | t :: ts, us, d :: ds, gs, h => by
    simp only [List.cons_append, DataW.weightsEach, List.all_append, Bool.and_eq_true] at h ⊢
    exact ⟨h.1, weights_left h.2⟩
theorem law_rowZ {cfg : Cfg} (hcfg : CfgOk P cfg) {f : FuncId} (hF : (cfg.F f).isSome = true) (hx : cfg.ext f = none) (ht : cfg.tryF f = false) {fn : Func} {s : ChangeSpec} {k : Nat} {tb : TypeId} {apart fresh handsOn again : Bool}
    (hpl : fn.params.toList.all (plainT P k) = true) (hrt : fn.resultTypes = #[tb]) (hb : P.underlying tb = some .bool) (hsv : s.vars = [])
    (hfn : ∀ ds : List (DataW H), ds.length = fn.params.toList.length → s.fn H ds = { results := [.lit (.bool true)], args := ds })
    (hlaw : ∀ xs, TyAll P k fn.params.toList xs → SzAll P fn.params.toList xs → ∃ H', lim cfg (.fn f) xs Heap.nil = some (.ret (.bool true), H'))
    {W : World} {base : Nat} {args : Array Value} {ds gs : List (DataW H)} {before : List MemPlace}
    (hval : ∀ (j : Nat) t v, fn.params[j]? = some t → args[j]? = some v → Value.okWide P W .any base t v)
    (hW : DataW.Whole enc P fn.params.toList s.vars apart W args.toList ds gs before) (hwt : (DataW.weightsEach P (fn.params.toList ++ s.plain.varTypes P) (ds ++ gs)).all (· ≤ reachBytes) = true)
    (hg : Glob0 P W := by exact glob0_none (by kernel_rfl) W) :
    Calls P f args W fun e W' => ∃ v, e = .returned v ∧ s.post enc P fn apart fresh handsOn again W args v W' := by
  have hW' := hW
  obtain ⟨p, q, hA, hV, rfl, hfz, hnd⟩ := hW
  rw [hsv] at hV
  obtain ⟨rfl, rfl⟩ := trodVars_none hV
  rw [List.append_nil] at hW'
  obtain ⟨xs, x1, x2, x3⟩ := all_rep (G := GW W) GW_lim hpl (fun j t v a b => hval j t v (by simpa using a) (by simpa using b)) hA (weights_left hwt)
  obtain ⟨H', hl⟩ := hlaw xs x3 (all_sz hA hwt x2)
  obtain ⟨n, hn⟩ := lim_iff.1 hl
  refine (calls_of hcfg hn hF hx ht (GW_heap W hg) ⟨by rw [x1]; simp, fun i h1 h2 => x2 i _ _ (by simp [h1]) (List.getElem?_eq_getElem h2)⟩).mono fun e W' ⟨u, G', he, hst, hr⟩ => ?_
  cases hr
  have hB := step_below hst rfl rfl rfl
  obtain ⟨l1, l2⟩ := all_len hA
  have hfn' := hfn ds l2
  refine ⟨_, he, post_of_below (pa := p) (pv := []) hW' ?_ ?_ ?_ (by simp) hB ?_⟩
  · intro b sp hd
    rw [List.append_nil, hfn', hrt]
    exact trodAll_mk1 (shut_bool hb _)
  · intro sp hsp
    rw [List.append_nil, hfn']
    exact all_shut hB hpl hsp hA
  · intro sp hsp
    rw [List.append_nil, hfn', hsv]
    rfl
  · exact ok_one hrt rfl (okWide_bool_mk hb _)
end
end Go.Aa

set_option linter.unusedVariables false
set_option maxRecDepth 100000
namespace Go.Aa.T
open Go.Aa
def extF : Nat → Option (List AV → Heap → Option (AV × Heap))
  | 190 => some trimE
  | 101 => some joinE
  | 194 => some indexE
  | 225 => some indexE
  | 193 => some countE
  | 69 => some itoaE
  | 163 => some fmtE
  | 176 => some cmpE
  | 197 => some (parseE 313)
  | _ => none
def isTry (f : Nat) : Bool := f == 91
def cfg : Cfg := { F := tabF, ext := extF, tryF := isTry, stopT := 216 }
def okR : Option (ARes × Heap) → Bool
  | some (.ret (.bool b), _) => b
  | _ => false
theorem known30 : okR (callN cfg 3000 (.fn 30) [] Heap.nil) = true := by kernel_rfl
theorem known_ret30 : ∃ H', lim cfg (.fn 30) [] Heap.nil = some (.ret (.bool true), H') := by
  have h := known30
  unfold okR at h
  split at h
  · rename_i b H' hc
    subst h
    exact ⟨H', lim_of hc⟩
  · cases h
theorem l6 (xs : List AV) (H : Heap) : lim cfg (.fn 6) xs H = runL cfg a6 [.c c6] (initEnv xs) H := lim_fn rfl rfl rfl xs H
theorem l31 (xs : List AV) (H : Heap) : lim cfg (.fn 31) xs H = runL cfg a31 [.c c31] (initEnv xs) H := lim_fn rfl rfl rfl xs H
theorem l32 (xs : List AV) (H : Heap) : lim cfg (.fn 32) xs H = runL cfg a32 [.c c32] (initEnv xs) H := lim_fn rfl rfl rfl xs H
theorem l33 (xs : List AV) (H : Heap) : lim cfg (.fn 33) xs H = runL cfg a33 [.c c33] (initEnv xs) H := lim_fn rfl rfl rfl xs H
theorem l34 (xs : List AV) (H : Heap) : lim cfg (.fn 34) xs H = runL cfg a34 [.c c34] (initEnv xs) H := lim_fn rfl rfl rfl xs H
theorem l35 (xs : List AV) (H : Heap) : lim cfg (.fn 35) xs H = runL cfg a35 [.c c35] (initEnv xs) H := lim_fn rfl rfl rfl xs H
theorem l36 (xs : List AV) (H : Heap) : lim cfg (.fn 36) xs H = runL cfg a36 [.c c36] (initEnv xs) H := lim_fn rfl rfl rfl xs H
theorem l37 (xs : List AV) (H : Heap) : lim cfg (.fn 37) xs H = runL cfg a37 [.c c37] (initEnv xs) H := lim_fn rfl rfl rfl xs H
theorem l38 (xs : List AV) (H : Heap) : lim cfg (.fn 38) xs H = runL cfg a38 [.c c38] (initEnv xs) H := lim_fn rfl rfl rfl xs H
theorem l39 (xs : List AV) (H : Heap) : lim cfg (.fn 39) xs H = runL cfg a39 [.c c39] (initEnv xs) H := lim_fn rfl rfl rfl xs H
theorem l59 (xs : List AV) (H : Heap) : lim cfg (.fn 59) xs H = runL cfg a59 [.c c59] (initEnv xs) H := lim_fn rfl rfl rfl xs H
theorem l60 (xs : List AV) (H : Heap) : lim cfg (.fn 60) xs H = runL cfg a60 [.c c60] (initEnv xs) H := lim_fn rfl rfl rfl xs H
theorem l71 (xs : List AV) (H : Heap) : lim cfg (.fn 71) xs H = runL cfg a71 [.c c71] (initEnv xs) H := lim_fn rfl rfl rfl xs H
theorem l72 (xs : List AV) (H : Heap) : lim cfg (.fn 72) xs H = runL cfg a72 [.c c72] (initEnv xs) H := lim_fn rfl rfl rfl xs H
theorem l73 (xs : List AV) (H : Heap) : lim cfg (.fn 73) xs H = runL cfg a73 [.c c73] (initEnv xs) H := lim_fn rfl rfl rfl xs H
theorem l74 (xs : List AV) (H : Heap) : lim cfg (.fn 74) xs H = runL cfg a74 [.c c74] (initEnv xs) H := lim_fn rfl rfl rfl xs H
theorem l75 (xs : List AV) (H : Heap) : lim cfg (.fn 75) xs H = runL cfg a75 [.c c75] (initEnv xs) H := lim_fn rfl rfl rfl xs H
theorem l76 (xs : List AV) (H : Heap) : lim cfg (.fn 76) xs H = runL cfg a76 [.c c76] (initEnv xs) H := lim_fn rfl rfl rfl xs H
theorem l77 (xs : List AV) (H : Heap) : lim cfg (.fn 77) xs H = runL cfg a77 [.c c77] (initEnv xs) H := lim_fn rfl rfl rfl xs H
theorem l78 (xs : List AV) (H : Heap) : lim cfg (.fn 78) xs H = runL cfg a78 [.c c78] (initEnv xs) H := lim_fn rfl rfl rfl xs H
theorem l79 (xs : List AV) (H : Heap) : lim cfg (.fn 79) xs H = runL cfg a79 [.c c79] (initEnv xs) H := lim_fn rfl rfl rfl xs H
theorem l80 (xs : List AV) (H : Heap) : lim cfg (.fn 80) xs H = runL cfg a80 [.c c80] (initEnv xs) H := lim_fn rfl rfl rfl xs H
theorem l81 (xs : List AV) (H : Heap) : lim cfg (.fn 81) xs H = runL cfg a81 [.c c81] (initEnv xs) H := lim_fn rfl rfl rfl xs H
theorem l82 (xs : List AV) (H : Heap) : lim cfg (.fn 82) xs H = runL cfg a82 [.c c82] (initEnv xs) H := lim_fn rfl rfl rfl xs H
theorem l83 (xs : List AV) (H : Heap) : lim cfg (.fn 83) xs H = runL cfg a83 [.c c83] (initEnv xs) H := lim_fn rfl rfl rfl xs H
theorem l84 (xs : List AV) (H : Heap) : lim cfg (.fn 84) xs H = runL cfg a84 [.c c84] (initEnv xs) H := lim_fn rfl rfl rfl xs H
theorem l85 (xs : List AV) (H : Heap) : lim cfg (.fn 85) xs H = runL cfg a85 [.c c85] (initEnv xs) H := lim_fn rfl rfl rfl xs H
theorem l86 (xs : List AV) (H : Heap) : lim cfg (.fn 86) xs H = runL cfg a86 [.c c86] (initEnv xs) H := lim_fn rfl rfl rfl xs H
theorem l87 (xs : List AV) (H : Heap) : lim cfg (.fn 87) xs H = runL cfg a87 [.c c87] (initEnv xs) H := lim_fn rfl rfl rfl xs H
theorem l88 (xs : List AV) (H : Heap) : lim cfg (.fn 88) xs H = runL cfg a88 [.c c88] (initEnv xs) H := lim_fn rfl rfl rfl xs H
theorem l89 (xs : List AV) (H : Heap) : lim cfg (.fn 89) xs H = runL cfg a89 [.c c89] (initEnv xs) H := lim_fn rfl rfl rfl xs H
theorem l90 (xs : List AV) (H : Heap) : lim cfg (.fn 90) xs H = runL cfg a90 [.c c90] (initEnv xs) H := lim_fn rfl rfl rfl xs H
theorem l92 (xs : List AV) (H : Heap) : lim cfg (.fn 92) xs H = runL cfg a92 [.c c92] (initEnv xs) H := lim_fn rfl rfl rfl xs H
theorem l93 (xs : List AV) (H : Heap) : lim cfg (.fn 93) xs H = runL cfg a93 [.c c93] (initEnv xs) H := lim_fn rfl rfl rfl xs H
theorem l94 (xs : List AV) (H : Heap) : lim cfg (.fn 94) xs H = runL cfg a94 [.c c94] (initEnv xs) H := lim_fn rfl rfl rfl xs H
theorem l95 (xs : List AV) (H : Heap) : lim cfg (.fn 95) xs H = runL cfg a95 [.c c95] (initEnv xs) H := lim_fn rfl rfl rfl xs H
theorem l96 (xs : List AV) (H : Heap) : lim cfg (.fn 96) xs H = runL cfg a96 [.c c96] (initEnv xs) H := lim_fn rfl rfl rfl xs H
theorem l97 (xs : List AV) (H : Heap) : lim cfg (.fn 97) xs H = runL cfg a97 [.c c97] (initEnv xs) H := lim_fn rfl rfl rfl xs H
theorem l98 (xs : List AV) (H : Heap) : lim cfg (.fn 98) xs H = runL cfg a98 [.c c98] (initEnv xs) H := lim_fn rfl rfl rfl xs H
theorem l99 (xs : List AV) (H : Heap) : lim cfg (.fn 99) xs H = runL cfg a99 [.c c99] (initEnv xs) H := lim_fn rfl rfl rfl xs H
theorem l100 (xs : List AV) (H : Heap) : lim cfg (.fn 100) xs H = runL cfg a100 [.c c100] (initEnv xs) H := lim_fn rfl rfl rfl xs H
theorem l102 (xs : List AV) (H : Heap) : lim cfg (.fn 102) xs H = runL cfg a102 [.c c102] (initEnv xs) H := lim_fn rfl rfl rfl xs H
theorem l103 (xs : List AV) (H : Heap) : lim cfg (.fn 103) xs H = runL cfg a103 [.c c103] (initEnv xs) H := lim_fn rfl rfl rfl xs H
theorem l104 (xs : List AV) (H : Heap) : lim cfg (.fn 104) xs H = runL cfg a104 [.c c104] (initEnv xs) H := lim_fn rfl rfl rfl xs H
theorem l105 (xs : List AV) (H : Heap) : lim cfg (.fn 105) xs H = runL cfg a105 [.c c105] (initEnv xs) H := lim_fn rfl rfl rfl xs H
theorem l106 (xs : List AV) (H : Heap) : lim cfg (.fn 106) xs H = runL cfg a106 [.c c106] (initEnv xs) H := lim_fn rfl rfl rfl xs H
theorem l107 (xs : List AV) (H : Heap) : lim cfg (.fn 107) xs H = runL cfg a107 [.c c107] (initEnv xs) H := lim_fn rfl rfl rfl xs H
theorem l142 (xs : List AV) (H : Heap) : lim cfg (.fn 142) xs H = runL cfg a142 [.c c142] (initEnv xs) H := lim_fn rfl rfl rfl xs H
theorem l143 (xs : List AV) (H : Heap) : lim cfg (.fn 143) xs H = runL cfg a143 [.c c143] (initEnv xs) H := lim_fn rfl rfl rfl xs H
theorem l144 (xs : List AV) (H : Heap) : lim cfg (.fn 144) xs H = runL cfg a144 [.c c144] (initEnv xs) H := lim_fn rfl rfl rfl xs H
theorem l145 (xs : List AV) (H : Heap) : lim cfg (.fn 145) xs H = runL cfg a145 [.c c145] (initEnv xs) H := lim_fn rfl rfl rfl xs H
theorem l146 (xs : List AV) (H : Heap) : lim cfg (.fn 146) xs H = runL cfg a146 [.c c146] (initEnv xs) H := lim_fn rfl rfl rfl xs H
theorem l148 (xs : List AV) (H : Heap) : lim cfg (.fn 148) xs H = runL cfg a148 [.c c148] (initEnv xs) H := lim_fn rfl rfl rfl xs H
theorem l149 (xs : List AV) (H : Heap) : lim cfg (.fn 149) xs H = runL cfg a149 [.c c149] (initEnv xs) H := lim_fn rfl rfl rfl xs H
theorem l150 (xs : List AV) (H : Heap) : lim cfg (.fn 150) xs H = runL cfg a150 [.c c150] (initEnv xs) H := lim_fn rfl rfl rfl xs H
theorem l151 (xs : List AV) (H : Heap) : lim cfg (.fn 151) xs H = runL cfg a151 [.c c151] (initEnv xs) H := lim_fn rfl rfl rfl xs H
theorem l152 (xs : List AV) (H : Heap) : lim cfg (.fn 152) xs H = runL cfg a152 [.c c152] (initEnv xs) H := lim_fn rfl rfl rfl xs H
theorem l153 (xs : List AV) (H : Heap) : lim cfg (.fn 153) xs H = runL cfg a153 [.c c153] (initEnv xs) H := lim_fn rfl rfl rfl xs H
theorem l154 (xs : List AV) (H : Heap) : lim cfg (.fn 154) xs H = runL cfg a154 [.c c154] (initEnv xs) H := lim_fn rfl rfl rfl xs H
theorem l155 (xs : List AV) (H : Heap) : lim cfg (.fn 155) xs H = runL cfg a155 [.c c155] (initEnv xs) H := lim_fn rfl rfl rfl xs H
theorem l156 (xs : List AV) (H : Heap) : lim cfg (.fn 156) xs H = runL cfg a156 [.c c156] (initEnv xs) H := lim_fn rfl rfl rfl xs H
theorem l157 (xs : List AV) (H : Heap) : lim cfg (.fn 157) xs H = runL cfg a157 [.c c157] (initEnv xs) H := lim_fn rfl rfl rfl xs H
theorem l158 (xs : List AV) (H : Heap) : lim cfg (.fn 158) xs H = runL cfg a158 [.c c158] (initEnv xs) H := lim_fn rfl rfl rfl xs H
theorem l159 (xs : List AV) (H : Heap) : lim cfg (.fn 159) xs H = runL cfg a159 [.c c159] (initEnv xs) H := lim_fn rfl rfl rfl xs H
theorem l164 (xs : List AV) (H : Heap) : lim cfg (.fn 164) xs H = runL cfg a164 [.c c164] (initEnv xs) H := lim_fn rfl rfl rfl xs H
theorem l165 (xs : List AV) (H : Heap) : lim cfg (.fn 165) xs H = runL cfg a165 [.c c165] (initEnv xs) H := lim_fn rfl rfl rfl xs H
theorem l166 (xs : List AV) (H : Heap) : lim cfg (.fn 166) xs H = runL cfg a166 [.c c166] (initEnv xs) H := lim_fn rfl rfl rfl xs H
theorem l167 (xs : List AV) (H : Heap) : lim cfg (.fn 167) xs H = runL cfg a167 [.c c167] (initEnv xs) H := lim_fn rfl rfl rfl xs H
theorem l191 (xs : List AV) (H : Heap) : lim cfg (.fn 191) xs H = runL cfg a191 [.c c191] (initEnv xs) H := lim_fn rfl rfl rfl xs H
theorem l195 (xs : List AV) (H : Heap) : lim cfg (.fn 195) xs H = runL cfg a195 [.c c195] (initEnv xs) H := lim_fn rfl rfl rfl xs H
theorem l196 (xs : List AV) (H : Heap) : lim cfg (.fn 196) xs H = runL cfg a196 [.c c196] (initEnv xs) H := lim_fn rfl rfl rfl xs H
theorem l198 (xs : List AV) (H : Heap) : lim cfg (.fn 198) xs H = runL cfg a198 [.c c198] (initEnv xs) H := lim_fn rfl rfl rfl xs H
theorem l199 (xs : List AV) (H : Heap) : lim cfg (.fn 199) xs H = runL cfg a199 [.c c199] (initEnv xs) H := lim_fn rfl rfl rfl xs H
theorem l200 (xs : List AV) (H : Heap) : lim cfg (.fn 200) xs H = runL cfg a200 [.c c200] (initEnv xs) H := lim_fn rfl rfl rfl xs H
theorem l226 (xs : List AV) (H : Heap) : lim cfg (.fn 226) xs H = runL cfg a226 [.c c226] (initEnv xs) H := lim_fn rfl rfl rfl xs H
theorem l229 (xs : List AV) (H : Heap) : lim cfg (.fn 229) xs H = runL cfg a229 [.c c229] (initEnv xs) H := lim_fn rfl rfl rfl xs H
end Go.Aa.T

set_option linter.unusedVariables false
set_option linter.unusedSimpArgs false
set_option maxRecDepth 100000
namespace Go.Proofs.YtppplbpilpjokaaGreatDoor
open Go.RowKit
open Go.Aa
theorem T.catch_idle (p : Addr) (w : World) :
    CallsD Tryz.prog 147 #[.pointer (some p)] .returning w fun e u' w' => e = .returned (.tuple #[]) ∧ u' = .returning ∧ w' = w := by
  refine callsD_of_wpS Tryz.func147 rfl fun c₀ cs hu => ?_
  apply wpS_seq
  apply wpS_region
  simp [wpOpsS, go_sem, recoverD, hu, Tryz.ntmps147, Exit.thenS]
  refine wpS_of_wp ?_
  go_wp2
  cases c₀
  simp_all [bodyPostS, results, Tryz.results147]
theorem T.hta (v : Value) (w : World) : (Instr.typeAssert (.iface 216 v) 20 216 true).run Tryz.prog w = .ok (.tuple #[v, .bool true]) w := by kernel_rfl
set_option maxHeartbeats 4000000 in
theorem T.catch_stop (b : Nat) (x : Int) (n : Int) (older : List PanicEntry) (w : World) (hlt : b < w.heap.size) (hne : ¬ w.heap.size = b) (hne' : ¬ b = w.heap.size) (hc : w.cell? ⟨b, 0, none⟩ = some (.int .i64 x)) (hz : w.frozen? ⟨b, 0, none⟩ = false) :
    CallsD Tryz.prog 147 #[.pointer (some ⟨b, 0, none⟩)] (.panicking ({ v := .iface 216 (.agg #[.int .i64 n]), recovered := false } :: older)) w fun e u' w' =>
      e = .returned (.tuple #[]) ∧ u' = .panicking ({ v := .iface 216 (.agg #[.int .i64 n]), recovered := true } :: older) ∧ w' = (w.setCell ⟨b, 0, none⟩ (.int .i64 n)).alloc (.cells #[.int .i64 n] 216) := by
  have hta := T.hta
  have hz0 : ∀ w : World, (zeroValue 216).run Tryz.prog w = .ok (.agg #[.int .i64 0]) w := fun _ => by kernel_rfl
  have hsz : Tryz.prog.cellsOf 216 = 1 := by kernel_rfl
  have hag : ∀ w : World, (isAgg 216).run Tryz.prog w = .ok true w := fun _ => by kernel_rfl
  refine callsD_of_wpS Tryz.func147 rfl fun c₀ cs hu => ?_
  apply wpS_seq
  apply wpS_region
  simp [wpOpsS, go_sem, recoverD, hu, Tryz.ntmps147, Exit.thenS]
  refine wpS_of_wp ?_
  go_wp2
  cases c₀
  simp_all [bodyPostS, results, Tryz.results147]
theorem T.try_ok {call : CallF} (hcs : CallSound Tryz.prog call) {g : FuncId} {caps : List AV} {H H' : Heap} {r : ARes} (hr : tryA (call (.fn g) caps H) 216 = some (r, H')) {G : Ghost} {w : World} {us : Array Value} (hH : HRep Tryz.prog G w H) (hargs : Args G w us caps) :
    Calls Tryz.prog 91 #[.func (.func g) #[] us] w (PostOk Tryz.prog G w r H') := by
  have hmf : ∀ (fn : Fn) (first cap : Array Value) (w : World), (Instr.makeFunc fn first cap).run Tryz.prog w = .ok (.func fn first cap) w := fun _ _ _ _ => rfl
  obtain ⟨st1, hH1⟩ := lay_step hH (.cells #[.int .i64 0] 41)
  have hlt := tok_lt hH1
  have hfree := free_new hH
  have hsz : (w.alloc (.cells #[.int .i64 0] 41)).heap.size = w.heap.size + 1 := by simp
  have hb0 : (w.alloc (.cells #[.int .i64 0] 41)).heap[w.heap.size]? = some (.cells #[.int .i64 0] 41 (0, 0)) := World.alloc_heap_new w _
  have hcall : ∃ r1 H1, call (.fn g) caps H = some (r1, H1) ∧ ((∃ v, r1 = .ret v ∧ r = .ret (.int .i64 0) ∧ H1 = H') ∨ (∃ n, r1 = .pan (.iface 216 (.agg [.int .i64 n])) ∧ r = .ret (.int .i64 n) ∧ H1 = H')) := by
    cases hcc : call (.fn g) caps H with
    | none => rw [hcc] at hr; cases hr
    | some x =>
      obtain ⟨r1, H1⟩ := x
      rw [hcc] at hr
      cases r1 with
      | ret v =>
        simp only [tryA, Option.some.injEq, Prod.mk.injEq] at hr
        exact ⟨_, _, rfl, .inl ⟨v, rfl, hr.1.symm, hr.2⟩⟩
      | pan v =>
        unfold tryA at hr
        split at hr
        · rename_i h; cases h
        · rename_i h
          split at hr
          · rename_i ht
            subst ht
            simp only [Option.some.injEq, Prod.mk.injEq] at hr
            simp only [Option.some.injEq, Prod.mk.injEq, ARes.pan.injEq] at h
            obtain ⟨rfl, rfl⟩ := h
            exact ⟨_, _, rfl, .inr ⟨_, rfl, hr.1.symm, hr.2⟩⟩
          · cases hr
        · cases hr
  obtain ⟨r1, H1, hc, hend⟩ := hcall
  have hco := hcs.fn g caps H r1 H1 hc G _ us hH1 (hargs.step st1)
  go_enter_defers Tryz.func91, Tryz.ntmps91
  go_wp2
  rcases hco with ⟨_, hrun, hcalls, _⟩ | ⟨u, w', hrun, hpost⟩
  · rw [hrun]
    simp only [Oper.upon]
    refine hcalls.mono ?_
    rintro e w2 ⟨G2, st2, hH2, hend2⟩
    obtain ⟨hfree2, hb2⟩ := free_step hfree (by rw [hsz]; omega) st2 hlt
    rw [hb0] at hb2
    have hc2 : w2.cell? ⟨w.heap.size, 0, none⟩ = some (.int .i64 0) := by simp [World.cell?, hb2]
    have hz2 : w2.frozen? ⟨w.heap.size, 0, none⟩ = false := by simp [World.frozen?, hb2]
    have pk : ∀ n : Int, Step G w G2 (w2.setCell ⟨w.heap.size, 0, none⟩ (.int .i64 n)) ∧ HRep Tryz.prog G2 (w2.setCell ⟨w.heap.size, 0, none⟩ (.int .i64 n)) H1 := fun n =>
      poke hfree2 hH.base (Nat.le_refl _) (st1.trans st2) hH2 (fun k hk => Below.heap_setCell _ _ _ k hk) (by simp) hH.glob rfl rfl rfl
    rcases hend with ⟨v, rfl, rfl, rfl⟩ | ⟨n, rfl, rfl, rfl⟩
    · obtain ⟨u, rfl, hu⟩ := hend2
      simp only
      apply ‹∀ (a : Act) (w : World), wpList _ _ _ _ a w → _›
      go_wp2
      refine leaves_cons (f := 147) (args := #[.pointer (some ⟨w.heap.size, 0, none⟩)]) (by simp) (by simp [go_sem]) ?_
      refine (T.catch_idle _ _).mono ?_
      rintro e u' w'' ⟨rfl, rfl, rfl⟩
      have hc3 : (w2.setCell ⟨w.heap.size, 0, none⟩ (.int .i64 0)).cell? ⟨w.heap.size, 0, none⟩ = some (.int .i64 0) := by first | exact World.cell?_setCell_same _ hc2 | exact World.cell?_setCell_same _ _ hc2 | exact World.cell?_setCell_same _ _ _ hc2
      simp [Leaves, settle, results, Tryz.results91, go_sem, hc3]
      exact ⟨G2, (pk 0).1, (pk 0).2, _, rfl, .int _ _⟩
    · obtain ⟨u, rfl, hu⟩ := hend2
      have hu' : u = .iface 216 (.agg #[.int .i64 n]) := by
        cases hu with
        | iface _ v _ hv =>
          cases hv with
          | agg us _ hn hv =>
            have h0 : us.size = 1 := hn
            have h1 := hv 0 (by omega) (by simp)
            have e : us = #[us[0]] := Array.ext (by simpa using h0) (fun i i1 i2 => by
              have : i = 0 := by omega
              subst this; rfl)
            rw [List.getElem_cons_zero] at h1
            generalize us[0] = y at h1 e
            cases h1
            rw [e]
      subst hu'
      have hb3 : w.heap.size < w2.heap.size := (Array.getElem?_eq_some_iff.1 hb2).1
      simp only [Exit.then]
      refine leaves_cons (f := 147) (args := #[.pointer (some ⟨w.heap.size, 0, none⟩)]) (by simp) (by simp [go_sem]) ?_
      refine (T.catch_stop w.heap.size 0 n [] w2 hb3 (by omega) (by omega) hc2 hz2).mono ?_
      rintro e u' w'' ⟨rfl, rfl, rfl⟩
      have hc3 : ((w2.setCell ⟨w.heap.size, 0, none⟩ (.int .i64 n)).alloc (.cells #[.int .i64 n] 216)).cell? ⟨w.heap.size, 0, none⟩ = some (.int .i64 n) := by
        have e1 := Below.heap_alloc (w2.setCell ⟨w.heap.size, 0, none⟩ (.int .i64 n)) (.cells #[.int .i64 n] 216) w.heap.size (by simpa using hb3)
        have c : (w2.setCell ⟨w.heap.size, 0, none⟩ (.int .i64 n)).cell? ⟨w.heap.size, 0, none⟩ = some (.int .i64 n) := by first | exact World.cell?_setCell_same _ hc2 | exact World.cell?_setCell_same _ _ hc2 | exact World.cell?_setCell_same _ _ _ hc2
        unfold World.cell? at c ⊢
        rw [e1]; exact c
      simp [Leaves, settle, results, Tryz.results91, go_sem, hc3]
      obtain ⟨s3, h3⟩ := pk n
      obtain ⟨s4, h4⟩ := lay_step h3 (.cells #[.int .i64 n] 216)
      exact ⟨G2, s3.trans s4, h4, _, rfl, .int _ _⟩
  · rw [hrun]
    simp only [Oper.upon]
    obtain ⟨G2, st2, hH2, hend2⟩ := hpost
    obtain ⟨hfree2, hb2⟩ := free_step hfree (by rw [hsz]; omega) st2 hlt
    rw [hb0] at hb2
    have hc2 : w'.cell? ⟨w.heap.size, 0, none⟩ = some (.int .i64 0) := by simp [World.cell?, hb2]
    have hz2 : w'.frozen? ⟨w.heap.size, 0, none⟩ = false := by simp [World.frozen?, hb2]
    have pk : ∀ n : Int, Step G w G2 (w'.setCell ⟨w.heap.size, 0, none⟩ (.int .i64 n)) ∧ HRep Tryz.prog G2 (w'.setCell ⟨w.heap.size, 0, none⟩ (.int .i64 n)) H1 := fun n =>
      poke hfree2 hH.base (Nat.le_refl _) (st1.trans st2) hH2 (fun k hk => Below.heap_setCell _ _ _ k hk) (by simp) hH.glob rfl rfl rfl
    rcases hend with ⟨v, rfl, rfl, rfl⟩ | ⟨n, rfl, rfl, rfl⟩
    · obtain ⟨u', hu', hu⟩ := hend2
      apply ‹∀ (a : Act) (w : World), wpList _ _ _ _ a w → _›
      go_wp2
      refine leaves_cons (f := 147) (args := #[.pointer (some ⟨w.heap.size, 0, none⟩)]) (by simp) (by simp [go_sem]) ?_
      refine (T.catch_idle _ _).mono ?_
      rintro e u' w'' ⟨rfl, rfl, rfl⟩
      have hc3 : (w'.setCell ⟨w.heap.size, 0, none⟩ (.int .i64 0)).cell? ⟨w.heap.size, 0, none⟩ = some (.int .i64 0) := by first | exact World.cell?_setCell_same _ hc2 | exact World.cell?_setCell_same _ _ hc2 | exact World.cell?_setCell_same _ _ _ hc2
      simp [Leaves, settle, results, Tryz.results91, go_sem, hc3]
      exact ⟨G2, (pk 0).1, (pk 0).2, _, rfl, .int _ _⟩
    · obtain ⟨u', hu', hu⟩ := hend2
      cases hu'
theorem T.tryOk : TryOk Tryz.prog 91 216 := by
  intro call hcs g caps H r H' hr G w vs hH hargs
  obtain ⟨h1, h2⟩ := hargs
  have hs : vs.size = 1 := h1
  have e : vs = #[vs[0]] := Array.ext (by simpa using hs) (fun i i1 i2 => by
    have : i = 0 := by omega
    subst this; rfl)
  have hv := h2 0 (by omega) (by simp)
  rw [List.getElem_cons_zero] at hv
  generalize vs[0] = y at hv e
  subst e
  cases hv with
  | func _ us _ hn hu => exact .inl ⟨w, by kernel_rfl, T.try_ok hcs hr hH ⟨hn, hu⟩, rfl⟩
#print axioms T.tryOk
end Go.Proofs.YtppplbpilpjokaaGreatDoor

namespace Go.Proofs
open Go.Shelf
def Tryz.lays160_ren : Go.Shelf.Ren := ⟨fun | 160 => 190 | 232 => 216 | 231 => 215 | 227 => 217 | 234 => 219 | 233 => 218 | 236 => 221 | 235 => 220 | 228 => 240 | 271 => 242 | 151 => 241 | 197 => 223 | 120 => 256 | 152 => 255 | 260 => 243 | 137 => 263 | 119 => 264 | 224 => 246 | 225 => 245 | 217 => 244 | 266 => 257 | n => n, fun | 9 => 9 | 4 => 4 | 3 => 3 | 5 => 5 | 117 => 290 | 116 => 289 | 0 => 0 | 124 => 293 | 21 => 21 | 105 => 294 | 46 => 306 | 119 => 318 | 139 => 321 | 138 => 320 | n => n, fun | 3 => 2 | 4 => 3 | n => n⟩
theorem Tryz.lays160 : Go.Proofs.Lays.n160 Tryz.prog Tryz.lays160_ren := {
  mixed := by kernel_rfl
  f119 := Tryz.func264.trans (congrArg some (by kernel_rfl))
  f120 := Tryz.func256.trans (congrArg some (by kernel_rfl))
  f137 := Tryz.func263.trans (congrArg some (by kernel_rfl))
  f151 := Tryz.func241.trans (congrArg some (by kernel_rfl))
  f152 := Tryz.func255.trans (congrArg some (by kernel_rfl))
  f160 := Tryz.func190.trans (congrArg some (by kernel_rfl))
  f197 := Tryz.func223.trans (congrArg some (by kernel_rfl))
  f217 := Tryz.func244.trans (congrArg some (by kernel_rfl))
  f224 := Tryz.func246.trans (congrArg some (by kernel_rfl))
  f225 := Tryz.func245.trans (congrArg some (by kernel_rfl))
  f227 := Tryz.func217.trans (congrArg some (by kernel_rfl))
  f228 := Tryz.func240.trans (congrArg some (by kernel_rfl))
  f231 := Tryz.func215.trans (congrArg some (by kernel_rfl))
  f232 := Tryz.func216.trans (congrArg some (by kernel_rfl))
  f233 := Tryz.func218.trans (congrArg some (by kernel_rfl))
  f234 := Tryz.func219.trans (congrArg some (by kernel_rfl))
  f235 := Tryz.func220.trans (congrArg some (by kernel_rfl))
  f236 := Tryz.func221.trans (congrArg some (by kernel_rfl))
  f260 := Tryz.func243.trans (congrArg some (by kernel_rfl))
  f266 := Tryz.func257.trans (congrArg some (by kernel_rfl))
  f271 := Tryz.func242.trans (congrArg some (by kernel_rfl))
  t0 := Tryz.underlying0
  a0 := Tryz.isAgg0
  z0 := Tryz.sizeOf0
  v0 := Tryz.zeroValue0
  t3 := Tryz.underlying3
  a3 := Tryz.isAgg3
  z3 := Tryz.sizeOf3
  v3 := Tryz.zeroValue3
  t4 := Tryz.underlying4
  a4 := Tryz.isAgg4
  z4 := Tryz.sizeOf4
  v4 := Tryz.zeroValue4
  t5 := Tryz.underlying5
  a5 := Tryz.isAgg5
  z5 := Tryz.sizeOf5
  v5 := Tryz.zeroValue5
  t9 := Tryz.underlying9
  a9 := Tryz.isAgg9
  z9 := Tryz.sizeOf9
  v9 := Tryz.zeroValue9
  t21 := Tryz.underlying21
  a21 := Tryz.isAgg21
  z21 := Tryz.sizeOf21
  v21 := Tryz.zeroValue21
  t46 := Tryz.underlying306
  a46 := Tryz.isAgg306
  z46 := Tryz.sizeOf306
  v46 := Tryz.zeroValue306
  t105 := Tryz.underlying294
  a105 := Tryz.isAgg294
  z105 := Tryz.sizeOf294
  v105 := Tryz.zeroValue294
  t116 := Tryz.underlying289
  a116 := Tryz.isAgg289
  z116 := Tryz.sizeOf289
  t117 := Tryz.underlying290
  a117 := Tryz.isAgg290
  z117 := Tryz.sizeOf290
  v117 := Tryz.zeroValue290
  t119 := Tryz.underlying318
  a119 := Tryz.isAgg318
  z119 := Tryz.sizeOf318
  t124 := Tryz.underlying293
  a124 := Tryz.isAgg293
  z124 := Tryz.sizeOf293
  v124 := Tryz.zeroValue293
  t138 := Tryz.underlying320
  a138 := Tryz.isAgg320
  z138 := Tryz.sizeOf320
  v138 := Tryz.zeroValue320
  t139 := Tryz.underlying321
  a139 := Tryz.isAgg321
  z139 := Tryz.sizeOf321
  v139 := Tryz.zeroValue321
  g3 := by kernel_rfl
  g4 := by kernel_rfl }
def Tryz.lays156_ren : Go.Shelf.Ren := ⟨fun | 156 => 101 | 165 => 160 | 166 => 161 | 169 => 162 | 240 => 201 | 241 => 202 | 276 => 230 | 277 => 231 | n => n, fun | 31 => 57 | 9 => 9 | 3 => 3 | 4 => 4 | 0 => 0 | 20 => 20 | 72 => 235 | 76 => 239 | 70 => 233 | 37 => 62 | 75 => 238 | 127 => 274 | 164 => 298 | 5 => 5 | 80 => 241 | n => n, fun | n => n⟩
theorem Tryz.lays156 : Go.Proofs.Lays.n156 Tryz.prog Tryz.lays156_ren := {
  mixed := by kernel_rfl
  f156 := Tryz.func101.trans (congrArg some (by kernel_rfl))
  f165 := Tryz.func160.trans (congrArg some (by kernel_rfl))
  f166 := Tryz.func161.trans (congrArg some (by kernel_rfl))
  f169 := Tryz.func162.trans (congrArg some (by kernel_rfl))
  f240 := Tryz.func201.trans (congrArg some (by kernel_rfl))
  f241 := Tryz.func202.trans (congrArg some (by kernel_rfl))
  f276 := Tryz.func230.trans (congrArg some (by kernel_rfl))
  f277 := Tryz.func231.trans (congrArg some (by kernel_rfl))
  t0 := Tryz.underlying0
  a0 := Tryz.isAgg0
  z0 := Tryz.sizeOf0
  v0 := Tryz.zeroValue0
  t3 := Tryz.underlying3
  a3 := Tryz.isAgg3
  z3 := Tryz.sizeOf3
  v3 := Tryz.zeroValue3
  t4 := Tryz.underlying4
  a4 := Tryz.isAgg4
  z4 := Tryz.sizeOf4
  v4 := Tryz.zeroValue4
  t9 := Tryz.underlying9
  a9 := Tryz.isAgg9
  z9 := Tryz.sizeOf9
  v9 := Tryz.zeroValue9
  t20 := Tryz.underlying20
  a20 := Tryz.isAgg20
  z20 := Tryz.sizeOf20
  v20 := Tryz.zeroValue20
  t31 := Tryz.underlying57
  a31 := Tryz.isAgg57
  z31 := Tryz.sizeOf57
  v31 := Tryz.zeroValue57
  t37 := Tryz.underlying62
  a37 := Tryz.isAgg62
  z37 := Tryz.sizeOf62
  v37 := Tryz.zeroValue62
  t70 := Tryz.underlying233
  a70 := Tryz.isAgg233
  z70 := Tryz.sizeOf233
  v70 := Tryz.zeroValue233
  t72 := Tryz.underlying235
  a72 := Tryz.isAgg235
  z72 := Tryz.sizeOf235
  v72 := Tryz.zeroValue235
  t75 := Tryz.underlying238
  a75 := Tryz.isAgg238
  z75 := Tryz.sizeOf238
  v75 := Tryz.zeroValue238
  t76 := Tryz.underlying239
  a76 := Tryz.isAgg239
  z76 := Tryz.sizeOf239
  v76 := Tryz.zeroValue239
  t127 := Tryz.underlying274
  a127 := Tryz.isAgg274
  z127 := Tryz.sizeOf274
  v127 := Tryz.zeroValue274
  t164 := Tryz.underlying298
  a164 := Tryz.isAgg298
  z164 := Tryz.sizeOf298
  v164 := Tryz.zeroValue298 }
theorem Tryz.Builder_Extra_156 : Builder.Extra Tryz.prog Tryz.lays156_ren := {
  sizeBuilder := by kernel_rfl
  liesBuilder := by kernel_rfl
  t5 := Tryz.underlying5
  a5 := Tryz.isAgg5
  z5 := Tryz.sizeOf5
  v5 := Tryz.zeroValue5
  infoByte := by kernel_rfl
  cellsByte := by kernel_rfl
  sizeByte := by kernel_rfl
  neB5 := by decide }
def Tryz.lays143_ren : Go.Shelf.Ren := ⟨fun | 143 => 194 | 219 => 225 | 217 => 244 | 225 => 245 | 224 => 246 | 267 => 247 | 266 => 257 | 314 => 258 | n => n, fun | 9 => 9 | 3 => 3 | 4 => 4 | 5 => 5 | 46 => 306 | 146 => 322 | 51 => 304 | n => n, fun | 1 => 0 | n => n⟩
theorem Tryz.lays143 : Go.Proofs.Lays.n143 Tryz.prog Tryz.lays143_ren := {
  mixed := by kernel_rfl
  f143 := Tryz.func194.trans (congrArg some (by kernel_rfl))
  f217 := Tryz.func244.trans (congrArg some (by kernel_rfl))
  f219 := Tryz.func225.trans (congrArg some (by kernel_rfl))
  f224 := Tryz.func246.trans (congrArg some (by kernel_rfl))
  f225 := Tryz.func245.trans (congrArg some (by kernel_rfl))
  f266 := Tryz.func257.trans (congrArg some (by kernel_rfl))
  f267 := Tryz.func247.trans (congrArg some (by kernel_rfl))
  f314 := Tryz.func258.trans (congrArg some (by kernel_rfl))
  t3 := Tryz.underlying3
  a3 := Tryz.isAgg3
  z3 := Tryz.sizeOf3
  v3 := Tryz.zeroValue3
  t4 := Tryz.underlying4
  a4 := Tryz.isAgg4
  z4 := Tryz.sizeOf4
  v4 := Tryz.zeroValue4
  t5 := Tryz.underlying5
  a5 := Tryz.isAgg5
  z5 := Tryz.sizeOf5
  v5 := Tryz.zeroValue5
  t9 := Tryz.underlying9
  a9 := Tryz.isAgg9
  z9 := Tryz.sizeOf9
  v9 := Tryz.zeroValue9
  t46 := Tryz.underlying306
  a46 := Tryz.isAgg306
  z46 := Tryz.sizeOf306
  v46 := Tryz.zeroValue306
  t51 := Tryz.underlying304
  a51 := Tryz.isAgg304
  z51 := Tryz.sizeOf304
  v51 := Tryz.zeroValue304
  t146 := Tryz.underlying322
  a146 := Tryz.isAgg322
  z146 := Tryz.sizeOf322
  v146 := Tryz.zeroValue322
  g1 := by kernel_rfl }
def Tryz.lays138_ren : Go.Shelf.Ren := ⟨fun | 138 => 193 | 195 => 222 | 218 => 224 | 143 => 194 | 219 => 225 | 217 => 244 | 225 => 245 | 224 => 246 | 267 => 247 | 266 => 257 | 314 => 258 | n => n, fun | 9 => 9 | 3 => 3 | 4 => 4 | 5 => 5 | 0 => 0 | 46 => 306 | 146 => 322 | 51 => 304 | n => n, fun | 1 => 0 | n => n⟩
theorem Tryz.lays138 : Go.Proofs.Lays.n138 Tryz.prog Tryz.lays138_ren := {
  mixed := by kernel_rfl
  f138 := Tryz.func193.trans (congrArg some (by kernel_rfl))
  f143 := Tryz.func194.trans (congrArg some (by kernel_rfl))
  f195 := Tryz.func222.trans (congrArg some (by kernel_rfl))
  f217 := Tryz.func244.trans (congrArg some (by kernel_rfl))
  f218 := Tryz.func224.trans (congrArg some (by kernel_rfl))
  f219 := Tryz.func225.trans (congrArg some (by kernel_rfl))
  f224 := Tryz.func246.trans (congrArg some (by kernel_rfl))
  f225 := Tryz.func245.trans (congrArg some (by kernel_rfl))
  f266 := Tryz.func257.trans (congrArg some (by kernel_rfl))
  f267 := Tryz.func247.trans (congrArg some (by kernel_rfl))
  f314 := Tryz.func258.trans (congrArg some (by kernel_rfl))
  t0 := Tryz.underlying0
  a0 := Tryz.isAgg0
  z0 := Tryz.sizeOf0
  v0 := Tryz.zeroValue0
  t3 := Tryz.underlying3
  a3 := Tryz.isAgg3
  z3 := Tryz.sizeOf3
  v3 := Tryz.zeroValue3
  t4 := Tryz.underlying4
  a4 := Tryz.isAgg4
  z4 := Tryz.sizeOf4
  v4 := Tryz.zeroValue4
  t5 := Tryz.underlying5
  a5 := Tryz.isAgg5
  z5 := Tryz.sizeOf5
  v5 := Tryz.zeroValue5
  t9 := Tryz.underlying9
  a9 := Tryz.isAgg9
  z9 := Tryz.sizeOf9
  v9 := Tryz.zeroValue9
  t46 := Tryz.underlying306
  a46 := Tryz.isAgg306
  z46 := Tryz.sizeOf306
  v46 := Tryz.zeroValue306
  t51 := Tryz.underlying304
  a51 := Tryz.isAgg304
  z51 := Tryz.sizeOf304
  v51 := Tryz.zeroValue304
  t146 := Tryz.underlying322
  a146 := Tryz.isAgg322
  z146 := Tryz.sizeOf322
  v146 := Tryz.zeroValue322
  g1 := by kernel_rfl }
def Tryz.lays219_ren : Go.Shelf.Ren := ⟨fun | 219 => 225 | 217 => 244 | 225 => 245 | 224 => 246 | 267 => 247 | 266 => 257 | 314 => 258 | n => n, fun | 9 => 9 | 3 => 3 | 4 => 4 | 5 => 5 | 46 => 306 | 146 => 322 | 51 => 304 | n => n, fun | 1 => 0 | n => n⟩
theorem Tryz.lays219 : Go.Proofs.Lays.n219 Tryz.prog Tryz.lays219_ren := {
  mixed := by kernel_rfl
  f217 := Tryz.func244.trans (congrArg some (by kernel_rfl))
  f219 := Tryz.func225.trans (congrArg some (by kernel_rfl))
  f224 := Tryz.func246.trans (congrArg some (by kernel_rfl))
  f225 := Tryz.func245.trans (congrArg some (by kernel_rfl))
  f266 := Tryz.func257.trans (congrArg some (by kernel_rfl))
  f267 := Tryz.func247.trans (congrArg some (by kernel_rfl))
  f314 := Tryz.func258.trans (congrArg some (by kernel_rfl))
  t3 := Tryz.underlying3
  a3 := Tryz.isAgg3
  z3 := Tryz.sizeOf3
  v3 := Tryz.zeroValue3
  t4 := Tryz.underlying4
  a4 := Tryz.isAgg4
  z4 := Tryz.sizeOf4
  v4 := Tryz.zeroValue4
  t5 := Tryz.underlying5
  a5 := Tryz.isAgg5
  z5 := Tryz.sizeOf5
  v5 := Tryz.zeroValue5
  t9 := Tryz.underlying9
  a9 := Tryz.isAgg9
  z9 := Tryz.sizeOf9
  v9 := Tryz.zeroValue9
  t46 := Tryz.underlying306
  a46 := Tryz.isAgg306
  z46 := Tryz.sizeOf306
  v46 := Tryz.zeroValue306
  t51 := Tryz.underlying304
  a51 := Tryz.isAgg304
  z51 := Tryz.sizeOf304
  v51 := Tryz.zeroValue304
  t146 := Tryz.underlying322
  a146 := Tryz.isAgg322
  z146 := Tryz.sizeOf322
  v146 := Tryz.zeroValue322
  g1 := by kernel_rfl }
def Tryz.lays106_ren : Go.Shelf.Ren := ⟨fun | 106 => 176 | 213 => 206 | 265 => 233 | n => n, fun | 9 => 9 | 3 => 3 | n => n, fun | n => n⟩
theorem Tryz.lays106 : Go.Proofs.Lays.n106 Tryz.prog Tryz.lays106_ren := {
  mixed := by kernel_rfl
  f106 := Tryz.func176.trans (congrArg some (by kernel_rfl))
  f213 := Tryz.func206.trans (congrArg some (by kernel_rfl))
  f265 := Tryz.func233.trans (congrArg some (by kernel_rfl))
  t3 := Tryz.underlying3
  a3 := Tryz.isAgg3
  z3 := Tryz.sizeOf3
  v3 := Tryz.zeroValue3
  t9 := Tryz.underlying9
  a9 := Tryz.isAgg9
  z9 := Tryz.sizeOf9
  v9 := Tryz.zeroValue9 }
def Tryz.laysM171_ren : Go.Shelf.Ren := ⟨fun | 171 => 69 | 243 => 141 | 246 => 189 | 283 => 211 | 284 => 212 | 285 => 213 | 286 => 214 | 129 => 236 | 317 => 235 | 318 => 237 | 319 => 238 | 320 => 239 | 337 => 253 | 338 => 254 | n => n, fun | 3 => 3 | 9 => 9 | 2 => 2 | 4 => 4 | 171 => 281 | 0 => 0 | 53 => 282 | 37 => 62 | 5 => 5 | 173 => 285 | 212 => 303 | 51 => 304 | 20 => 20 | 213 => 305 | 46 => 306 | 232 => 328 | 233 => 329 | n => n, fun | 17 => 1 | 18 => 6 | 19 => 7 | n => n⟩
theorem Tryz.laysM171 : Go.Proofs.LaysM.n171 Tryz.prog Tryz.laysM171_ren := {
  mixed := by kernel_rfl
  f129 := Tryz.func236.trans (congrArg some (by kernel_rfl))
  f171 := Tryz.func69.trans (congrArg some (by kernel_rfl))
  f243 := Tryz.func141.trans (congrArg some (by kernel_rfl))
  f246 := Tryz.func189.trans (congrArg some (by kernel_rfl))
  f283 := Tryz.func211.trans (congrArg some (by kernel_rfl))
  f284 := Tryz.func212.trans (congrArg some (by kernel_rfl))
  f285 := Tryz.func213.trans (congrArg some (by kernel_rfl))
  f286 := Tryz.func214.trans (congrArg some (by kernel_rfl))
  f317 := Tryz.func235.trans (congrArg some (by kernel_rfl))
  f318 := Tryz.func237.trans (congrArg some (by kernel_rfl))
  f319 := Tryz.func238.trans (congrArg some (by kernel_rfl))
  f320 := Tryz.func239.trans (congrArg some (by kernel_rfl))
  f337 := Tryz.func253.trans (congrArg some (by kernel_rfl))
  f338 := Tryz.func254.trans (congrArg some (by kernel_rfl))
  t0 := Tryz.underlying0
  a0 := Tryz.isAgg0
  z0 := Tryz.sizeOf0
  v0 := Tryz.zeroValue0
  t2 := Tryz.underlying2
  a2 := Tryz.isAgg2
  z2 := Tryz.sizeOf2
  v2 := Tryz.zeroValue2
  t3 := Tryz.underlying3
  a3 := Tryz.isAgg3
  z3 := Tryz.sizeOf3
  v3 := Tryz.zeroValue3
  t4 := Tryz.underlying4
  a4 := Tryz.isAgg4
  z4 := Tryz.sizeOf4
  v4 := Tryz.zeroValue4
  t5 := Tryz.underlying5
  a5 := Tryz.isAgg5
  z5 := Tryz.sizeOf5
  v5 := Tryz.zeroValue5
  t9 := Tryz.underlying9
  a9 := Tryz.isAgg9
  z9 := Tryz.sizeOf9
  v9 := Tryz.zeroValue9
  t20 := Tryz.underlying20
  a20 := Tryz.isAgg20
  z20 := Tryz.sizeOf20
  v20 := Tryz.zeroValue20
  t37 := Tryz.underlying62
  a37 := Tryz.isAgg62
  z37 := Tryz.sizeOf62
  v37 := Tryz.zeroValue62
  t46 := Tryz.underlying306
  a46 := Tryz.isAgg306
  z46 := Tryz.sizeOf306
  v46 := Tryz.zeroValue306
  t51 := Tryz.underlying304
  a51 := Tryz.isAgg304
  z51 := Tryz.sizeOf304
  v51 := Tryz.zeroValue304
  t53 := Tryz.underlying282
  a53 := Tryz.isAgg282
  z53 := Tryz.sizeOf282
  v53 := Tryz.zeroValue282
  t171 := Tryz.underlying281
  a171 := Tryz.isAgg281
  z171 := Tryz.sizeOf281
  v171 := Tryz.zeroValue281
  t173 := Tryz.underlying285
  a173 := Tryz.isAgg285
  z173 := Tryz.sizeOf285
  v173 := Tryz.zeroValue285
  t212 := Tryz.underlying303
  a212 := Tryz.isAgg303
  z212 := Tryz.sizeOf303
  v212 := Tryz.zeroValue303
  t213 := Tryz.underlying305
  a213 := Tryz.isAgg305
  z213 := Tryz.sizeOf305
  t232 := Tryz.underlying328
  a232 := Tryz.isAgg328
  z232 := Tryz.sizeOf328
  v232 := Tryz.zeroValue328
  t233 := Tryz.underlying329
  a233 := Tryz.isAgg329
  z233 := Tryz.sizeOf329
  v233 := Tryz.zeroValue329
  g17 := by kernel_rfl
  g18 := by kernel_rfl
  g19 := by kernel_rfl
  i0 := by kernel_rfl
  i2 := by kernel_rfl
  i3 := by kernel_rfl
  i4 := by kernel_rfl
  i5 := by kernel_rfl
  i9 := by kernel_rfl
  i20 := by kernel_rfl
  i37 := by kernel_rfl
  i46 := by kernel_rfl
  i51 := by kernel_rfl
  i53 := by kernel_rfl
  i171 := by kernel_rfl
  i173 := by kernel_rfl
  i212 := by kernel_rfl
  i232 := by kernel_rfl
  i233 := by kernel_rfl
  m17 := by kernel_rfl
  m18 := by kernel_rfl
  m19 := by kernel_rfl }
def Tryz.laysM173_ren : Go.Shelf.Ren := ⟨fun | 173 => 163 | 246 => 189 | 283 => 211 | 284 => 212 | 285 => 213 | 286 => 214 | 129 => 236 | 317 => 235 | 318 => 237 | 319 => 238 | 320 => 239 | 337 => 253 | 338 => 254 | n => n, fun | 2 => 2 | 3 => 3 | 9 => 9 | 4 => 4 | 171 => 281 | 0 => 0 | 53 => 282 | 37 => 62 | 5 => 5 | 173 => 285 | 212 => 303 | 51 => 304 | 20 => 20 | 213 => 305 | 46 => 306 | 232 => 328 | 233 => 329 | n => n, fun | 17 => 1 | 18 => 6 | 19 => 7 | n => n⟩
theorem Tryz.laysM173 : Go.Proofs.LaysM.n173 Tryz.prog Tryz.laysM173_ren := {
  mixed := by kernel_rfl
  f129 := Tryz.func236.trans (congrArg some (by kernel_rfl))
  f173 := Tryz.func163.trans (congrArg some (by kernel_rfl))
  f246 := Tryz.func189.trans (congrArg some (by kernel_rfl))
  f283 := Tryz.func211.trans (congrArg some (by kernel_rfl))
  f284 := Tryz.func212.trans (congrArg some (by kernel_rfl))
  f285 := Tryz.func213.trans (congrArg some (by kernel_rfl))
  f286 := Tryz.func214.trans (congrArg some (by kernel_rfl))
  f317 := Tryz.func235.trans (congrArg some (by kernel_rfl))
  f318 := Tryz.func237.trans (congrArg some (by kernel_rfl))
  f319 := Tryz.func238.trans (congrArg some (by kernel_rfl))
  f320 := Tryz.func239.trans (congrArg some (by kernel_rfl))
  f337 := Tryz.func253.trans (congrArg some (by kernel_rfl))
  f338 := Tryz.func254.trans (congrArg some (by kernel_rfl))
  t0 := Tryz.underlying0
  a0 := Tryz.isAgg0
  z0 := Tryz.sizeOf0
  v0 := Tryz.zeroValue0
  t2 := Tryz.underlying2
  a2 := Tryz.isAgg2
  z2 := Tryz.sizeOf2
  v2 := Tryz.zeroValue2
  t3 := Tryz.underlying3
  a3 := Tryz.isAgg3
  z3 := Tryz.sizeOf3
  v3 := Tryz.zeroValue3
  t4 := Tryz.underlying4
  a4 := Tryz.isAgg4
  z4 := Tryz.sizeOf4
  v4 := Tryz.zeroValue4
  t5 := Tryz.underlying5
  a5 := Tryz.isAgg5
  z5 := Tryz.sizeOf5
  v5 := Tryz.zeroValue5
  t9 := Tryz.underlying9
  a9 := Tryz.isAgg9
  z9 := Tryz.sizeOf9
  v9 := Tryz.zeroValue9
  t20 := Tryz.underlying20
  a20 := Tryz.isAgg20
  z20 := Tryz.sizeOf20
  v20 := Tryz.zeroValue20
  t37 := Tryz.underlying62
  a37 := Tryz.isAgg62
  z37 := Tryz.sizeOf62
  v37 := Tryz.zeroValue62
  t46 := Tryz.underlying306
  a46 := Tryz.isAgg306
  z46 := Tryz.sizeOf306
  v46 := Tryz.zeroValue306
  t51 := Tryz.underlying304
  a51 := Tryz.isAgg304
  z51 := Tryz.sizeOf304
  v51 := Tryz.zeroValue304
  t53 := Tryz.underlying282
  a53 := Tryz.isAgg282
  z53 := Tryz.sizeOf282
  v53 := Tryz.zeroValue282
  t171 := Tryz.underlying281
  a171 := Tryz.isAgg281
  z171 := Tryz.sizeOf281
  v171 := Tryz.zeroValue281
  t173 := Tryz.underlying285
  a173 := Tryz.isAgg285
  z173 := Tryz.sizeOf285
  v173 := Tryz.zeroValue285
  t212 := Tryz.underlying303
  a212 := Tryz.isAgg303
  z212 := Tryz.sizeOf303
  v212 := Tryz.zeroValue303
  t213 := Tryz.underlying305
  a213 := Tryz.isAgg305
  z213 := Tryz.sizeOf305
  t232 := Tryz.underlying328
  a232 := Tryz.isAgg328
  z232 := Tryz.sizeOf328
  v232 := Tryz.zeroValue328
  t233 := Tryz.underlying329
  a233 := Tryz.isAgg329
  z233 := Tryz.sizeOf329
  v233 := Tryz.zeroValue329
  g17 := by kernel_rfl
  g18 := by kernel_rfl
  g19 := by kernel_rfl
  i0 := by kernel_rfl
  i2 := by kernel_rfl
  i3 := by kernel_rfl
  i4 := by kernel_rfl
  i5 := by kernel_rfl
  i9 := by kernel_rfl
  i20 := by kernel_rfl
  i37 := by kernel_rfl
  i46 := by kernel_rfl
  i51 := by kernel_rfl
  i53 := by kernel_rfl
  i171 := by kernel_rfl
  i173 := by kernel_rfl
  i212 := by kernel_rfl
  i232 := by kernel_rfl
  i233 := by kernel_rfl
  m17 := by kernel_rfl
  m18 := by kernel_rfl
  m19 := by kernel_rfl }
def Tryz.laysC174_ren : Go.Shelf.Ren := ⟨fun | 174 => 197 | 247 => 227 | 245 => 228 | 287 => 248 | 279 => 249 | 280 => 250 | 281 => 251 | 282 => 252 | 321 => 259 | 322 => 260 | 316 => 261 | 171 => 69 | 205 => 262 | 243 => 141 | 246 => 189 | 283 => 211 | 284 => 212 | 285 => 213 | 286 => 214 | 129 => 236 | 317 => 235 | 318 => 237 | 319 => 238 | 320 => 239 | 337 => 253 | 338 => 254 | n => n, fun | 9 => 9 | 3 => 3 | 2 => 2 | 75 => 238 | 85 => 272 | 4 => 4 | 167 => 310 | 5 => 5 | 53 => 282 | 175 => 311 | 46 => 306 | 168 => 313 | 37 => 62 | 0 => 0 | 210 => 326 | 21 => 21 | 127 => 274 | 145 => 333 | 143 => 331 | 171 => 281 | 173 => 285 | 212 => 303 | 51 => 304 | 20 => 20 | 213 => 305 | 232 => 328 | 233 => 329 | 80 => 241 | n => n, fun | 15 => 4 | 16 => 5 | 17 => 1 | 18 => 6 | 19 => 7 | n => n⟩
theorem Tryz.laysC174 : Go.Proofs.LaysC.n174 Tryz.prog Tryz.laysC174_ren := {
  mixed := by kernel_rfl
  f129 := Tryz.func236.trans (congrArg some (by kernel_rfl))
  f171 := Tryz.func69.trans (congrArg some (by kernel_rfl))
  f174 := Tryz.func197.trans (congrArg some (by kernel_rfl))
  f205 := Tryz.func262.trans (congrArg some (by kernel_rfl))
  f243 := Tryz.func141.trans (congrArg some (by kernel_rfl))
  f245 := Tryz.func228.trans (congrArg some (by kernel_rfl))
  f246 := Tryz.func189.trans (congrArg some (by kernel_rfl))
  f247 := Tryz.func227.trans (congrArg some (by kernel_rfl))
  f279 := Tryz.func249.trans (congrArg some (by kernel_rfl))
  f280 := Tryz.func250.trans (congrArg some (by kernel_rfl))
  f281 := Tryz.func251.trans (congrArg some (by kernel_rfl))
  f282 := Tryz.func252.trans (congrArg some (by kernel_rfl))
  f283 := Tryz.func211.trans (congrArg some (by kernel_rfl))
  f284 := Tryz.func212.trans (congrArg some (by kernel_rfl))
  f285 := Tryz.func213.trans (congrArg some (by kernel_rfl))
  f286 := Tryz.func214.trans (congrArg some (by kernel_rfl))
  f287 := Tryz.func248.trans (congrArg some (by kernel_rfl))
  f316 := Tryz.func261.trans (congrArg some (by kernel_rfl))
  f317 := Tryz.func235.trans (congrArg some (by kernel_rfl))
  f318 := Tryz.func237.trans (congrArg some (by kernel_rfl))
  f319 := Tryz.func238.trans (congrArg some (by kernel_rfl))
  f320 := Tryz.func239.trans (congrArg some (by kernel_rfl))
  f321 := Tryz.func259.trans (congrArg some (by kernel_rfl))
  f322 := Tryz.func260.trans (congrArg some (by kernel_rfl))
  f337 := Tryz.func253.trans (congrArg some (by kernel_rfl))
  f338 := Tryz.func254.trans (congrArg some (by kernel_rfl))
  t0 := Tryz.underlying0
  a0 := Tryz.isAgg0
  z0 := Tryz.sizeOf0
  v0 := Tryz.zeroValue0
  t2 := Tryz.underlying2
  a2 := Tryz.isAgg2
  z2 := Tryz.sizeOf2
  v2 := Tryz.zeroValue2
  t3 := Tryz.underlying3
  a3 := Tryz.isAgg3
  z3 := Tryz.sizeOf3
  v3 := Tryz.zeroValue3
  t4 := Tryz.underlying4
  a4 := Tryz.isAgg4
  z4 := Tryz.sizeOf4
  v4 := Tryz.zeroValue4
  t5 := Tryz.underlying5
  a5 := Tryz.isAgg5
  z5 := Tryz.sizeOf5
  v5 := Tryz.zeroValue5
  t9 := Tryz.underlying9
  a9 := Tryz.isAgg9
  z9 := Tryz.sizeOf9
  v9 := Tryz.zeroValue9
  t20 := Tryz.underlying20
  a20 := Tryz.isAgg20
  z20 := Tryz.sizeOf20
  v20 := Tryz.zeroValue20
  t21 := Tryz.underlying21
  a21 := Tryz.isAgg21
  z21 := Tryz.sizeOf21
  v21 := Tryz.zeroValue21
  t37 := Tryz.underlying62
  a37 := Tryz.isAgg62
  z37 := Tryz.sizeOf62
  v37 := Tryz.zeroValue62
  t46 := Tryz.underlying306
  a46 := Tryz.isAgg306
  z46 := Tryz.sizeOf306
  v46 := Tryz.zeroValue306
  t51 := Tryz.underlying304
  a51 := Tryz.isAgg304
  z51 := Tryz.sizeOf304
  v51 := Tryz.zeroValue304
  t53 := Tryz.underlying282
  a53 := Tryz.isAgg282
  z53 := Tryz.sizeOf282
  v53 := Tryz.zeroValue282
  t75 := Tryz.underlying238
  a75 := Tryz.isAgg238
  z75 := Tryz.sizeOf238
  v75 := Tryz.zeroValue238
  t85 := Tryz.underlying272
  a85 := Tryz.isAgg272
  z85 := Tryz.sizeOf272
  v85 := Tryz.zeroValue272
  t127 := Tryz.underlying274
  a127 := Tryz.isAgg274
  z127 := Tryz.sizeOf274
  v127 := Tryz.zeroValue274
  t143 := Tryz.underlying331
  a143 := Tryz.isAgg331
  z143 := Tryz.sizeOf331
  v143 := Tryz.zeroValue331
  t145 := Tryz.underlying333
  a145 := Tryz.isAgg333
  z145 := Tryz.sizeOf333
  v145 := Tryz.zeroValue333
  t167 := Tryz.underlying310
  a167 := Tryz.isAgg310
  z167 := Tryz.sizeOf310
  v167 := Tryz.zeroValue310
  t168 := Tryz.underlying313
  a168 := Tryz.isAgg313
  z168 := Tryz.sizeOf313
  v168 := Tryz.zeroValue313
  t171 := Tryz.underlying281
  a171 := Tryz.isAgg281
  z171 := Tryz.sizeOf281
  v171 := Tryz.zeroValue281
  t173 := Tryz.underlying285
  a173 := Tryz.isAgg285
  z173 := Tryz.sizeOf285
  v173 := Tryz.zeroValue285
  t175 := Tryz.underlying311
  a175 := Tryz.isAgg311
  z175 := Tryz.sizeOf311
  v175 := Tryz.zeroValue311
  t210 := Tryz.underlying326
  a210 := Tryz.isAgg326
  z210 := Tryz.sizeOf326
  v210 := Tryz.zeroValue326
  t212 := Tryz.underlying303
  a212 := Tryz.isAgg303
  z212 := Tryz.sizeOf303
  v212 := Tryz.zeroValue303
  t213 := Tryz.underlying305
  a213 := Tryz.isAgg305
  z213 := Tryz.sizeOf305
  t232 := Tryz.underlying328
  a232 := Tryz.isAgg328
  z232 := Tryz.sizeOf328
  v232 := Tryz.zeroValue328
  t233 := Tryz.underlying329
  a233 := Tryz.isAgg329
  z233 := Tryz.sizeOf329
  v233 := Tryz.zeroValue329
  g15 := by kernel_rfl
  g16 := by kernel_rfl
  g17 := by kernel_rfl
  g18 := by kernel_rfl
  g19 := by kernel_rfl
  t80 := Tryz.underlying241
  a80 := Tryz.isAgg241
  z80 := Tryz.sizeOf241
  v80 := Tryz.zeroValue241
  i0 := by kernel_rfl
  i2 := by kernel_rfl
  i3 := by kernel_rfl
  i4 := by kernel_rfl
  i5 := by kernel_rfl
  i9 := by kernel_rfl
  i20 := by kernel_rfl
  i21 := by kernel_rfl
  i37 := by kernel_rfl
  i46 := by kernel_rfl
  i51 := by kernel_rfl
  i53 := by kernel_rfl
  i75 := by kernel_rfl
  i80 := by kernel_rfl
  i85 := by kernel_rfl
  i127 := by kernel_rfl
  i143 := by kernel_rfl
  i145 := by kernel_rfl
  i167 := by kernel_rfl
  i168 := by kernel_rfl
  i171 := by kernel_rfl
  i173 := by kernel_rfl
  i175 := by kernel_rfl
  i210 := by kernel_rfl
  i212 := by kernel_rfl
  i232 := by kernel_rfl
  i233 := by kernel_rfl
  m15 := by kernel_rfl
  m16 := by kernel_rfl
  m17 := by kernel_rfl
  m18 := by kernel_rfl
  m19 := by kernel_rfl
  c0 := by kernel_rfl
  c2 := by kernel_rfl
  c3 := by kernel_rfl
  c4 := by kernel_rfl
  c5 := by kernel_rfl
  c9 := by kernel_rfl
  c20 := by kernel_rfl
  c21 := by kernel_rfl
  c37 := by kernel_rfl
  c46 := by kernel_rfl
  c51 := by kernel_rfl
  c53 := by kernel_rfl
  c75 := by kernel_rfl
  c80 := by kernel_rfl
  c85 := by kernel_rfl
  c127 := by kernel_rfl
  c143 := by kernel_rfl
  c145 := by kernel_rfl
  c167 := by kernel_rfl
  c168 := by kernel_rfl
  c171 := by kernel_rfl
  c173 := by kernel_rfl
  c175 := by kernel_rfl
  c210 := by kernel_rfl
  c212 := by kernel_rfl
  c213 := by kernel_rfl
  c232 := by kernel_rfl
  c233 := by kernel_rfl }
end Go.Proofs

set_option linter.unusedVariables false
set_option linter.unusedSimpArgs false
set_option maxRecDepth 100000
namespace Go.Aa.T
open Go.Aa Go.Proofs Go.RowKit Go.Shelf
theorem cfgOk : CfgOk Tryz.prog cfg := by
  refine ⟨by kernel_rfl, fun f A h => tab_fn h, fun f g h => ?_, fun f h => ?_⟩
  · have h : extF f = some g := h
    unfold extF at h
    split at h <;> simp only [Option.some.injEq, reduceCtorEq] at h <;> subst h
    · exact ext_trim (fun _ _ => by kernel_rfl) fun s c w h1 h2 h3 => Any.strings_Trim_laid Tryz.lays160 (by kernel_rfl) s c w h1 h2 h3
    · exact ext_join (fun _ _ => by kernel_rfl) (fun a c sep w => Any.strings_Join_none Tryz.lays156 Tryz.Builder_Extra_156 a c sep w) fun bk o c xs sep w h1 h2 h3 h4 h5 => Any.strings_Join Tryz.lays156 Tryz.Builder_Extra_156 bk o c xs sep w h1 h2 h3 h4 h5
    · exact ext_index (fun _ _ => by kernel_rfl) fun s c w => Any.strings_Index_one Tryz.lays143 s c w
    · exact ext_index (fun _ _ => by kernel_rfl) fun s c w => Any.stringslite_Index_one Tryz.lays219 s c w
    · exact ext_count (fun _ _ => by kernel_rfl) fun s c w => Any.strings_Count_one Tryz.lays138 s c w
    · exact ext_itoa (fun _ _ => by kernel_rfl) (g := 1) (by kernel_rfl) fun n w h0 h1 ht => (Any.strconv_Itoa Tryz.laysM171 n h0 h1 w ht).mono fun e w' hh => ⟨hh.1, by obtain ⟨_, k, os, rfl⟩ := hh; exact Lib.below_grow _ _ (Nat.le_refl _) _ _⟩
    · exact ext_fmt (fun _ _ => by kernel_rfl) (g := 1) (by kernel_rfl) fun n w h0 h1 ht => (Any.strconv_FormatInt_10 Tryz.laysM173 n h0 h1 w ht).mono fun e w' hh => ⟨hh.1, by obtain ⟨_, k, os, rfl⟩ := hh; exact Lib.below_grow _ _ (Nat.le_refl _) _ _⟩
    · exact ext_cmp (fun _ _ => by kernel_rfl) fun a b w => Any.strings_Compare Tryz.lays106 a b w
    · exact ext_parse (fun _ _ => by kernel_rfl) (g1 := 4) (g2 := 5) (by kernel_rfl) (by kernel_rfl)
        (fun s v w hz he => (Any.strconv_ParseInt_10_at64_ok Tryz.laysC174 s (by omega) v he w).mono fun e w' hh => ⟨hh.1, by
          obtain ⟨_, rfl | ⟨t, rfl⟩⟩ := hh
          · exact Below.refl _ _
          · exact Lib.bytesWorld_below _ _ _⟩)
        (fun s w tp p hz he hv => (Any.strconv_ParseInt_10_at64_syntax_var Tryz.laysC174 s hz he tp p w hv).mono fun e w' hh => by
          obtain ⟨N, h1, _, _, h2⟩ := hh
          exact ⟨_, h1, h2⟩)
        (fun s w tp p hz he hv => (Any.strconv_ParseInt_10_at64_range_var Tryz.laysC174 s hz he tp p w hv).mono fun e w' hh => by
          obtain ⟨N, h1, _, _, h2⟩ := hh
          exact ⟨_, h1, h2⟩)
  · have h : (f == 91) = true := h
    have : f = 91 := by simpa using h
    subst this
    exact Go.Proofs.YtppplbpilpjokaaGreatDoor.T.tryOk
#print axioms cfgOk
end Go.Aa.T

set_option linter.unusedVariables false
set_option maxRecDepth 100000
namespace Go.Aa.T
open Go.Aa
def b59_0 : ACode := (.seq (.seq (.region [⟨some 7, .mov (.t 3), none, []⟩, ⟨some 8, .mov (.t 0), none, []⟩, ⟨some 9, .len false (.t 8), none, []⟩, ⟨some 10, .bin .lss (.t 7) (.t 9), none, []⟩] false) (.cond (.t 10) .skip (.exit 0))) (.seq (.block 1 (.seq (.region [⟨some 13, .mov (.t 0), none, []⟩, ⟨some 14, .mov (.t 3), none, []⟩, ⟨some 15, .idx 2 (.t 13) (.t 14), none, []⟩, ⟨some 16, .fld 0 1 (.t 15), none, []⟩, ⟨some 17, .load false 1 (.t 16), none, []⟩, ⟨some 18, .len true (.t 17), none, []⟩, ⟨some 19, .bin .gtr (.t 18) (.c (.int .i64 50)), none, []⟩] false) (.cond (.t 19) (.seq (.region [⟨some 2, .mov (.c (.bool false)), none, []⟩] false) .ret) .skip))) (.region [⟨some 11, .mov (.t 3), none, []⟩, ⟨some 12, .bin .add (.t 11) (.c (.int .i64 1)), none, []⟩, ⟨some 3, .mov (.t 12), none, []⟩] false)))
def k59_0 : List AIt := [.lp b59_0, .blk 0, .c (.seq (.region [⟨some 2, .mov (.c (.bool true)), none, []⟩] false) .ret)]
def b60_0 : ACode := (.seq (.seq (.region [⟨some 7, .mov (.t 3), none, []⟩, ⟨some 8, .mov (.t 0), none, []⟩, ⟨some 9, .len false (.t 8), none, []⟩, ⟨some 10, .bin .lss (.t 7) (.t 9), none, []⟩] false) (.cond (.t 10) .skip (.exit 0))) (.seq (.block 1 (.seq (.region [⟨some 13, .mov (.t 0), none, []⟩, ⟨some 14, .mov (.t 3), none, []⟩, ⟨some 15, .idx 2 (.t 13) (.t 14), none, []⟩, ⟨some 16, .fld 0 1 (.t 15), none, []⟩, ⟨some 17, .load false 1 (.t 16), none, []⟩, ⟨some 18, .len true (.t 17), none, []⟩, ⟨some 19, .bin .gtr (.t 18) (.c (.int .i64 50)), none, []⟩, ⟨some 20, .mov (.t 19), none, []⟩, ⟨some 21, .mov (.t 0), some (20, false), []⟩, ⟨some 22, .mov (.t 3), some (20, false), []⟩, ⟨some 23, .idx 2 (.t 21) (.t 22), some (20, false), []⟩, ⟨some 24, .fld 1 1 (.t 23), some (20, false), []⟩, ⟨some 25, .load false 1 (.t 24), some (20, false), []⟩, ⟨some 26, .len true (.t 25), some (20, false), []⟩, ⟨some 27, .bin .gtr (.t 26) (.c (.int .i64 50)), some (20, false), []⟩, ⟨some 28, .pick (.t 20) (.c (.bool true)) (.t 27), none, []⟩] false) (.cond (.t 28) (.seq (.region [⟨some 2, .mov (.c (.bool false)), none, []⟩] false) .ret) .skip))) (.region [⟨some 11, .mov (.t 3), none, []⟩, ⟨some 12, .bin .add (.t 11) (.c (.int .i64 1)), none, []⟩, ⟨some 3, .mov (.t 12), none, []⟩] false)))
def k60_0 : List AIt := [.lp b60_0, .blk 0, .c (.seq (.region [⟨some 2, .mov (.c (.bool true)), none, []⟩] false) .ret)]
def b71_0 : ACode := (.seq (.seq (.region [⟨some 18, .mov (.t 0), none, []⟩, ⟨some 19, .bin .geq (.t 18) (.c (.int .i64 10)), none, []⟩] false) (.cond (.t 19) .skip (.exit 0))) (.block 1 (.seq (.region [⟨some 20, .mov (.t 0), none, []⟩, ⟨some 21, .bin .quo (.t 20) (.c (.int .i64 10)), none, []⟩, ⟨some 0, .mov (.t 21), none, []⟩] false) (.region [⟨some 22, .mov (.t 0), none, []⟩, ⟨some 23, .bin .rem (.t 22) (.c (.int .i64 10)), none, []⟩, ⟨some 24, .bin .add (.c (.int .i64 48)) (.t 23), none, []⟩, ⟨some 25, .conv (.int .u8) (.t 24), none, []⟩, ⟨some 26, .bslice 1 [(.t 25)], none, []⟩, ⟨some 27, .conv .bytes (.t 26), none, []⟩, ⟨some 28, .mov (.t 3), none, []⟩, ⟨some 29, .bin .add (.t 27) (.t 28), none, []⟩, ⟨some 3, .mov (.t 29), none, []⟩] false))))
def k71_0 : List AIt := [.lp b71_0, .blk 0, .c (.seq (.region [⟨some 30, .mov (.t 3), none, []⟩, ⟨some 2, .mov (.t 30), none, []⟩] false) .ret)]
def b72_0 : ACode := (.seq (.seq (.region [⟨some 7, .mov (.t 3), none, []⟩, ⟨some 8, .mov (.t 0), none, []⟩, ⟨some 9, .len false (.t 8), none, []⟩, ⟨some 10, .bin .lss (.t 7) (.t 9), none, []⟩] false) (.cond (.t 10) .skip (.exit 0))) (.seq (.block 1 (.seq (.region [⟨some 13, .mov (.t 0), none, []⟩, ⟨some 14, .mov (.t 3), none, []⟩, ⟨some 15, .idx 3 (.t 13) (.t 14), none, []⟩, ⟨some 16, .fld 0 1 (.t 15), none, []⟩, ⟨some 17, .load false 1 (.t 16), none, []⟩, ⟨some 18, .len true (.t 17), none, []⟩, ⟨some 19, .bin .gtr (.t 18) (.c (.int .i64 50)), none, []⟩, ⟨some 20, .mov (.t 19), none, []⟩, ⟨some 21, .mov (.t 0), some (20, false), []⟩, ⟨some 22, .mov (.t 3), some (20, false), []⟩, ⟨some 23, .idx 3 (.t 21) (.t 22), some (20, false), []⟩, ⟨some 24, .fld 1 1 (.t 23), some (20, false), []⟩, ⟨some 25, .load false 1 (.t 24), some (20, false), []⟩, ⟨some 26, .len true (.t 25), some (20, false), []⟩, ⟨some 27, .bin .gtr (.t 26) (.c (.int .i64 50)), some (20, false), []⟩, ⟨some 28, .pick (.t 20) (.c (.bool true)) (.t 27), none, []⟩] false) (.cond (.t 28) (.seq (.region [⟨some 2, .mov (.c (.bool false)), none, []⟩] false) .ret) .skip))) (.region [⟨some 11, .mov (.t 3), none, []⟩, ⟨some 12, .bin .add (.t 11) (.c (.int .i64 1)), none, []⟩, ⟨some 3, .mov (.t 12), none, []⟩] false)))
def k72_0 : List AIt := [.lp b72_0, .blk 0, .c (.seq (.region [⟨some 2, .mov (.c (.bool true)), none, []⟩] false) .ret)]
def b73_0 : ACode := (.seq (.seq (.region [⟨some 5, .mov (.t 4), none, []⟩, ⟨some 6, .mov (.t 0), none, []⟩, ⟨some 7, .len false (.t 6), none, []⟩, ⟨some 8, .bin .lss (.t 5) (.t 7), none, []⟩] false) (.cond (.t 8) .skip (.exit 0))) (.seq (.block 1 (.region [⟨some 11, .mov (.t 3), none, []⟩, ⟨some 12, .mov (.t 0), none, []⟩, ⟨some 13, .mov (.t 4), none, []⟩, ⟨some 14, .idx 2 (.t 12) (.t 13), none, [2, 1]⟩, ⟨some 15, .fld 0 1 (.t 14), none, [1, 2, 3]⟩, ⟨some 16, .load false 1 (.t 15), none, [3, 2, 1, 4]⟩, ⟨some 17, .mov (.t 0), none, []⟩, ⟨some 18, .mov (.t 4), none, []⟩, ⟨some 19, .idx 2 (.t 17) (.t 18), none, [7, 6]⟩, ⟨some 20, .fld 1 1 (.t 19), none, [6, 7, 8]⟩, ⟨some 21, .load false 1 (.t 20), none, [8, 7, 6, 9]⟩, ⟨some 22, .build [(.str []), (.int .i64 0)] [(0, 1, (.t 16)), (1, 1, (.t 21))], none, [9, 6, 7, 8, 10, 4, 1, 2, 3, 5]⟩, ⟨some 23, .bslice 2 [(.t 22)], none, [5, 3, 2, 1, 4, 10, 8, 7, 6, 9, 11]⟩, ⟨some 24, .append 2 24 (.t 11) (.t 23), none, [11, 9, 6, 7, 8, 10, 4, 1, 2, 3, 5, 12, 0]⟩, ⟨some 3, .mov (.t 24), none, [0, 12, 5, 3, 2, 1, 4, 10, 8, 7, 6, 9, 11, 13]⟩] true)) (.region [⟨some 9, .mov (.t 4), none, []⟩, ⟨some 10, .bin .add (.t 9) (.c (.int .i64 1)), none, []⟩, ⟨some 4, .mov (.t 10), none, []⟩] false)))
def k73_0 : List AIt := [.lp b73_0, .blk 0, .c (.seq (.region [⟨some 25, .mov (.t 3), none, []⟩, ⟨some 2, .mov (.t 25), none, []⟩] false) .ret)]
def b74_0 : ACode := (.seq (.seq (.region [⟨some 5, .mov (.t 4), none, []⟩, ⟨some 6, .mov (.t 0), none, []⟩, ⟨some 7, .len false (.t 6), none, []⟩, ⟨some 8, .bin .lss (.t 5) (.t 7), none, []⟩] false) (.cond (.t 8) .skip (.exit 0))) (.seq (.block 1 (.region [⟨some 11, .mov (.t 3), none, []⟩, ⟨some 12, .mov (.t 0), none, []⟩, ⟨some 13, .mov (.t 4), none, []⟩, ⟨some 14, .idx 2 (.t 12) (.t 13), none, [2, 1]⟩, ⟨some 15, .fld 0 1 (.t 14), none, [1, 2, 3]⟩, ⟨some 16, .load false 1 (.t 15), none, [3, 2, 1, 4]⟩, ⟨some 17, .mov (.t 0), none, []⟩, ⟨some 18, .mov (.t 4), none, []⟩, ⟨some 19, .idx 2 (.t 17) (.t 18), none, [7, 6]⟩, ⟨some 20, .fld 1 1 (.t 19), none, [6, 7, 8]⟩, ⟨some 21, .load false 1 (.t 20), none, [8, 7, 6, 9]⟩, ⟨some 22, .build [(.str []), (.str [])] [(0, 1, (.t 16)), (1, 1, (.t 21))], none, [9, 6, 7, 8, 10, 4, 1, 2, 3, 5]⟩, ⟨some 23, .bslice 2 [(.t 22)], none, [5, 3, 2, 1, 4, 10, 8, 7, 6, 9, 11]⟩, ⟨some 24, .append 2 32 (.t 11) (.t 23), none, [11, 9, 6, 7, 8, 10, 4, 1, 2, 3, 5, 12, 0]⟩, ⟨some 3, .mov (.t 24), none, [0, 12, 5, 3, 2, 1, 4, 10, 8, 7, 6, 9, 11, 13]⟩] true)) (.region [⟨some 9, .mov (.t 4), none, []⟩, ⟨some 10, .bin .add (.t 9) (.c (.int .i64 1)), none, []⟩, ⟨some 4, .mov (.t 10), none, []⟩] false)))
def k74_0 : List AIt := [.lp b74_0, .blk 0, .c (.seq (.region [⟨some 25, .mov (.t 3), none, []⟩, ⟨some 2, .mov (.t 25), none, []⟩] false) .ret)]
def b75_0 : ACode := (.seq (.seq (.region [⟨some 5, .mov (.t 4), none, []⟩, ⟨some 6, .mov (.t 0), none, []⟩, ⟨some 7, .len false (.t 6), none, []⟩, ⟨some 8, .bin .lss (.t 5) (.t 7), none, []⟩] false) (.cond (.t 8) .skip (.exit 0))) (.seq (.block 1 (.region [⟨some 11, .mov (.t 3), none, []⟩, ⟨some 12, .mov (.t 0), none, []⟩, ⟨some 13, .mov (.t 4), none, []⟩, ⟨some 14, .idx 3 (.t 12) (.t 13), none, [2, 1]⟩, ⟨some 15, .fld 0 1 (.t 14), none, [1, 2, 3]⟩, ⟨some 16, .load false 1 (.t 15), none, [3, 2, 1, 4]⟩, ⟨some 17, .mov (.t 0), none, []⟩, ⟨some 18, .mov (.t 4), none, []⟩, ⟨some 19, .idx 3 (.t 17) (.t 18), none, [7, 6]⟩, ⟨some 20, .fld 1 1 (.t 19), none, [6, 7, 8]⟩, ⟨some 21, .load false 1 (.t 20), none, [8, 7, 6, 9]⟩, ⟨some 22, .mov (.t 0), none, []⟩, ⟨some 23, .mov (.t 4), none, []⟩, ⟨some 24, .idx 3 (.t 22) (.t 23), none, [12, 11]⟩, ⟨some 25, .fld 2 1 (.t 24), none, [11, 12, 13]⟩, ⟨some 26, .load false 1 (.t 25), none, [13, 12, 11, 14]⟩, ⟨some 27, .build [(.str []), (.str []), (.bool false)] [(0, 1, (.t 16)), (1, 1, (.t 21)), (2, 1, (.t 26))], none, [14, 11, 12, 13, 15, 9, 6, 7, 8, 10, 4, 1, 2, 3, 5]⟩, ⟨some 28, .bslice 3 [(.t 27)], none, [5, 3, 2, 1, 4, 10, 8, 7, 6, 9, 15, 13, 12, 11, 14, 16]⟩, ⟨some 29, .append 3 40 (.t 11) (.t 28), none, [16, 14, 11, 12, 13, 15, 9, 6, 7, 8, 10, 4, 1, 2, 3, 5, 17, 0]⟩, ⟨some 3, .mov (.t 29), none, [0, 17, 5, 3, 2, 1, 4, 10, 8, 7, 6, 9, 15, 13, 12, 11, 14, 16, 18]⟩] true)) (.region [⟨some 9, .mov (.t 4), none, []⟩, ⟨some 10, .bin .add (.t 9) (.c (.int .i64 1)), none, []⟩, ⟨some 4, .mov (.t 10), none, []⟩] false)))
def k75_0 : List AIt := [.lp b75_0, .blk 0, .c (.seq (.region [⟨some 30, .mov (.t 3), none, []⟩, ⟨some 2, .mov (.t 30), none, []⟩] false) .ret)]
def b76_0 : ACode := (.seq (.seq (.region [⟨some 12, .mov (.t 3), none, []⟩, ⟨some 13, .mov (.t 0), none, []⟩, ⟨some 14, .len true (.t 13), none, []⟩, ⟨some 15, .bin .lss (.t 12) (.t 14), none, []⟩] false) (.cond (.t 15) .skip (.exit 0))) (.seq (.block 1 (.seq (.region [⟨some 18, .mov (.t 0), none, []⟩, ⟨some 19, .mov (.t 3), none, []⟩, ⟨some 20, .idxs (.t 18) (.t 19), none, []⟩, ⟨some 21, .bin .lss (.t 20) (.c (.int .u8 97)), none, []⟩, ⟨some 22, .mov (.t 21), none, []⟩, ⟨some 23, .mov (.t 0), some (22, false), []⟩, ⟨some 24, .mov (.t 3), some (22, false), []⟩, ⟨some 25, .idxs (.t 23) (.t 24), some (22, false), []⟩, ⟨some 26, .bin .gtr (.t 25) (.c (.int .u8 122)), some (22, false), []⟩, ⟨some 27, .pick (.t 22) (.c (.bool true)) (.t 26), none, []⟩, ⟨some 28, .mov (.t 27), none, []⟩, ⟨some 29, .mov (.t 0), some (28, true), []⟩, ⟨some 30, .mov (.t 3), some (28, true), []⟩, ⟨some 31, .idxs (.t 29) (.t 30), some (28, true), []⟩, ⟨some 32, .bin .lss (.t 31) (.c (.int .u8 48)), some (28, true), []⟩, ⟨some 33, .mov (.t 32), some (28, true), []⟩, ⟨some 34, .mov (.t 0), some (33, false), []⟩, ⟨some 35, .mov (.t 3), some (33, false), []⟩, ⟨some 36, .idxs (.t 34) (.t 35), some (33, false), []⟩, ⟨some 37, .bin .gtr (.t 36) (.c (.int .u8 57)), some (33, false), []⟩, ⟨some 38, .pick (.t 33) (.c (.bool true)) (.t 37), some (28, true), []⟩, ⟨some 39, .pick (.t 28) (.t 38) (.c (.bool false)), none, []⟩] false) (.cond (.t 39) (.seq (.region [⟨some 2, .mov (.c (.bool false)), none, []⟩] false) .ret) .skip))) (.region [⟨some 16, .mov (.t 3), none, []⟩, ⟨some 17, .bin .add (.t 16) (.c (.int .i64 1)), none, []⟩, ⟨some 3, .mov (.t 17), none, []⟩] false)))
def k76_0 : List AIt := [.lp b76_0, .blk 0, .c (.seq (.region [⟨some 2, .mov (.c (.bool true)), none, []⟩] false) .ret)]
def b77_0 : ACode := (.seq (.seq (.region [⟨some 7, .mov (.t 3), none, []⟩, ⟨some 8, .mov (.t 0), none, []⟩, ⟨some 9, .len false (.t 8), none, []⟩, ⟨some 10, .bin .lss (.t 7) (.t 9), none, []⟩] false) (.cond (.t 10) .skip (.exit 0))) (.seq (.block 1 (.seq (.seq (.region [⟨some 13, .mov (.t 0), none, []⟩, ⟨some 14, .mov (.t 3), none, []⟩, ⟨some 15, .idx 2 (.t 13) (.t 14), none, []⟩, ⟨some 16, .fld 0 1 (.t 15), none, []⟩, ⟨some 17, .load false 1 (.t 16), none, []⟩, ⟨some 18, .call (.c (.func 76 [])) [(.t 17)], none, []⟩, ⟨some 19, .un .not (.t 18), none, []⟩] false) (.cond (.t 19) (.seq (.region [⟨some 2, .mov (.c (.int .i64 3)), none, []⟩] false) .ret) .skip)) (.seq (.seq (.region [⟨some 20, .mov (.t 0), none, []⟩, ⟨some 21, .mov (.t 3), none, []⟩, ⟨some 22, .idx 2 (.t 20) (.t 21), none, []⟩, ⟨some 23, .fld 1 1 (.t 22), none, []⟩, ⟨some 24, .load false 1 (.t 23), none, []⟩, ⟨some 25, .bin .leq (.t 24) (.c (.int .i64 0)), none, []⟩] false) (.cond (.t 25) (.seq (.region [⟨some 2, .mov (.c (.int .i64 1)), none, []⟩] false) .ret) .skip)) (.seq (.region [⟨some 26, .mov (.t 3), none, []⟩, ⟨some 27, .bin .gtr (.t 26) (.c (.int .i64 0)), none, [0]⟩, ⟨some 28, .mov (.t 27), none, [0, 1]⟩, ⟨some 29, .mov (.t 0), some (28, true), [1, 0, 2]⟩, ⟨some 30, .mov (.t 3), some (28, true), [1, 0, 2]⟩, ⟨some 31, .idx 2 (.t 29) (.t 30), some (28, true), [4, 2, 0, 1, 3]⟩, ⟨some 32, .fld 0 1 (.t 31), some (28, true), [3, 1, 0, 2, 4, 5]⟩, ⟨some 33, .load false 1 (.t 32), some (28, true), [5, 4, 2, 0, 1, 3, 6]⟩, ⟨some 34, .mov (.t 0), some (28, true), [1, 0, 2]⟩, ⟨some 35, .mov (.t 3), some (28, true), [1, 0, 2]⟩, ⟨some 36, .bin .sub (.t 35) (.c (.int .i64 1)), some (28, true), [2, 0, 1, 9]⟩, ⟨some 37, .idx 2 (.t 34) (.t 36), some (28, true), [9, 10, 2, 0, 1, 8]⟩, ⟨some 38, .fld 0 1 (.t 37), some (28, true), [8, 1, 0, 2, 10, 9, 11]⟩, ⟨some 39, .load false 1 (.t 38), some (28, true), [11, 9, 10, 2, 0, 1, 8, 12]⟩, ⟨some 40, .bin .leq (.t 33) (.t 39), some (28, true), [12, 8, 10, 9, 11, 13, 6, 3, 1, 0, 2, 4, 5, 7]⟩, ⟨some 41, .pick (.t 28) (.t 40) (.c (.bool false)), none, [7, 5, 4, 3, 6, 13, 11, 9, 10, 8, 12, 14, 1, 0, 2]⟩] true) (.cond (.t 41) (.seq (.region [⟨some 2, .mov (.c (.int .i64 13)), none, []⟩] false) .ret) .skip))))) (.region [⟨some 11, .mov (.t 3), none, []⟩, ⟨some 12, .bin .add (.t 11) (.c (.int .i64 1)), none, []⟩, ⟨some 3, .mov (.t 12), none, []⟩] false)))
def k77_0 : List AIt := [.lp b77_0, .blk 0, .c (.seq (.region [⟨some 2, .mov (.c (.int .i64 0)), none, []⟩] false) .ret)]
def b78_0 : ACode := (.seq (.seq (.region [⟨some 7, .mov (.t 3), none, []⟩, ⟨some 8, .mov (.t 0), none, []⟩, ⟨some 9, .len false (.t 8), none, []⟩, ⟨some 10, .bin .lss (.t 7) (.t 9), none, []⟩] false) (.cond (.t 10) .skip (.exit 0))) (.seq (.block 1 (.seq (.seq (.region [⟨some 13, .mov (.t 0), none, []⟩, ⟨some 14, .mov (.t 3), none, []⟩, ⟨some 15, .idx 2 (.t 13) (.t 14), none, []⟩, ⟨some 16, .fld 0 1 (.t 15), none, []⟩, ⟨some 17, .load false 1 (.t 16), none, []⟩, ⟨some 18, .call (.c (.func 76 [])) [(.t 17)], none, []⟩, ⟨some 19, .un .not (.t 18), none, []⟩, ⟨some 20, .mov (.t 19), none, []⟩, ⟨some 21, .mov (.t 0), some (20, false), []⟩, ⟨some 22, .mov (.t 3), some (20, false), []⟩, ⟨some 23, .idx 2 (.t 21) (.t 22), some (20, false), []⟩, ⟨some 24, .fld 1 1 (.t 23), some (20, false), []⟩, ⟨some 25, .load false 1 (.t 24), some (20, false), []⟩, ⟨some 26, .call (.c (.func 76 [])) [(.t 25)], some (20, false), []⟩, ⟨some 27, .un .not (.t 26), some (20, false), []⟩, ⟨some 28, .pick (.t 20) (.c (.bool true)) (.t 27), none, []⟩] false) (.cond (.t 28) (.seq (.region [⟨some 2, .mov (.c (.int .i64 3)), none, []⟩] false) .ret) .skip)) (.seq (.region [⟨some 29, .mov (.t 3), none, []⟩, ⟨some 30, .bin .gtr (.t 29) (.c (.int .i64 0)), none, [0]⟩, ⟨some 31, .mov (.t 30), none, [0, 1]⟩, ⟨some 32, .mov (.t 0), some (31, true), [1, 0, 2]⟩, ⟨some 33, .mov (.t 3), some (31, true), [1, 0, 2]⟩, ⟨some 34, .idx 2 (.t 32) (.t 33), some (31, true), [4, 2, 0, 1, 3]⟩, ⟨some 35, .fld 0 1 (.t 34), some (31, true), [3, 1, 0, 2, 4, 5]⟩, ⟨some 36, .load false 1 (.t 35), some (31, true), [5, 4, 2, 0, 1, 3, 6]⟩, ⟨some 37, .mov (.t 0), some (31, true), [1, 0, 2]⟩, ⟨some 38, .mov (.t 3), some (31, true), [1, 0, 2]⟩, ⟨some 39, .bin .sub (.t 38) (.c (.int .i64 1)), some (31, true), [2, 0, 1, 9]⟩, ⟨some 40, .idx 2 (.t 37) (.t 39), some (31, true), [9, 10, 2, 0, 1, 8]⟩, ⟨some 41, .fld 0 1 (.t 40), some (31, true), [8, 1, 0, 2, 10, 9, 11]⟩, ⟨some 42, .load false 1 (.t 41), some (31, true), [11, 9, 10, 2, 0, 1, 8, 12]⟩, ⟨some 43, .bin .leq (.t 36) (.t 42), some (31, true), [12, 8, 10, 9, 11, 13, 6, 3, 1, 0, 2, 4, 5, 7]⟩, ⟨some 44, .pick (.t 31) (.t 43) (.c (.bool false)), none, [7, 5, 4, 3, 6, 13, 11, 9, 10, 8, 12, 14, 1, 0, 2]⟩] true) (.cond (.t 44) (.seq (.region [⟨some 2, .mov (.c (.int .i64 13)), none, []⟩] false) .ret) .skip)))) (.region [⟨some 11, .mov (.t 3), none, []⟩, ⟨some 12, .bin .add (.t 11) (.c (.int .i64 1)), none, []⟩, ⟨some 3, .mov (.t 12), none, []⟩] false)))
def k78_0 : List AIt := [.lp b78_0, .blk 0, .c (.seq (.region [⟨some 2, .mov (.c (.int .i64 0)), none, []⟩] false) .ret)]
def b79_0 : ACode := (.seq (.seq (.region [⟨some 8, .mov (.t 3), none, []⟩, ⟨some 9, .mov (.t 0), none, []⟩, ⟨some 10, .len false (.t 9), none, []⟩, ⟨some 11, .bin .lss (.t 8) (.t 10), none, []⟩] false) (.cond (.t 11) .skip (.exit 0))) (.seq (.block 1 (.seq (.seq (.region [⟨some 14, .mov (.t 0), none, []⟩, ⟨some 15, .mov (.t 3), none, []⟩, ⟨some 16, .idx 3 (.t 14) (.t 15), none, []⟩, ⟨some 17, .fld 0 1 (.t 16), none, []⟩, ⟨some 18, .load false 1 (.t 17), none, []⟩, ⟨some 19, .call (.c (.func 76 [])) [(.t 18)], none, []⟩, ⟨some 20, .un .not (.t 19), none, []⟩, ⟨some 21, .mov (.t 20), none, []⟩, ⟨some 22, .mov (.t 0), some (21, false), []⟩, ⟨some 23, .mov (.t 3), some (21, false), []⟩, ⟨some 24, .idx 3 (.t 22) (.t 23), some (21, false), []⟩, ⟨some 25, .fld 1 1 (.t 24), some (21, false), []⟩, ⟨some 26, .load false 1 (.t 25), some (21, false), []⟩, ⟨some 27, .call (.c (.func 76 [])) [(.t 26)], some (21, false), []⟩, ⟨some 28, .un .not (.t 27), some (21, false), []⟩, ⟨some 29, .pick (.t 21) (.c (.bool true)) (.t 28), none, []⟩] false) (.cond (.t 29) (.seq (.region [⟨some 2, .mov (.c (.int .i64 3)), none, []⟩] false) .ret) .skip)) (.seq (.region [⟨some 4, .mov (.c (.int .i64 0)), none, []⟩] false) (.block 2 (.loop (.seq (.seq (.region [⟨some 30, .mov (.t 4), none, []⟩, ⟨some 31, .mov (.t 3), none, []⟩, ⟨some 32, .bin .lss (.t 30) (.t 31), none, []⟩] false) (.cond (.t 32) .skip (.exit 2))) (.seq (.block 3 (.seq (.region [⟨some 35, .mov (.t 0), none, []⟩, ⟨some 36, .mov (.t 4), none, []⟩, ⟨some 37, .idx 3 (.t 35) (.t 36), none, [1, 0]⟩, ⟨some 38, .fld 0 1 (.t 37), none, [0, 1, 2]⟩, ⟨some 39, .load false 1 (.t 38), none, [2, 1, 0, 3]⟩, ⟨some 40, .mov (.t 0), none, []⟩, ⟨some 41, .mov (.t 3), none, []⟩, ⟨some 42, .idx 3 (.t 40) (.t 41), none, [6, 5]⟩, ⟨some 43, .fld 0 1 (.t 42), none, [5, 6, 7]⟩, ⟨some 44, .load false 1 (.t 43), none, [7, 6, 5, 8]⟩, ⟨some 45, .bin .eql (.t 39) (.t 44), none, [8, 5, 6, 7, 9, 3, 0, 1, 2, 4]⟩, ⟨some 46, .mov (.t 45), none, [4, 2, 1, 0, 3, 9, 7, 6, 5, 8, 10]⟩, ⟨some 47, .mov (.t 0), some (46, true), [10, 8, 5, 6, 7, 9, 3, 0, 1, 2, 4, 11]⟩, ⟨some 48, .mov (.t 4), some (46, true), [10, 8, 5, 6, 7, 9, 3, 0, 1, 2, 4, 11]⟩, ⟨some 49, .idx 3 (.t 47) (.t 48), some (46, true), [13, 11, 4, 2, 1, 0, 3, 9, 7, 6, 5, 8, 10, 12]⟩, ⟨some 50, .fld 1 1 (.t 49), some (46, true), [12, 10, 8, 5, 6, 7, 9, 3, 0, 1, 2, 4, 11, 13, 14]⟩, ⟨some 51, .load false 1 (.t 50), some (46, true), [14, 13, 11, 4, 2, 1, 0, 3, 9, 7, 6, 5, 8, 10, 12, 15]⟩, ⟨some 52, .mov (.t 0), some (46, true), [10, 8, 5, 6, 7, 9, 3, 0, 1, 2, 4, 11]⟩, ⟨some 53, .mov (.t 3), some (46, true), [10, 8, 5, 6, 7, 9, 3, 0, 1, 2, 4, 11]⟩, ⟨some 54, .idx 3 (.t 52) (.t 53), some (46, true), [18, 11, 4, 2, 1, 0, 3, 9, 7, 6, 5, 8, 10, 17]⟩, ⟨some 55, .fld 1 1 (.t 54), some (46, true), [17, 10, 8, 5, 6, 7, 9, 3, 0, 1, 2, 4, 11, 18, 19]⟩, ⟨some 56, .load false 1 (.t 55), some (46, true), [19, 18, 11, 4, 2, 1, 0, 3, 9, 7, 6, 5, 8, 10, 17, 20]⟩, ⟨some 57, .bin .eql (.t 51) (.t 56), some (46, true), [20, 17, 18, 19, 21, 15, 12, 10, 8, 5, 6, 7, 9, 3, 0, 1, 2, 4, 11, 13, 14, 16]⟩, ⟨some 58, .pick (.t 46) (.t 57) (.c (.bool false)), none, [16, 14, 13, 12, 15, 21, 19, 18, 17, 20, 22, 10, 8, 5, 6, 7, 9, 3, 0, 1, 2, 4, 11]⟩] true) (.cond (.t 58) (.seq (.region [⟨some 2, .mov (.c (.int .i64 6)), none, []⟩] false) .ret) .skip))) (.region [⟨some 33, .mov (.t 4), none, []⟩, ⟨some 34, .bin .add (.t 33) (.c (.int .i64 1)), none, []⟩, ⟨some 4, .mov (.t 34), none, []⟩] false)))))))) (.region [⟨some 12, .mov (.t 3), none, []⟩, ⟨some 13, .bin .add (.t 12) (.c (.int .i64 1)), none, []⟩, ⟨some 3, .mov (.t 13), none, []⟩] false)))
def k79_0 : List AIt := [.lp b79_0, .blk 0, .c (.seq (.region [⟨some 2, .mov (.c (.int .i64 0)), none, []⟩] false) .ret)]
def b79_1 : ACode := (.seq (.seq (.region [⟨some 30, .mov (.t 4), none, []⟩, ⟨some 31, .mov (.t 3), none, []⟩, ⟨some 32, .bin .lss (.t 30) (.t 31), none, []⟩] false) (.cond (.t 32) .skip (.exit 2))) (.seq (.block 3 (.seq (.region [⟨some 35, .mov (.t 0), none, []⟩, ⟨some 36, .mov (.t 4), none, []⟩, ⟨some 37, .idx 3 (.t 35) (.t 36), none, [1, 0]⟩, ⟨some 38, .fld 0 1 (.t 37), none, [0, 1, 2]⟩, ⟨some 39, .load false 1 (.t 38), none, [2, 1, 0, 3]⟩, ⟨some 40, .mov (.t 0), none, []⟩, ⟨some 41, .mov (.t 3), none, []⟩, ⟨some 42, .idx 3 (.t 40) (.t 41), none, [6, 5]⟩, ⟨some 43, .fld 0 1 (.t 42), none, [5, 6, 7]⟩, ⟨some 44, .load false 1 (.t 43), none, [7, 6, 5, 8]⟩, ⟨some 45, .bin .eql (.t 39) (.t 44), none, [8, 5, 6, 7, 9, 3, 0, 1, 2, 4]⟩, ⟨some 46, .mov (.t 45), none, [4, 2, 1, 0, 3, 9, 7, 6, 5, 8, 10]⟩, ⟨some 47, .mov (.t 0), some (46, true), [10, 8, 5, 6, 7, 9, 3, 0, 1, 2, 4, 11]⟩, ⟨some 48, .mov (.t 4), some (46, true), [10, 8, 5, 6, 7, 9, 3, 0, 1, 2, 4, 11]⟩, ⟨some 49, .idx 3 (.t 47) (.t 48), some (46, true), [13, 11, 4, 2, 1, 0, 3, 9, 7, 6, 5, 8, 10, 12]⟩, ⟨some 50, .fld 1 1 (.t 49), some (46, true), [12, 10, 8, 5, 6, 7, 9, 3, 0, 1, 2, 4, 11, 13, 14]⟩, ⟨some 51, .load false 1 (.t 50), some (46, true), [14, 13, 11, 4, 2, 1, 0, 3, 9, 7, 6, 5, 8, 10, 12, 15]⟩, ⟨some 52, .mov (.t 0), some (46, true), [10, 8, 5, 6, 7, 9, 3, 0, 1, 2, 4, 11]⟩, ⟨some 53, .mov (.t 3), some (46, true), [10, 8, 5, 6, 7, 9, 3, 0, 1, 2, 4, 11]⟩, ⟨some 54, .idx 3 (.t 52) (.t 53), some (46, true), [18, 11, 4, 2, 1, 0, 3, 9, 7, 6, 5, 8, 10, 17]⟩, ⟨some 55, .fld 1 1 (.t 54), some (46, true), [17, 10, 8, 5, 6, 7, 9, 3, 0, 1, 2, 4, 11, 18, 19]⟩, ⟨some 56, .load false 1 (.t 55), some (46, true), [19, 18, 11, 4, 2, 1, 0, 3, 9, 7, 6, 5, 8, 10, 17, 20]⟩, ⟨some 57, .bin .eql (.t 51) (.t 56), some (46, true), [20, 17, 18, 19, 21, 15, 12, 10, 8, 5, 6, 7, 9, 3, 0, 1, 2, 4, 11, 13, 14, 16]⟩, ⟨some 58, .pick (.t 46) (.t 57) (.c (.bool false)), none, [16, 14, 13, 12, 15, 21, 19, 18, 17, 20, 22, 10, 8, 5, 6, 7, 9, 3, 0, 1, 2, 4, 11]⟩] true) (.cond (.t 58) (.seq (.region [⟨some 2, .mov (.c (.int .i64 6)), none, []⟩] false) .ret) .skip))) (.region [⟨some 33, .mov (.t 4), none, []⟩, ⟨some 34, .bin .add (.t 33) (.c (.int .i64 1)), none, []⟩, ⟨some 4, .mov (.t 34), none, []⟩] false)))
def k79_1 : List AIt := [.lp b79_1, .blk 2, .blk 1, .c (.region [⟨some 12, .mov (.t 3), none, []⟩, ⟨some 13, .bin .add (.t 12) (.c (.int .i64 1)), none, []⟩, ⟨some 3, .mov (.t 13), none, []⟩] false), .lp b79_0, .blk 0, .c (.seq (.region [⟨some 2, .mov (.c (.int .i64 0)), none, []⟩] false) .ret)]
def b80_0 : ACode := (.seq (.region [⟨some 8, .bin .lss (.t 7) (.t 6), none, []⟩] false) (.seq (.cond (.t 8) .skip (.exit 0)) (.seq (.block 1 (.seq (.region [⟨some 9, .idx 1 (.t 5) (.t 7), none, []⟩, ⟨some 10, .load false 1 (.t 9), none, []⟩, ⟨some 4, .mov (.t 10), none, []⟩] false) (.seq (.region [⟨some 11, .mov (.t 4), none, []⟩, ⟨some 12, .bin .neq (.t 11) (.c (.int .i64 0)), none, []⟩] false) (.cond (.t 12) (.seq (.region [⟨some 13, .mov (.t 4), none, []⟩, ⟨some 2, .mov (.t 13), none, []⟩] false) .ret) .skip)))) (.region [⟨some 14, .bin .add (.t 7) (.c (.int .i64 1)), none, []⟩, ⟨some 7, .mov (.t 14), none, []⟩] false))))
def k80_0 : List AIt := [.lp b80_0, .blk 0, .c (.seq (.region [⟨some 2, .mov (.c (.int .i64 0)), none, []⟩] false) .ret)]
def b82_0 : ACode := (.seq (.region [⟨some 11, .bin .lss (.t 10) (.t 9), none, []⟩] false) (.seq (.cond (.t 11) .skip (.exit 0)) (.seq (.block 1 (.seq (.region [⟨some 12, .mov (.t 10), none, []⟩, ⟨some 13, .idx 2 (.t 8) (.t 10), none, []⟩, ⟨some 14, .load true 2 (.t 13), none, []⟩, ⟨some 4, .box (.c (.agg [(.str []), (.int .i64 0)])), none, []⟩, ⟨some 3, .mov (.t 12), none, []⟩, ⟨none, .store 2 (.t 4) (.t 14), none, []⟩] false) (.block 2 (.seq (.region [⟨some 16, .fld 0 1 (.t 4), none, []⟩, ⟨some 17, .load false 1 (.t 16), none, []⟩, ⟨some 18, .call (.c (.func 143 [])) [(.t 17)], none, []⟩, ⟨some 19, .un .not (.t 18), none, []⟩, ⟨some 15, .mov (.t 19), none, []⟩] false) (.cond (.t 15) (.seq (.region [⟨some 2, .mov (.c (.int .i64 3)), none, []⟩] false) .ret) (.seq (.region [⟨some 21, .fld 1 1 (.t 4), none, []⟩, ⟨some 22, .load false 1 (.t 21), none, []⟩, ⟨some 23, .bin .leq (.t 22) (.c (.int .i64 0)), none, []⟩, ⟨some 20, .mov (.t 23), none, []⟩] false) (.cond (.t 20) (.seq (.region [⟨some 2, .mov (.c (.int .i64 1)), none, []⟩] false) .ret) (.seq (.region [⟨some 25, .mov (.t 3), none, []⟩, ⟨some 26, .bin .gtr (.t 25) (.c (.int .i64 0)), none, [0]⟩, ⟨some 27, .mov (.t 26), none, [0, 1]⟩, ⟨some 28, .fld 0 1 (.t 4), some (27, true), [1, 0, 2]⟩, ⟨some 29, .load false 1 (.t 28), some (27, true), [2, 0, 1, 3]⟩, ⟨some 30, .mov (.t 0), some (27, true), [1, 0, 2]⟩, ⟨some 31, .mov (.t 3), some (27, true), [1, 0, 2]⟩, ⟨some 32, .bin .sub (.t 31) (.c (.int .i64 1)), some (27, true), [2, 0, 1, 6]⟩, ⟨some 33, .idx 2 (.t 30) (.t 32), some (27, true), [6, 7, 2, 0, 1, 5]⟩, ⟨some 34, .fld 0 1 (.t 33), some (27, true), [5, 1, 0, 2, 7, 6, 8]⟩, ⟨some 35, .load false 1 (.t 34), some (27, true), [8, 6, 7, 2, 0, 1, 5, 9]⟩, ⟨some 36, .bin .leq (.t 29) (.t 35), some (27, true), [9, 5, 7, 6, 8, 10, 3, 1, 0, 2, 4]⟩, ⟨some 37, .pick (.t 27) (.t 36) (.c (.bool false)), none, [4, 3, 10, 8, 6, 7, 5, 9, 11, 1, 0, 2]⟩, ⟨some 24, .mov (.t 37), none, [2, 0, 1, 11, 9, 5, 7, 6, 8, 10, 3, 4, 12]⟩] true) (.cond (.t 24) (.seq (.region [⟨some 2, .mov (.c (.int .i64 13)), none, []⟩] false) .ret) .skip))))))))) (.region [⟨some 38, .bin .add (.t 10) (.c (.int .i64 1)), none, []⟩, ⟨some 10, .mov (.t 38), none, []⟩] false))))
def k82_0 : List AIt := [.lp b82_0, .blk 0, .c (.seq (.region [⟨some 2, .mov (.c (.int .i64 0)), none, []⟩] false) .ret)]
def b83_0 : ACode := (.seq (.region [⟨some 11, .bin .lss (.t 10) (.t 9), none, []⟩] false) (.seq (.cond (.t 11) .skip (.exit 0)) (.seq (.block 1 (.seq (.region [⟨some 12, .mov (.t 10), none, []⟩, ⟨some 13, .idx 2 (.t 8) (.t 10), none, []⟩, ⟨some 14, .load true 2 (.t 13), none, []⟩, ⟨some 4, .box (.c (.agg [(.str []), (.str [])])), none, []⟩, ⟨some 3, .mov (.t 12), none, []⟩, ⟨none, .store 2 (.t 4) (.t 14), none, []⟩] false) (.block 2 (.seq (.region [⟨some 16, .fld 0 1 (.t 4), none, []⟩, ⟨some 17, .load false 1 (.t 16), none, []⟩, ⟨some 18, .call (.c (.func 143 [])) [(.t 17)], none, []⟩, ⟨some 19, .un .not (.t 18), none, []⟩, ⟨some 20, .mov (.t 19), none, []⟩, ⟨some 21, .fld 1 1 (.t 4), some (20, false), []⟩, ⟨some 22, .load false 1 (.t 21), some (20, false), []⟩, ⟨some 23, .call (.c (.func 143 [])) [(.t 22)], some (20, false), []⟩, ⟨some 24, .un .not (.t 23), some (20, false), []⟩, ⟨some 25, .pick (.t 20) (.c (.bool true)) (.t 24), none, []⟩, ⟨some 15, .mov (.t 25), none, []⟩] false) (.cond (.t 15) (.seq (.region [⟨some 2, .mov (.c (.int .i64 3)), none, []⟩] false) .ret) (.seq (.region [⟨some 27, .mov (.t 3), none, []⟩, ⟨some 28, .bin .gtr (.t 27) (.c (.int .i64 0)), none, [0]⟩, ⟨some 29, .mov (.t 28), none, [0, 1]⟩, ⟨some 30, .fld 0 1 (.t 4), some (29, true), [1, 0, 2]⟩, ⟨some 31, .load false 1 (.t 30), some (29, true), [2, 0, 1, 3]⟩, ⟨some 32, .mov (.t 0), some (29, true), [1, 0, 2]⟩, ⟨some 33, .mov (.t 3), some (29, true), [1, 0, 2]⟩, ⟨some 34, .bin .sub (.t 33) (.c (.int .i64 1)), some (29, true), [2, 0, 1, 6]⟩, ⟨some 35, .idx 2 (.t 32) (.t 34), some (29, true), [6, 7, 2, 0, 1, 5]⟩, ⟨some 36, .fld 0 1 (.t 35), some (29, true), [5, 1, 0, 2, 7, 6, 8]⟩, ⟨some 37, .load false 1 (.t 36), some (29, true), [8, 6, 7, 2, 0, 1, 5, 9]⟩, ⟨some 38, .bin .leq (.t 31) (.t 37), some (29, true), [9, 5, 7, 6, 8, 10, 3, 1, 0, 2, 4]⟩, ⟨some 39, .pick (.t 29) (.t 38) (.c (.bool false)), none, [4, 3, 10, 8, 6, 7, 5, 9, 11, 1, 0, 2]⟩, ⟨some 26, .mov (.t 39), none, [2, 0, 1, 11, 9, 5, 7, 6, 8, 10, 3, 4, 12]⟩] true) (.cond (.t 26) (.seq (.region [⟨some 2, .mov (.c (.int .i64 13)), none, []⟩] false) .ret) .skip))))))) (.region [⟨some 40, .bin .add (.t 10) (.c (.int .i64 1)), none, []⟩, ⟨some 10, .mov (.t 40), none, []⟩] false))))
def k83_0 : List AIt := [.lp b83_0, .blk 0, .c (.seq (.region [⟨some 2, .mov (.c (.int .i64 0)), none, []⟩] false) .ret)]
def b84_0 : ACode := (.seq (.region [⟨some 11, .bin .lss (.t 10) (.t 9), none, []⟩] false) (.seq (.cond (.t 11) .skip (.exit 0)) (.seq (.block 1 (.seq (.region [⟨some 12, .mov (.t 10), none, []⟩, ⟨some 13, .idx 3 (.t 8) (.t 10), none, []⟩, ⟨some 14, .load true 3 (.t 13), none, []⟩, ⟨some 4, .box (.c (.agg [(.str []), (.str []), (.bool false)])), none, []⟩, ⟨some 3, .mov (.t 12), none, []⟩, ⟨none, .store 3 (.t 4) (.t 14), none, []⟩] false) (.block 2 (.seq (.region [⟨some 16, .fld 0 1 (.t 4), none, []⟩, ⟨some 17, .load false 1 (.t 16), none, []⟩, ⟨some 18, .call (.c (.func 143 [])) [(.t 17)], none, []⟩, ⟨some 19, .un .not (.t 18), none, []⟩, ⟨some 20, .mov (.t 19), none, []⟩, ⟨some 21, .fld 1 1 (.t 4), some (20, false), []⟩, ⟨some 22, .load false 1 (.t 21), some (20, false), []⟩, ⟨some 23, .call (.c (.func 143 [])) [(.t 22)], some (20, false), []⟩, ⟨some 24, .un .not (.t 23), some (20, false), []⟩, ⟨some 25, .pick (.t 20) (.c (.bool true)) (.t 24), none, []⟩, ⟨some 15, .mov (.t 25), none, []⟩] false) (.cond (.t 15) (.seq (.region [⟨some 2, .mov (.c (.int .i64 3)), none, []⟩] false) .ret) (.seq (.region [⟨some 27, .mov (.t 0), none, []⟩, ⟨some 28, .mov (.t 3), none, []⟩, ⟨some 29, .slice 3 (.t 27) none (some (.t 28)) none, none, []⟩, ⟨some 30, .mkfunc 145 [(.t 4)], none, []⟩, ⟨some 31, .call (.c (.func 144 [])) [(.t 29), (.t 30)], none, []⟩, ⟨some 26, .mov (.t 31), none, []⟩] false) (.cond (.t 26) (.seq (.region [⟨some 2, .mov (.c (.int .i64 6)), none, []⟩] false) .ret) .skip))))))) (.region [⟨some 32, .bin .add (.t 10) (.c (.int .i64 1)), none, []⟩, ⟨some 10, .mov (.t 32), none, []⟩] false))))
def k84_0 : List AIt := [.lp b84_0, .blk 0, .c (.seq (.region [⟨some 2, .mov (.c (.int .i64 0)), none, []⟩] false) .ret)]
def b86_0 : ACode := (.seq (.region [⟨some 14, .bin .lss (.t 13) (.t 12), none, []⟩] false) (.seq (.cond (.t 14) .skip (.exit 0)) (.seq (.block 1 (.seq (.region [⟨some 15, .mov (.t 13), none, []⟩, ⟨some 5, .mov (.t 15), none, []⟩] false) (.seq (.region [⟨some 16, .mov (.t 0), none, []⟩, ⟨some 17, .mov (.t 5), none, []⟩, ⟨some 18, .idx 2 (.t 16) (.t 17), none, [1, 0]⟩, ⟨some 19, .load true 2 (.t 18), none, [0, 1, 2]⟩, ⟨some 20, .mov (.t 1), none, []⟩, ⟨some 21, .mov (.t 5), none, []⟩, ⟨some 22, .idx 2 (.t 20) (.t 21), none, [5, 4]⟩, ⟨some 23, .load true 2 (.t 22), none, [4, 5, 6]⟩, ⟨some 24, .eqst true [.s, .s] (.t 19) (.t 23), none, [6, 5, 4, 7, 2, 1, 0, 3]⟩] true) (.cond (.t 24) (.seq (.region [⟨some 4, .mov (.c (.bool false)), none, []⟩] false) .ret) .skip)))) (.region [⟨some 25, .bin .add (.t 13) (.c (.int .i64 1)), none, []⟩, ⟨some 13, .mov (.t 25), none, []⟩] false))))
def k86_0 : List AIt := [.lp b86_0, .blk 0, .c (.seq (.region [⟨some 4, .mov (.c (.bool true)), none, []⟩] false) .ret)]
def b87_0 : ACode := (.seq (.region [⟨some 14, .bin .lss (.t 13) (.t 12), none, []⟩] false) (.seq (.cond (.t 14) .skip (.exit 0)) (.seq (.block 1 (.seq (.region [⟨some 15, .mov (.t 13), none, []⟩, ⟨some 5, .mov (.t 15), none, []⟩] false) (.seq (.region [⟨some 16, .mov (.t 0), none, []⟩, ⟨some 17, .mov (.t 5), none, []⟩, ⟨some 18, .idx 3 (.t 16) (.t 17), none, [1, 0]⟩, ⟨some 19, .load true 3 (.t 18), none, [0, 1, 2]⟩, ⟨some 20, .mov (.t 1), none, []⟩, ⟨some 21, .mov (.t 5), none, []⟩, ⟨some 22, .idx 3 (.t 20) (.t 21), none, [5, 4]⟩, ⟨some 23, .load true 3 (.t 22), none, [4, 5, 6]⟩, ⟨some 24, .eqst true [.s, .s, .b] (.t 19) (.t 23), none, [6, 5, 4, 7, 2, 1, 0, 3]⟩] true) (.cond (.t 24) (.seq (.region [⟨some 4, .mov (.c (.bool false)), none, []⟩] false) .ret) .skip)))) (.region [⟨some 25, .bin .add (.t 13) (.c (.int .i64 1)), none, []⟩, ⟨some 13, .mov (.t 25), none, []⟩] false))))
def k87_0 : List AIt := [.lp b87_0, .blk 0, .c (.seq (.region [⟨some 4, .mov (.c (.bool true)), none, []⟩] false) .ret)]
def b88_0 : ACode := (.seq (.seq (.region [⟨some 11, .mov (.t 5), none, []⟩, ⟨some 12, .mov (.t 0), none, []⟩, ⟨some 13, .len false (.t 12), none, []⟩, ⟨some 14, .bin .lss (.t 11) (.t 13), none, []⟩] false) (.cond (.t 14) .skip (.exit 0))) (.seq (.block 1 (.seq (.region [⟨some 17, .mov (.t 0), none, []⟩, ⟨some 18, .mov (.t 5), none, []⟩, ⟨some 19, .idx 2 (.t 17) (.t 18), none, [1, 0]⟩, ⟨some 20, .load true 2 (.t 19), none, [0, 1, 2]⟩, ⟨some 21, .mov (.t 1), none, []⟩, ⟨some 22, .mov (.t 5), none, []⟩, ⟨some 23, .idx 2 (.t 21) (.t 22), none, [5, 4]⟩, ⟨some 24, .load true 2 (.t 23), none, [4, 5, 6]⟩, ⟨some 25, .eqst true [.s, .i] (.t 20) (.t 24), none, [6, 5, 4, 7, 2, 1, 0, 3]⟩] true) (.cond (.t 25) (.seq (.region [⟨some 4, .mov (.c (.bool false)), none, []⟩] false) .ret) .skip))) (.region [⟨some 15, .mov (.t 5), none, []⟩, ⟨some 16, .bin .add (.t 15) (.c (.int .i64 1)), none, []⟩, ⟨some 5, .mov (.t 16), none, []⟩] false)))
def k88_0 : List AIt := [.lp b88_0, .blk 0, .c (.seq (.region [⟨some 4, .mov (.c (.bool true)), none, []⟩] false) .ret)]
def b89_0 : ACode := (.seq (.seq (.region [⟨some 11, .mov (.t 5), none, []⟩, ⟨some 12, .mov (.t 0), none, []⟩, ⟨some 13, .len false (.t 12), none, []⟩, ⟨some 14, .bin .lss (.t 11) (.t 13), none, []⟩] false) (.cond (.t 14) .skip (.exit 0))) (.seq (.block 1 (.seq (.region [⟨some 17, .mov (.t 0), none, []⟩, ⟨some 18, .mov (.t 5), none, []⟩, ⟨some 19, .idx 2 (.t 17) (.t 18), none, [1, 0]⟩, ⟨some 20, .load true 2 (.t 19), none, [0, 1, 2]⟩, ⟨some 21, .mov (.t 1), none, []⟩, ⟨some 22, .mov (.t 5), none, []⟩, ⟨some 23, .idx 2 (.t 21) (.t 22), none, [5, 4]⟩, ⟨some 24, .load true 2 (.t 23), none, [4, 5, 6]⟩, ⟨some 25, .eqst true [.s, .s] (.t 20) (.t 24), none, [6, 5, 4, 7, 2, 1, 0, 3]⟩] true) (.cond (.t 25) (.seq (.region [⟨some 4, .mov (.c (.bool false)), none, []⟩] false) .ret) .skip))) (.region [⟨some 15, .mov (.t 5), none, []⟩, ⟨some 16, .bin .add (.t 15) (.c (.int .i64 1)), none, []⟩, ⟨some 5, .mov (.t 16), none, []⟩] false)))
def k89_0 : List AIt := [.lp b89_0, .blk 0, .c (.seq (.region [⟨some 4, .mov (.c (.bool true)), none, []⟩] false) .ret)]
def b90_0 : ACode := (.seq (.seq (.region [⟨some 11, .mov (.t 5), none, []⟩, ⟨some 12, .mov (.t 0), none, []⟩, ⟨some 13, .len false (.t 12), none, []⟩, ⟨some 14, .bin .lss (.t 11) (.t 13), none, []⟩] false) (.cond (.t 14) .skip (.exit 0))) (.seq (.block 1 (.seq (.region [⟨some 17, .mov (.t 0), none, []⟩, ⟨some 18, .mov (.t 5), none, []⟩, ⟨some 19, .idx 3 (.t 17) (.t 18), none, [1, 0]⟩, ⟨some 20, .load true 3 (.t 19), none, [0, 1, 2]⟩, ⟨some 21, .mov (.t 1), none, []⟩, ⟨some 22, .mov (.t 5), none, []⟩, ⟨some 23, .idx 3 (.t 21) (.t 22), none, [5, 4]⟩, ⟨some 24, .load true 3 (.t 23), none, [4, 5, 6]⟩, ⟨some 25, .eqst true [.s, .s, .b] (.t 20) (.t 24), none, [6, 5, 4, 7, 2, 1, 0, 3]⟩] true) (.cond (.t 25) (.seq (.region [⟨some 4, .mov (.c (.bool false)), none, []⟩] false) .ret) .skip))) (.region [⟨some 15, .mov (.t 5), none, []⟩, ⟨some 16, .bin .add (.t 15) (.c (.int .i64 1)), none, []⟩, ⟨some 5, .mov (.t 16), none, []⟩] false)))
def k90_0 : List AIt := [.lp b90_0, .blk 0, .c (.seq (.region [⟨some 4, .mov (.c (.bool true)), none, []⟩] false) .ret)]
def b102_0 : ACode := (.seq (.region [⟨some 12, .bin .lss (.t 11) (.t 10), none, []⟩] false) (.seq (.cond (.t 12) .skip (.exit 0)) (.seq (.block 1 (.seq (.region [⟨some 13, .idx 2 (.t 9) (.t 11), none, []⟩, ⟨some 14, .load true 2 (.t 13), none, []⟩, ⟨some 5, .box (.c (.agg [(.str []), (.int .i64 0)])), none, []⟩, ⟨none, .store 2 (.t 5) (.t 14), none, []⟩] false) (.region [⟨some 15, .mov (.t 3), none, []⟩, ⟨some 16, .fld 0 1 (.t 5), none, []⟩, ⟨some 17, .load false 1 (.t 16), none, [1]⟩, ⟨some 18, .bin .add (.t 17) (.c (.str [61])), none, [1, 2]⟩, ⟨some 19, .fld 1 1 (.t 5), none, []⟩, ⟨some 20, .load false 1 (.t 19), none, [4]⟩, ⟨some 21, .call (.c (.func 163 [])) [(.t 20), (.c (.int .i64 10))], none, [4, 5]⟩, ⟨some 22, .bin .add (.t 18) (.t 21), none, [5, 4, 6, 2, 1, 3]⟩, ⟨some 23, .bslice 1 [(.t 22)], none, [3, 1, 2, 6, 4, 5, 7]⟩, ⟨some 24, .append 1 16 (.t 15) (.t 23), none, [7, 5, 4, 6, 2, 1, 3, 8, 0]⟩, ⟨some 3, .mov (.t 24), none, [0, 8, 3, 1, 2, 6, 4, 5, 7, 9]⟩] true))) (.region [⟨some 25, .bin .add (.t 11) (.c (.int .i64 1)), none, []⟩, ⟨some 11, .mov (.t 25), none, []⟩] false))))
def k102_0 : List AIt := [.lp b102_0, .blk 0, .c (.seq (.region [⟨some 26, .mov (.t 3), none, []⟩, ⟨some 27, .call (.c (.func 101 [])) [(.t 26), (.c (.str [44]))], none, []⟩, ⟨some 2, .mov (.t 27), none, []⟩] false) .ret)]
def b105_0 : ACode := (.seq (.seq (.region [⟨some 8, .mov (.t 4), none, []⟩, ⟨some 9, .mov (.t 0), none, []⟩, ⟨some 10, .len false (.t 9), none, []⟩, ⟨some 11, .bin .lss (.t 8) (.t 10), none, []⟩] false) (.cond (.t 11) .skip (.exit 0))) (.seq (.block 1 (.seq (.seq (.region [⟨some 14, .mov (.t 4), none, []⟩, ⟨some 15, .bin .gtr (.t 14) (.c (.int .i64 0)), none, []⟩] false) (.cond (.t 15) (.region [⟨some 16, .mov (.t 3), none, []⟩, ⟨some 17, .bin .add (.t 16) (.c (.str [44])), none, []⟩, ⟨some 3, .mov (.t 17), none, []⟩] false) .skip)) (.region [⟨some 18, .mov (.t 3), none, []⟩, ⟨some 19, .mov (.t 0), none, []⟩, ⟨some 20, .mov (.t 4), none, []⟩, ⟨some 21, .idx 2 (.t 19) (.t 20), none, [2, 1]⟩, ⟨some 22, .fld 0 1 (.t 21), none, [1, 2, 3]⟩, ⟨some 23, .load false 1 (.t 22), none, [3, 2, 1, 4]⟩, ⟨some 24, .bin .add (.t 18) (.t 23), none, [4, 1, 2, 3, 5, 0]⟩, ⟨some 25, .bin .add (.t 24) (.c (.str [61])), none, [0, 5, 3, 2, 1, 4, 6]⟩, ⟨some 26, .mov (.t 0), none, []⟩, ⟨some 27, .mov (.t 4), none, []⟩, ⟨some 28, .idx 2 (.t 26) (.t 27), none, [9, 8]⟩, ⟨some 29, .fld 1 1 (.t 28), none, [8, 9, 10]⟩, ⟨some 30, .load false 1 (.t 29), none, [10, 9, 8, 11]⟩, ⟨some 31, .call (.c (.func 71 [])) [(.t 30)], none, [11, 8, 9, 10, 12]⟩, ⟨some 32, .bin .add (.t 25) (.t 31), none, [12, 10, 9, 8, 11, 13, 6, 4, 1, 2, 3, 5, 0, 7]⟩, ⟨some 3, .mov (.t 32), none, [7, 0, 5, 3, 2, 1, 4, 6, 13, 11, 8, 9, 10, 12, 14]⟩] true))) (.region [⟨some 12, .mov (.t 4), none, []⟩, ⟨some 13, .bin .add (.t 12) (.c (.int .i64 1)), none, []⟩, ⟨some 4, .mov (.t 13), none, []⟩] false)))
def k105_0 : List AIt := [.lp b105_0, .blk 0, .c (.seq (.region [⟨some 33, .mov (.t 3), none, []⟩, ⟨some 2, .mov (.t 33), none, []⟩] false) .ret)]
def b106_0 : ACode := (.seq (.seq (.region [⟨some 5, .mov (.t 4), none, []⟩, ⟨some 6, .mov (.t 0), none, []⟩, ⟨some 7, .len false (.t 6), none, []⟩, ⟨some 8, .bin .lss (.t 5) (.t 7), none, []⟩] false) (.cond (.t 8) .skip (.exit 0))) (.seq (.block 1 (.region [⟨some 11, .mov (.t 3), none, []⟩, ⟨some 12, .mov (.t 0), none, []⟩, ⟨some 13, .mov (.t 4), none, []⟩, ⟨some 14, .idx 2 (.t 12) (.t 13), none, [2, 1]⟩, ⟨some 15, .fld 0 1 (.t 14), none, [1, 2, 3]⟩, ⟨some 16, .load false 1 (.t 15), none, [3, 2, 1, 4]⟩, ⟨some 17, .bin .add (.t 16) (.c (.str [58])), none, [4, 1, 2, 3, 5]⟩, ⟨some 18, .mov (.t 0), none, []⟩, ⟨some 19, .mov (.t 4), none, []⟩, ⟨some 20, .idx 2 (.t 18) (.t 19), none, [8, 7]⟩, ⟨some 21, .fld 1 1 (.t 20), none, [7, 8, 9]⟩, ⟨some 22, .load false 1 (.t 21), none, [9, 8, 7, 10]⟩, ⟨some 23, .bin .add (.t 17) (.t 22), none, [10, 7, 8, 9, 11, 5, 3, 2, 1, 4, 6]⟩, ⟨some 24, .bslice 1 [(.t 23)], none, [6, 4, 1, 2, 3, 5, 11, 9, 8, 7, 10, 12]⟩, ⟨some 25, .append 1 16 (.t 11) (.t 24), none, [12, 10, 7, 8, 9, 11, 5, 3, 2, 1, 4, 6, 13, 0]⟩, ⟨some 3, .mov (.t 25), none, [0, 13, 6, 4, 1, 2, 3, 5, 11, 9, 8, 7, 10, 12, 14]⟩] true)) (.region [⟨some 9, .mov (.t 4), none, []⟩, ⟨some 10, .bin .add (.t 9) (.c (.int .i64 1)), none, []⟩, ⟨some 4, .mov (.t 10), none, []⟩] false)))
def k106_0 : List AIt := [.lp b106_0, .blk 0, .c (.seq (.region [⟨some 26, .mov (.t 3), none, []⟩, ⟨some 27, .call (.c (.func 142 [])) [(.t 26)], none, []⟩, ⟨some 2, .mov (.t 27), none, []⟩] false) .ret)]
def b107_0 : ACode := (.seq (.seq (.region [⟨some 6, .mov (.t 4), none, []⟩, ⟨some 7, .mov (.t 0), none, []⟩, ⟨some 8, .len false (.t 7), none, []⟩, ⟨some 9, .bin .lss (.t 6) (.t 8), none, []⟩] false) (.cond (.t 9) .skip (.exit 0))) (.seq (.block 1 (.seq (.region [⟨some 12, .mov (.t 0), none, []⟩, ⟨some 13, .mov (.t 4), none, []⟩, ⟨some 14, .idx 3 (.t 12) (.t 13), none, [1, 0]⟩, ⟨some 15, .fld 0 1 (.t 14), none, [0, 1, 2]⟩, ⟨some 16, .load false 1 (.t 15), none, [2, 1, 0, 3]⟩, ⟨some 17, .bin .add (.t 16) (.c (.str [58])), none, [3, 0, 1, 2, 4]⟩, ⟨some 18, .mov (.t 0), none, []⟩, ⟨some 19, .mov (.t 4), none, []⟩, ⟨some 20, .idx 3 (.t 18) (.t 19), none, [7, 6]⟩, ⟨some 21, .fld 1 1 (.t 20), none, [6, 7, 8]⟩, ⟨some 22, .load false 1 (.t 21), none, [8, 7, 6, 9]⟩, ⟨some 23, .bin .add (.t 17) (.t 22), none, [9, 6, 7, 8, 10, 4, 2, 1, 0, 3, 5]⟩, ⟨some 5, .mov (.t 23), none, [5, 3, 0, 1, 2, 4, 10, 8, 7, 6, 9, 11]⟩] true) (.seq (.seq (.region [⟨some 24, .mov (.t 0), none, []⟩, ⟨some 25, .mov (.t 4), none, []⟩, ⟨some 26, .idx 3 (.t 24) (.t 25), none, []⟩, ⟨some 27, .fld 2 1 (.t 26), none, []⟩, ⟨some 28, .load false 1 (.t 27), none, []⟩] false) (.cond (.t 28) (.region [⟨some 29, .mov (.t 5), none, []⟩, ⟨some 30, .bin .add (.t 29) (.c (.str [33])), none, []⟩, ⟨some 5, .mov (.t 30), none, []⟩] false) .skip)) (.region [⟨some 31, .mov (.t 3), none, []⟩, ⟨some 32, .mov (.t 5), none, []⟩, ⟨some 33, .bslice 1 [(.t 32)], none, []⟩, ⟨some 34, .append 1 16 (.t 31) (.t 33), none, []⟩, ⟨some 3, .mov (.t 34), none, []⟩] false)))) (.region [⟨some 10, .mov (.t 4), none, []⟩, ⟨some 11, .bin .add (.t 10) (.c (.int .i64 1)), none, []⟩, ⟨some 4, .mov (.t 11), none, []⟩] false)))
def k107_0 : List AIt := [.lp b107_0, .blk 0, .c (.seq (.region [⟨some 35, .mov (.t 3), none, []⟩, ⟨some 36, .call (.c (.func 142 [])) [(.t 35)], none, []⟩, ⟨some 2, .mov (.t 36), none, []⟩] false) .ret)]
def b142_0 : ACode := (.seq (.seq (.region [⟨some 11, .mov (.t 4), none, []⟩, ⟨some 12, .mov (.t 0), none, []⟩, ⟨some 13, .len false (.t 12), none, []⟩, ⟨some 14, .bin .lss (.t 11) (.t 13), none, []⟩] false) (.cond (.t 14) .skip (.exit 0))) (.seq (.block 1 (.region [⟨some 17, .mov (.t 3), none, []⟩, ⟨some 18, .bin .add (.t 17) (.c (.str [44])), none, []⟩, ⟨some 19, .mov (.t 0), none, []⟩, ⟨some 20, .mov (.t 4), none, []⟩, ⟨some 21, .idx 1 (.t 19) (.t 20), none, []⟩, ⟨some 22, .load false 1 (.t 21), none, []⟩, ⟨some 23, .bin .add (.t 18) (.t 22), none, []⟩, ⟨some 3, .mov (.t 23), none, []⟩] false)) (.region [⟨some 15, .mov (.t 4), none, []⟩, ⟨some 16, .bin .add (.t 15) (.c (.int .i64 1)), none, []⟩, ⟨some 4, .mov (.t 16), none, []⟩] false)))
def k142_0 : List AIt := [.lp b142_0, .blk 0, .c (.seq (.region [⟨some 24, .mov (.t 3), none, []⟩, ⟨some 2, .mov (.t 24), none, []⟩] false) .ret)]
def b146_0 : ACode := (.seq (.region [⟨some 14, .bin .lss (.t 13) (.t 12), none, []⟩] false) (.seq (.cond (.t 14) .skip (.exit 0)) (.seq (.block 1 (.seq (.region [⟨some 15, .mov (.t 13), none, []⟩, ⟨some 5, .mov (.t 15), none, []⟩] false) (.seq (.region [⟨some 16, .mov (.t 0), none, []⟩, ⟨some 17, .mov (.t 5), none, []⟩, ⟨some 18, .idx 2 (.t 16) (.t 17), none, [1, 0]⟩, ⟨some 19, .load true 2 (.t 18), none, [0, 1, 2]⟩, ⟨some 20, .mov (.t 1), none, []⟩, ⟨some 21, .mov (.t 5), none, []⟩, ⟨some 22, .idx 2 (.t 20) (.t 21), none, [5, 4]⟩, ⟨some 23, .load true 2 (.t 22), none, [4, 5, 6]⟩, ⟨some 24, .eqst true [.s, .i] (.t 19) (.t 23), none, [6, 5, 4, 7, 2, 1, 0, 3]⟩] true) (.cond (.t 24) (.seq (.region [⟨some 4, .mov (.c (.bool false)), none, []⟩] false) .ret) .skip)))) (.region [⟨some 25, .bin .add (.t 13) (.c (.int .i64 1)), none, []⟩, ⟨some 13, .mov (.t 25), none, []⟩] false))))
def k146_0 : List AIt := [.lp b146_0, .blk 0, .c (.seq (.region [⟨some 4, .mov (.c (.bool true)), none, []⟩] false) .ret)]
def b148_0 : ACode := (.seq (.seq (.region [⟨some 34, .mov (.t 10), none, []⟩, ⟨some 35, .mov (.t 3), none, []⟩, ⟨some 36, .bin .lss (.t 34) (.t 35), none, []⟩] false) (.cond (.t 36) .skip (.exit 0))) (.block 1 (.seq (.region [⟨some 37, .mov (.t 0), none, []⟩, ⟨some 38, .mov (.t 1), none, []⟩, ⟨some 39, .callM (.c (.func 194 [])) [(.t 37), (.t 38)], none, []⟩, ⟨some 11, .mov (.t 39), none, []⟩] false) (.seq (.seq (.region [⟨some 40, .mov (.t 11), none, []⟩, ⟨some 41, .bin .lss (.t 40) (.c (.int .i64 0)), none, []⟩] false) (.cond (.t 41) (.exit 0) .skip)) (.seq (.region [⟨some 42, .mov (.t 9), none, []⟩, ⟨some 43, .mov (.t 10), none, []⟩, ⟨some 44, .mov (.t 0), none, []⟩, ⟨some 45, .mov (.t 11), none, []⟩, ⟨some 46, .mov (.t 2), none, []⟩, ⟨some 47, .bin .add (.t 45) (.t 46), none, []⟩, ⟨some 48, .slice 0 (.t 44) none (some (.t 47)) none, none, []⟩, ⟨some 49, .idx 1 (.t 42) (.t 43), none, []⟩, ⟨none, .store 1 (.t 49) (.t 48), none, []⟩] false) (.seq (.region [⟨some 50, .mov (.t 0), none, []⟩, ⟨some 51, .mov (.t 11), none, []⟩, ⟨some 52, .mov (.t 1), none, []⟩, ⟨some 53, .len true (.t 52), none, []⟩, ⟨some 54, .bin .add (.t 51) (.t 53), none, []⟩, ⟨some 55, .slice 0 (.t 50) (some (.t 54)) none none, none, []⟩, ⟨some 0, .mov (.t 55), none, []⟩] false) (.region [⟨some 56, .mov (.t 10), none, []⟩, ⟨some 57, .bin .add (.t 56) (.c (.int .i64 1)), none, []⟩, ⟨some 10, .mov (.t 57), none, []⟩] false)))))))
def k148_0 : List AIt := [.lp b148_0, .blk 0, .c (.seq (.region [⟨some 58, .mov (.t 9), none, []⟩, ⟨some 59, .mov (.t 10), none, []⟩, ⟨some 60, .mov (.t 0), none, []⟩, ⟨some 61, .idx 1 (.t 58) (.t 59), none, []⟩, ⟨none, .store 1 (.t 61) (.t 60), none, []⟩] false) (.seq (.region [⟨some 62, .mov (.t 9), none, []⟩, ⟨some 63, .mov (.t 10), none, []⟩, ⟨some 64, .bin .add (.t 63) (.c (.int .i64 1)), none, []⟩, ⟨some 65, .slice 1 (.t 62) none (some (.t 64)) none, none, []⟩, ⟨some 8, .mov (.t 65), none, []⟩] false) .ret))]
def ra149_0 : ACode := (.region [⟨some 3, .mov (.t 11), none, []⟩] false)
def rb149_0 : ACode := (.block 1 (.seq (.region [⟨some 13, .mov (.t 3), none, []⟩, ⟨some 14, .call (.c (.func 151 [])) [(.t 13), (.c (.str [61]))], none, []⟩, ⟨some 12, .mov (.t 14), none, []⟩, ⟨some 15, .extract (.t 12) 0, none, []⟩, ⟨some 16, .extract (.t 12) 1, none, []⟩, ⟨some 17, .extract (.t 12) 2, none, []⟩, ⟨some 4, .mov (.t 15), none, []⟩, ⟨some 5, .mov (.t 16), none, []⟩, ⟨some 6, .mov (.t 17), none, []⟩] false) (.seq (.region [⟨some 19, .mov (.t 5), none, []⟩, ⟨some 20, .call (.c (.func 152 [])) [(.t 19)], none, []⟩, ⟨some 18, .mov (.t 20), none, []⟩, ⟨some 21, .extract (.t 18) 0, none, []⟩, ⟨some 22, .extract (.t 18) 1, none, []⟩, ⟨some 7, .mov (.t 21), none, []⟩, ⟨some 8, .mov (.t 22), none, []⟩] false) (.seq (.seq (.region [⟨some 23, .mov (.t 6), none, []⟩, ⟨some 24, .un .not (.t 23), none, []⟩, ⟨some 25, .mov (.t 24), none, []⟩, ⟨some 26, .mov (.t 8), some (25, false), []⟩, ⟨some 27, .bin .eql (.t 26) (.c (.int .i64 2)), some (25, false), []⟩, ⟨some 28, .pick (.t 25) (.c (.bool true)) (.t 27), none, []⟩] false) (.cond (.t 28) (.region [⟨some 29, .call (.c (.func 94 [])) [(.c (.int .i64 2))], none, []⟩] false) .skip)) (.seq (.region [⟨some 30, .load false 1 (.t 2), none, []⟩, ⟨some 31, .mov (.t 8), none, []⟩, ⟨some 32, .mm true (.t 30) (.t 31), none, []⟩, ⟨none, .store 1 (.t 2) (.t 32), none, []⟩] false) (.region [⟨some 33, .load false 1 (.t 1), none, []⟩, ⟨some 34, .mov (.t 4), none, []⟩, ⟨some 35, .mov (.t 7), none, []⟩, ⟨some 36, .build [(.str []), (.int .i64 0)] [(0, 1, (.t 34)), (1, 1, (.t 35))], none, []⟩, ⟨some 37, .bslice 2 [(.t 36)], none, []⟩, ⟨some 38, .append 2 24 (.t 33) (.t 37), none, []⟩, ⟨none, .store 1 (.t 1) (.t 38), none, []⟩] false))))))
def kr149_0 : List AIt := [.c (.range (.t 10) [11] ra149_0 rb149_0), .blk 0, .c (.seq (.region [⟨some 39, .load false 1 (.t 2), none, []⟩, ⟨some 40, .call (.c (.func 94 [])) [(.t 39)], none, []⟩] false) (.region [⟨some 41, .load false 1 (.t 1), none, []⟩, ⟨some 42, .call (.c (.func 82 [])) [(.t 41)], none, []⟩, ⟨some 43, .call (.c (.func 94 [])) [(.t 42)], none, []⟩] false))]
def b164_0 : ACode := (.seq (.region [⟨some 14, .bin .lss (.t 13) (.t 12), none, []⟩] false) (.seq (.cond (.t 14) .skip (.exit 0)) (.seq (.block 1 (.seq (.region [⟨some 15, .idx 2 (.t 11) (.t 13), none, []⟩, ⟨some 16, .load true 2 (.t 15), none, []⟩, ⟨some 7, .box (.c (.agg [(.str []), (.str [])])), none, []⟩, ⟨none, .store 2 (.t 7) (.t 16), none, []⟩] false) (.region [⟨some 17, .mov (.t 5), none, []⟩, ⟨some 18, .mov (.t 1), none, []⟩, ⟨some 19, .load true 2 (.t 7), none, []⟩, ⟨some 20, .call (.t 18) [(.t 19)], none, []⟩, ⟨some 21, .bslice 1 [(.t 20)], none, []⟩, ⟨some 22, .append 1 16 (.t 17) (.t 21), none, []⟩, ⟨some 5, .mov (.t 22), none, []⟩] false))) (.region [⟨some 23, .bin .add (.t 13) (.c (.int .i64 1)), none, []⟩, ⟨some 13, .mov (.t 23), none, []⟩] false))))
def k164_0 : List AIt := [.lp b164_0, .blk 0, .c (.seq (.region [⟨some 24, .mov (.t 5), none, []⟩, ⟨some 25, .call (.c (.func 101 [])) [(.t 24), (.c (.str [44]))], none, []⟩, ⟨some 4, .mov (.t 25), none, []⟩] false) .ret)]
def b166_0 : ACode := (.seq (.region [⟨some 14, .bin .lss (.t 13) (.t 12), none, []⟩] false) (.seq (.cond (.t 14) .skip (.exit 0)) (.seq (.block 1 (.seq (.region [⟨some 15, .idx 3 (.t 11) (.t 13), none, []⟩, ⟨some 16, .load true 3 (.t 15), none, []⟩, ⟨some 7, .box (.c (.agg [(.str []), (.str []), (.bool false)])), none, []⟩, ⟨none, .store 3 (.t 7) (.t 16), none, []⟩] false) (.region [⟨some 17, .mov (.t 5), none, []⟩, ⟨some 18, .mov (.t 1), none, []⟩, ⟨some 19, .load true 3 (.t 7), none, []⟩, ⟨some 20, .call (.t 18) [(.t 19)], none, []⟩, ⟨some 21, .bslice 1 [(.t 20)], none, []⟩, ⟨some 22, .append 1 16 (.t 17) (.t 21), none, []⟩, ⟨some 5, .mov (.t 22), none, []⟩] false))) (.region [⟨some 23, .bin .add (.t 13) (.c (.int .i64 1)), none, []⟩, ⟨some 13, .mov (.t 23), none, []⟩] false))))
def k166_0 : List AIt := [.lp b166_0, .blk 0, .c (.seq (.region [⟨some 24, .mov (.t 5), none, []⟩, ⟨some 25, .call (.c (.func 101 [])) [(.t 24), (.c (.str [44]))], none, []⟩, ⟨some 4, .mov (.t 25), none, []⟩] false) .ret)]
def b191_0 : ACode := (.seq (.region [⟨some 9, .bin .lss (.t 8) (.t 7), none, []⟩] false) (.seq (.cond (.t 9) .skip (.exit 0)) (.seq (.block 1 (.seq (.region [⟨some 10, .mov (.t 8), none, []⟩, ⟨some 5, .mov (.t 10), none, []⟩] false) (.seq (.region [⟨some 11, .mov (.t 1), none, []⟩, ⟨some 12, .mov (.t 0), none, []⟩, ⟨some 13, .mov (.t 5), none, []⟩, ⟨some 14, .idx 3 (.t 12) (.t 13), none, []⟩, ⟨some 15, .load true 3 (.t 14), none, []⟩, ⟨some 16, .call (.t 11) [(.t 15)], none, []⟩] false) (.cond (.t 16) (.seq (.region [⟨some 17, .mov (.t 5), none, []⟩, ⟨some 4, .mov (.t 17), none, []⟩] false) .ret) .skip)))) (.region [⟨some 18, .bin .add (.t 8) (.c (.int .i64 1)), none, []⟩, ⟨some 8, .mov (.t 18), none, []⟩] false))))
def k191_0 : List AIt := [.lp b191_0, .blk 0, .c (.seq (.region [⟨some 4, .mov (.c (.int .i64 (-1))), none, []⟩] false) .ret)]
def ra198_0 : ACode := (.region [⟨some 4, .mov (.t 7), none, []⟩] false)
def rb198_0 : ACode := (.block 1 (.seq (.seq (.region [⟨some 8, .mov (.t 4), none, []⟩, ⟨some 9, .bin .eql (.t 8) (.c (.str [])), none, []⟩] false) (.cond (.t 9) (.region [⟨some 10, .call (.c (.func 94 [])) [(.c (.int .i64 2))], none, []⟩] false) .skip)) (.region [⟨some 11, .load false 1 (.t 1), none, []⟩, ⟨some 12, .load false 1 (.t 2), none, []⟩, ⟨some 13, .mov (.t 4), none, []⟩, ⟨some 14, .call (.t 12) [(.t 13)], none, [2, 1]⟩, ⟨some 15, .bslice 2 [(.t 14)], none, [1, 2, 3]⟩, ⟨some 16, .append 2 32 (.t 11) (.t 15), none, [3, 2, 1, 4, 0]⟩, ⟨none, .store 1 (.t 1) (.t 16), none, [0, 4, 1, 2, 3, 5]⟩] true)))
def kr198_0 : List AIt := [.c (.range (.t 6) [7] ra198_0 rb198_0), .blk 0, .c (.region [⟨some 17, .load false 1 (.t 3), none, []⟩, ⟨some 18, .load false 1 (.t 1), none, []⟩, ⟨some 19, .call (.t 17) [(.t 18)], none, []⟩, ⟨some 20, .call (.c (.func 94 [])) [(.t 19)], none, []⟩] false)]
def ra199_0 : ACode := (.region [⟨some 4, .mov (.t 7), none, []⟩] false)
def rb199_0 : ACode := (.block 1 (.seq (.seq (.region [⟨some 8, .mov (.t 4), none, []⟩, ⟨some 9, .bin .eql (.t 8) (.c (.str [])), none, []⟩] false) (.cond (.t 9) (.region [⟨some 10, .call (.c (.func 94 [])) [(.c (.int .i64 2))], none, []⟩] false) .skip)) (.region [⟨some 11, .load false 1 (.t 1), none, []⟩, ⟨some 12, .load false 1 (.t 2), none, []⟩, ⟨some 13, .mov (.t 4), none, []⟩, ⟨some 14, .call (.t 12) [(.t 13)], none, [2, 1]⟩, ⟨some 15, .bslice 3 [(.t 14)], none, [1, 2, 3]⟩, ⟨some 16, .append 3 40 (.t 11) (.t 15), none, [3, 2, 1, 4, 0]⟩, ⟨none, .store 1 (.t 1) (.t 16), none, [0, 4, 1, 2, 3, 5]⟩] true)))
def kr199_0 : List AIt := [.c (.range (.t 6) [7] ra199_0 rb199_0), .blk 0, .c (.region [⟨some 17, .load false 1 (.t 3), none, []⟩, ⟨some 18, .load false 1 (.t 1), none, []⟩, ⟨some 19, .call (.t 17) [(.t 18)], none, []⟩, ⟨some 20, .call (.c (.func 94 [])) [(.t 19)], none, []⟩] false)]
def b226_1 : ACode := (.block 3 (.seq (.region [⟨some 29, .load false 1 (.t 2), none, []⟩, ⟨some 30, .load false 1 (.t 1), none, []⟩, ⟨some 31, .call (.c (.func 194 [])) [(.t 29), (.t 30)], none, []⟩, ⟨some 7, .mov (.t 31), none, []⟩] false) (.seq (.seq (.region [⟨some 32, .mov (.t 7), none, []⟩, ⟨some 33, .bin .lss (.t 32) (.c (.int .i64 0)), none, []⟩] false) (.cond (.t 33) (.exit 2) .skip)) (.seq (.region [⟨some 34, .load false 1 (.t 2), none, []⟩, ⟨some 35, .mov (.t 7), none, []⟩, ⟨some 36, .load false 1 (.t 3), none, []⟩, ⟨some 37, .bin .add (.t 35) (.t 36), none, []⟩, ⟨some 38, .slice 0 (.t 34) none (some (.t 37)) none, none, []⟩, ⟨some 8, .mov (.t 38), none, []⟩] false) (.seq (.seq (.region [⟨some 39, .mov (.t 0), none, []⟩, ⟨some 40, .mov (.t 8), none, []⟩, ⟨some 41, .call (.t 39) [(.t 40)], none, []⟩, ⟨some 42, .un .not (.t 41), none, []⟩] false) (.cond (.t 42) .ret .skip)) (.region [⟨some 43, .load false 1 (.t 2), none, []⟩, ⟨some 44, .mov (.t 7), none, []⟩, ⟨some 45, .load false 1 (.t 1), none, []⟩, ⟨some 46, .len true (.t 45), none, []⟩, ⟨some 47, .bin .add (.t 44) (.t 46), none, []⟩, ⟨some 48, .slice 0 (.t 43) (some (.t 47)) none none, none, []⟩, ⟨none, .store 1 (.t 2) (.t 48), none, []⟩] false))))))
def k226_1 : List AIt := [.lp b226_1, .blk 2, .c (.region [⟨some 49, .mov (.t 0), none, []⟩, ⟨some 50, .load false 1 (.t 2), none, []⟩, ⟨some 51, .call (.t 49) [(.t 50)], none, []⟩] false)]
end Go.Aa.T

set_option linter.unusedVariables false
set_option linter.unusedSimpArgs false
set_option maxRecDepth 100000
namespace Go.Aa.T
open Go.Aa Go.Proofs
variable {H : Heap}
structure Taint where
  key : List UInt8
  val : List UInt8
  hard : Bool
structure Tol where
  key : List UInt8
  val : List UInt8
  any : Bool
def Taint.cells (t : Taint) : List AV := [.str t.key, .str t.val, .bool t.hard]
def Tol.cells (t : Tol) : List AV := [.str t.key, .str t.val, .bool t.any]
def encT (t : Taint) : AV := .agg t.cells
def encL (t : Tol) : AV := .agg t.cells
instance (t : Taint) : Dat (encT t) := ⟨rfl, rfl⟩
instance (t : Tol) : Dat (encL t) := ⟨rfl, rfl⟩
end Go.Aa.T

set_option linter.unusedVariables false
set_option linter.unusedSimpArgs false
set_option maxRecDepth 100000
namespace Go.Aa.T
open Go.Aa Go.Proofs

def few {α : Type} (f : α → List UInt8 × List UInt8) (l : List α) : Bool := l.all fun x => decide ((f x).1.length ≤ 50) && decide ((f x).2.length ≤ 50)
def fewT (l : List Taint) : Bool := decide (l.length ≤ 20) && few (fun t => (t.key, t.val)) l
def fewL (l : List Tol) : Bool := decide (l.length ≤ 20) && few (fun t => (t.key, t.val)) l
theorem fewT_loop (l : List Taint) (hn : l.length ≤ 20) : ∀ (post : List Taint) (i : Nat) (hd : l.drop i = post) (T : Env) (hT : Has T [(0, .sl .sh (l.map encT)), (3, .int .i64 i)]),
    Goes cfg a72 k72_0 T Heap.nil (IsRet (.bool (few (fun t => (t.key, t.val)) post))) := by
  intro post
  induction post with
  | nil =>
    intro i hd T hT
    have hge := drop_ge hd
    exact goG 60 _  hT  (.len (show lenA false (AV.sl .sh (List.map encT l)) = some (AV.int .i64 (↑l.length : Int)) from len_map _) <| .no (show (decide ((↑i : Int) < (↑l.length : Int))) = false from decide_eq_false (show ¬ ((↑i : Int) < (↑l.length : Int)) from (by omega))) <| .fin ((ARes.ret (AV.bool true), { boxes := [], toks := [], loops := [] : Heap })) rfl) (by kernel_rfl)
  | cons x post ih =>
    intro i hd T hT
    have hlt := drop_lt hd
    have hnx := drop_next hd
    exact goG 60 _  hT  (.len (show lenA false (AV.sl .sh (List.map encT l)) = some (AV.int .i64 (↑l.length : Int)) from len_map _) <| .yes (show (decide ((↑i : Int) < (↑l.length : Int))) = true from decide_eq_true (show (↑i : Int) < (↑l.length : Int) from (by omega))) <| .idx (show idxA 3 (AV.sl .sh (List.map encT l)) (AV.int .i64 (↑i : Int)) = some (AV.ref (encT x).cells) from idx_row hd (by rfl)) <| .len (show lenA true (AV.str x.key) = some (AV.int .i64 (↑x.key.length : Int)) from len_str _) <| .split ((50 : Int) < (↑x.key.length : Int)) (fun h1 => .yes (show (decide ((50 : Int) < (↑x.key.length : Int))) = true from decide_eq_true (show (50 : Int) < (↑x.key.length : Int) from h1)) <| .tt <| .fin ((ARes.ret (AV.bool false), { boxes := [], toks := [], loops := [] : Heap })) (by simp only [IsRet]; grind [few])) (fun h1 => .no (show (decide ((50 : Int) < (↑x.key.length : Int))) = false from decide_eq_false (show ¬ ((50 : Int) < (↑x.key.length : Int)) from h1)) <| .idx (show idxA 3 (AV.sl .sh (List.map encT l)) (AV.int .i64 (↑i : Int)) = some (AV.ref (encT x).cells) from idx_row hd (by rfl)) <| .len (show lenA true (AV.str x.val) = some (AV.int .i64 (↑x.val.length : Int)) from len_str _) <| .split ((50 : Int) < (↑x.val.length : Int)) (fun h2 => .yes (show (decide ((50 : Int) < (↑x.val.length : Int))) = true from decide_eq_true (show (50 : Int) < (↑x.val.length : Int) from h2)) <| .fin ((ARes.ret (AV.bool false), { boxes := [], toks := [], loops := [] : Heap })) (by simp only [IsRet]; grind [few])) (fun h2 => .no (show (decide ((50 : Int) < (↑x.val.length : Int))) = false from decide_eq_false (show ¬ ((50 : Int) < (↑x.val.length : Int)) from h2)) <| .bin (show binA .add (AV.int .i64 (↑i : Int)) (AV.int .i64 1) = some (AV.int .i64 (↑(i + (1 : Nat)) : Int)) from inc_i (by omega)) <| .cutQ k72_0 [(0, AV.sl .sh (List.map encT l)), (3, AV.int .i64 (↑(i + (1 : Nat)) : Int))] ({ boxes := [], toks := [], loops := [] : Heap }) (fun T hT => (ih (i + (1 : Nat)) hnx T hT).to (by grind [few]))))) (by kernel_rfl)
theorem fewT_any (l : List Taint) : Gives cfg 72 [.sl .sh (l.map encT)] (.bool (fewT l)) := by
  refine Gives.run (l72 _ _) ?_
  have h := fun hn => fewT_loop l hn l 0 rfl
  exact goG 60 []  trivial  (.len (show lenA false (AV.sl .sh (List.map encT l)) = some (AV.int .i64 (↑l.length : Int)) from len_map _) <| .split ((20 : Int) < (↑l.length : Int)) (fun h1 => .yes (show (decide ((20 : Int) < (↑l.length : Int))) = true from decide_eq_true (show (20 : Int) < (↑l.length : Int) from h1)) <| .fin ((ARes.ret (AV.bool false), { boxes := [], toks := [], loops := [] : Heap })) (by simp only [IsRet]; grind [fewT])) (fun h1 => .no (show (decide ((20 : Int) < (↑l.length : Int))) = false from decide_eq_false (show ¬ ((20 : Int) < (↑l.length : Int)) from h1)) <| .cutQ k72_0 [(0, AV.sl .sh (List.map encT l)), (3, AV.int .i64 0)] ({ boxes := [], toks := [], loops := [] : Heap }) (fun T hT => (h (by omega) T hT).to (by grind [fewT])))) (by kernel_rfl)

theorem ofT_loop (l : List Taint) (hn : l.length ≤ 20) : ∀ (post : List Taint) (i : Nat) (acc : List AV) (hd : l.drop i = post) (ha : acc.length = i) (hl : lenOk 3 acc = true) (T : Env) (hT : Has T [(0, .sl .sh (l.map encT)), (3, rowS Heap.nil acc), (4, .int .i64 i)]),
    Goes cfg a75 k75_0 T (rowH Heap.nil acc) (IsRet (rowS Heap.nil (acc ++ post.map encT))) := by
  intro post
  induction post with
  | nil =>
    intro i acc hd ha hl T hT
    have hge := drop_ge hd
    exact goG 60 _  hT  (.len (show lenA false (AV.sl .sh (List.map encT l)) = some (AV.int .i64 (↑l.length : Int)) from len_map _) <| .no (show (decide ((↑i : Int) < (↑l.length : Int))) = false from decide_eq_false (show ¬ ((↑i : Int) < (↑l.length : Int)) from (by omega))) <| .fin ((ARes.ret (setD (setD (setD (setD (setD (setD (updL T [((0 : Nat), AV.sl .sh (List.map encT l)), ((3 : Nat), rowS Heap.nil acc), ((4 : Nat), AV.int .i64 (↑i : Int))]) { dst := some (5 : Nat), op := AOp.mov (Opd.t (4 : Nat)), guard := none, deps := [] : AOper }.dst (ev (updL T [((0 : Nat), AV.sl .sh (List.map encT l)), ((3 : Nat), rowS Heap.nil acc), ((4 : Nat), AV.int .i64 (↑i : Int))]) (Opd.t (4 : Nat)))) { dst := some (6 : Nat), op := AOp.mov (Opd.t (0 : Nat)), guard := none, deps := [] : AOper }.dst (ev (setD (updL T [((0 : Nat), AV.sl .sh (List.map encT l)), ((3 : Nat), rowS Heap.nil acc), ((4 : Nat), AV.int .i64 (↑i : Int))]) { dst := some (5 : Nat), op := AOp.mov (Opd.t (4 : Nat)), guard := none, deps := [] : AOper }.dst (ev (updL T [((0 : Nat), AV.sl .sh (List.map encT l)), ((3 : Nat), rowS Heap.nil acc), ((4 : Nat), AV.int .i64 (↑i : Int))]) (Opd.t (4 : Nat)))) (Opd.t (0 : Nat)))) { dst := some (7 : Nat), op := AOp.len false (Opd.t (6 : Nat)), guard := none, deps := [] : AOper }.dst (AV.int .i64 (↑l.length : Int))) { dst := some (8 : Nat), op := AOp.bin BinOp.lss (Opd.t (5 : Nat)) (Opd.t (7 : Nat)), guard := none, deps := [] : AOper }.dst (AV.bool (decide ((↑i : Int) < (↑l.length : Int))))) { dst := some (30 : Nat), op := AOp.mov (Opd.t (3 : Nat)), guard := none, deps := [] : AOper }.dst (ev (setD (setD (setD (setD (updL T [((0 : Nat), AV.sl .sh (List.map encT l)), ((3 : Nat), rowS Heap.nil acc), ((4 : Nat), AV.int .i64 (↑i : Int))]) { dst := some (5 : Nat), op := AOp.mov (Opd.t (4 : Nat)), guard := none, deps := [] : AOper }.dst (ev (updL T [((0 : Nat), AV.sl .sh (List.map encT l)), ((3 : Nat), rowS Heap.nil acc), ((4 : Nat), AV.int .i64 (↑i : Int))]) (Opd.t (4 : Nat)))) { dst := some (6 : Nat), op := AOp.mov (Opd.t (0 : Nat)), guard := none, deps := [] : AOper }.dst (ev (setD (updL T [((0 : Nat), AV.sl .sh (List.map encT l)), ((3 : Nat), rowS Heap.nil acc), ((4 : Nat), AV.int .i64 (↑i : Int))]) { dst := some (5 : Nat), op := AOp.mov (Opd.t (4 : Nat)), guard := none, deps := [] : AOper }.dst (ev (updL T [((0 : Nat), AV.sl .sh (List.map encT l)), ((3 : Nat), rowS Heap.nil acc), ((4 : Nat), AV.int .i64 (↑i : Int))]) (Opd.t (4 : Nat)))) (Opd.t (0 : Nat)))) { dst := some (7 : Nat), op := AOp.len false (Opd.t (6 : Nat)), guard := none, deps := [] : AOper }.dst (AV.int .i64 (↑l.length : Int))) { dst := some (8 : Nat), op := AOp.bin BinOp.lss (Opd.t (5 : Nat)) (Opd.t (7 : Nat)), guard := none, deps := [] : AOper }.dst (AV.bool (decide ((↑i : Int) < (↑l.length : Int))))) (Opd.t (3 : Nat)))) { dst := some (2 : Nat), op := AOp.mov (Opd.t (30 : Nat)), guard := none, deps := [] : AOper }.dst (ev (setD (setD (setD (setD (setD (updL T [((0 : Nat), AV.sl .sh (List.map encT l)), ((3 : Nat), rowS Heap.nil acc), ((4 : Nat), AV.int .i64 (↑i : Int))]) { dst := some (5 : Nat), op := AOp.mov (Opd.t (4 : Nat)), guard := none, deps := [] : AOper }.dst (ev (updL T [((0 : Nat), AV.sl .sh (List.map encT l)), ((3 : Nat), rowS Heap.nil acc), ((4 : Nat), AV.int .i64 (↑i : Int))]) (Opd.t (4 : Nat)))) { dst := some (6 : Nat), op := AOp.mov (Opd.t (0 : Nat)), guard := none, deps := [] : AOper }.dst (ev (setD (updL T [((0 : Nat), AV.sl .sh (List.map encT l)), ((3 : Nat), rowS Heap.nil acc), ((4 : Nat), AV.int .i64 (↑i : Int))]) { dst := some (5 : Nat), op := AOp.mov (Opd.t (4 : Nat)), guard := none, deps := [] : AOper }.dst (ev (updL T [((0 : Nat), AV.sl .sh (List.map encT l)), ((3 : Nat), rowS Heap.nil acc), ((4 : Nat), AV.int .i64 (↑i : Int))]) (Opd.t (4 : Nat)))) (Opd.t (0 : Nat)))) { dst := some (7 : Nat), op := AOp.len false (Opd.t (6 : Nat)), guard := none, deps := [] : AOper }.dst (AV.int .i64 (↑l.length : Int))) { dst := some (8 : Nat), op := AOp.bin BinOp.lss (Opd.t (5 : Nat)) (Opd.t (7 : Nat)), guard := none, deps := [] : AOper }.dst (AV.bool (decide ((↑i : Int) < (↑l.length : Int))))) { dst := some (30 : Nat), op := AOp.mov (Opd.t (3 : Nat)), guard := none, deps := [] : AOper }.dst (ev (setD (setD (setD (setD (updL T [((0 : Nat), AV.sl .sh (List.map encT l)), ((3 : Nat), rowS Heap.nil acc), ((4 : Nat), AV.int .i64 (↑i : Int))]) { dst := some (5 : Nat), op := AOp.mov (Opd.t (4 : Nat)), guard := none, deps := [] : AOper }.dst (ev (updL T [((0 : Nat), AV.sl .sh (List.map encT l)), ((3 : Nat), rowS Heap.nil acc), ((4 : Nat), AV.int .i64 (↑i : Int))]) (Opd.t (4 : Nat)))) { dst := some (6 : Nat), op := AOp.mov (Opd.t (0 : Nat)), guard := none, deps := [] : AOper }.dst (ev (setD (updL T [((0 : Nat), AV.sl .sh (List.map encT l)), ((3 : Nat), rowS Heap.nil acc), ((4 : Nat), AV.int .i64 (↑i : Int))]) { dst := some (5 : Nat), op := AOp.mov (Opd.t (4 : Nat)), guard := none, deps := [] : AOper }.dst (ev (updL T [((0 : Nat), AV.sl .sh (List.map encT l)), ((3 : Nat), rowS Heap.nil acc), ((4 : Nat), AV.int .i64 (↑i : Int))]) (Opd.t (4 : Nat)))) (Opd.t (0 : Nat)))) { dst := some (7 : Nat), op := AOp.len false (Opd.t (6 : Nat)), guard := none, deps := [] : AOper }.dst (AV.int .i64 (↑l.length : Int))) { dst := some (8 : Nat), op := AOp.bin BinOp.lss (Opd.t (5 : Nat)) (Opd.t (7 : Nat)), guard := none, deps := [] : AOper }.dst (AV.bool (decide ((↑i : Int) < (↑l.length : Int))))) (Opd.t (3 : Nat)))) (Opd.t (30 : Nat))) (2 : Nat)), rowH Heap.nil acc)) (by simp only [IsRet, List.map_nil, List.append_nil]; rfl)) (by kernel_rfl)
  | cons x post ih =>
    intro i acc hd ha hl T hT
    have hlt := drop_lt hd
    have hnx := drop_next hd
    exact goG 60 _  hT  (.len (show lenA false (AV.sl .sh (List.map encT l)) = some (AV.int .i64 (↑l.length : Int)) from len_map _) <| .yes (show (decide ((↑i : Int) < (↑l.length : Int))) = true from decide_eq_true (show (↑i : Int) < (↑l.length : Int) from (by simp; omega))) <| .idx (show idxA 3 (AV.sl .sh (List.map encT l)) (AV.int .i64 (↑i : Int)) = some (AV.ref (encT x).cells) from idx_row hd (by rfl)) <| .load (show loadA false 1 (rowH Heap.nil acc) (AV.ref [AV.str x.key]) = some (AV.str x.key) from rfl) <| .idx (show idxA 3 (AV.sl .sh (List.map encT l)) (AV.int .i64 (↑i : Int)) = some (AV.ref (encT x).cells) from idx_row hd (by rfl)) <| .load (show loadA false 1 (rowH Heap.nil acc) (AV.ref [AV.str x.val]) = some (AV.str x.val) from rfl) <| .idx (show idxA 3 (AV.sl .sh (List.map encT l)) (AV.int .i64 (↑i : Int)) = some (AV.ref (encT x).cells) from idx_row hd (by rfl)) <| .load (show loadA false 1 (rowH Heap.nil acc) (AV.ref [AV.bool x.hard]) = some (AV.bool x.hard) from rfl) <| .append (show appendA (3 : Nat) (40 : Nat) (rowH Heap.nil acc) (rowS Heap.nil acc) (AV.sl .full [AV.agg [AV.str x.key, AV.str x.val, AV.bool x.hard]]) = some ((rowS Heap.nil (acc ++ [AV.agg [AV.str x.key, AV.str x.val, AV.bool x.hard]]), rowH Heap.nil (acc ++ [AV.agg [AV.str x.key, AV.str x.val, AV.bool x.hard]]))) from row_append (by omega) hl (by rfl) (by rfl)) <| .bin (show binA .add (AV.int .i64 (↑i : Int)) (AV.int .i64 1) = some (AV.int .i64 (↑(i + (1 : Nat)) : Int)) from inc_i (by omega)) <| .cutQ k75_0 [(0, AV.sl .sh (List.map encT l)), (3, rowS Heap.nil (acc ++ [AV.agg [AV.str x.key, AV.str x.val, AV.bool x.hard]])), (4, AV.int .i64 (↑(i + (1 : Nat)) : Int))] (rowH Heap.nil (acc ++ [AV.agg [AV.str x.key, AV.str x.val, AV.bool x.hard]])) (fun T hT => (ih (i + (1 : Nat)) (acc ++ [AV.agg [AV.str x.key, AV.str x.val, AV.bool x.hard]]) hnx (by simp; omega) (by exact lenOk_snoc (by assumption) rfl) T hT).to (by simp [encT, Taint.cells]))) (by kernel_rfl)
theorem ofT_any (l : List Taint) (hn : l.length ≤ 20) : Gives cfg 75 [.sl .sh (l.map encT)] (rowS Heap.nil (l.map encT)) := by
  refine Gives.run (l75 _ _) ?_
  have h := ofT_loop l hn l 0 [] rfl rfl rfl
  exact goG 60 []  trivial  (.cutQ k75_0 [(0, AV.sl .sh (List.map encT l)), (3, AV.sl .full []), (4, AV.int .i64 0)] ({ boxes := [], toks := [], loops := [] : Heap }) (fun T hT => (h T hT))) (by kernel_rfl)

def nameCh (c : UInt8) : Bool := (decide (97 ≤ c.toNat) && decide (c.toNat ≤ 122)) || (decide (48 ≤ c.toNat) && decide (c.toNat ≤ 57))
def isName (s : List UInt8) : Bool := decide (1 ≤ s.length) && decide (s.length ≤ 12) && s.all nameCh
theorem name_loop (s : List UInt8) (hn : s.length ≤ 12) : ∀ (post : List UInt8) (i : Nat) (hd : s.drop i = post) (T : Env) (hT : Has T [(0, .str s), (3, .int .i64 i)]),
    Goes cfg a76 k76_0 T Heap.nil (IsRet (.bool (post.all nameCh))) := by
  intro post
  induction post with
  | nil =>
    intro i hd T hT
    have hge := drop_ge hd
    exact goG 60 _  hT  (.len (show lenA true (AV.str s) = some (AV.int .i64 (↑s.length : Int)) from len_str _) <| .no (show (decide ((↑i : Int) < (↑s.length : Int))) = false from decide_eq_false (show ¬ ((↑i : Int) < (↑s.length : Int)) from (by omega))) <| .fin ((ARes.ret (AV.bool true), { boxes := [], toks := [], loops := [] : Heap })) rfl) (by kernel_rfl)
  | cons x post ih =>
    intro i hd T hT
    have hlt := drop_lt hd
    have hnx := drop_next hd
    exact goG 60 _  hT  (.len (show lenA true (AV.str s) = some (AV.int .i64 (↑s.length : Int)) from len_str _) <| .yes (show (decide ((↑i : Int) < (↑s.length : Int))) = true from decide_eq_true (show (↑i : Int) < (↑s.length : Int) from (by omega))) <| .idxs (show idxsA (AV.str s) (AV.int .i64 (↑i : Int)) = some (AV.int .u8 (↑x.toNat : Int)) from idx_str hd) <| .split ((↑x.toNat : Int) < (97 : Int)) (fun h1 => .yes (show (decide ((↑x.toNat : Int) < (97 : Int))) = true from decide_eq_true (show (↑x.toNat : Int) < (97 : Int) from h1)) <| .tt <| .idxs (show idxsA (AV.str s) (AV.int .i64 (↑i : Int)) = some (AV.int .u8 (↑x.toNat : Int)) from idx_str hd) <| .split ((↑x.toNat : Int) < (48 : Int)) (fun h2 => .yes (show (decide ((↑x.toNat : Int) < (48 : Int))) = true from decide_eq_true (show (↑x.toNat : Int) < (48 : Int) from h2)) <| .tt <| .fin ((ARes.ret (AV.bool false), { boxes := [], toks := [], loops := [] : Heap })) (by simp only [IsRet]; grind [nameCh])) (fun h2 => .no (show (decide ((↑x.toNat : Int) < (48 : Int))) = false from decide_eq_false (show ¬ ((↑x.toNat : Int) < (48 : Int)) from h2)) <| .idxs (show idxsA (AV.str s) (AV.int .i64 (↑i : Int)) = some (AV.int .u8 (↑x.toNat : Int)) from idx_str hd) <| .split ((57 : Int) < (↑x.toNat : Int)) (fun h3 => .yes (show (decide ((57 : Int) < (↑x.toNat : Int))) = true from decide_eq_true (show (57 : Int) < (↑x.toNat : Int) from h3)) <| .fin ((ARes.ret (AV.bool false), { boxes := [], toks := [], loops := [] : Heap })) (by simp only [IsRet]; grind [nameCh])) (fun h3 => .no (show (decide ((57 : Int) < (↑x.toNat : Int))) = false from decide_eq_false (show ¬ ((57 : Int) < (↑x.toNat : Int)) from h3)) <| .bin (show binA .add (AV.int .i64 (↑i : Int)) (AV.int .i64 1) = some (AV.int .i64 (↑(i + (1 : Nat)) : Int)) from inc_i (by omega)) <| .cutQ k76_0 [(0, AV.str s), (3, AV.int .i64 (↑(i + (1 : Nat)) : Int))] ({ boxes := [], toks := [], loops := [] : Heap }) (fun T hT => (ih (i + (1 : Nat)) hnx T hT).to (by grind [nameCh]))))) (fun h1 => .no (show (decide ((↑x.toNat : Int) < (97 : Int))) = false from decide_eq_false (show ¬ ((↑x.toNat : Int) < (97 : Int)) from h1)) <| .idxs (show idxsA (AV.str s) (AV.int .i64 (↑i : Int)) = some (AV.int .u8 (↑x.toNat : Int)) from idx_str hd) <| .split ((122 : Int) < (↑x.toNat : Int)) (fun h2 => .yes (show (decide ((122 : Int) < (↑x.toNat : Int))) = true from decide_eq_true (show (122 : Int) < (↑x.toNat : Int) from h2)) <| .idxs (show idxsA (AV.str s) (AV.int .i64 (↑i : Int)) = some (AV.int .u8 (↑x.toNat : Int)) from idx_str hd) <| .no (show (decide ((↑x.toNat : Int) < (48 : Int))) = false from decide_eq_false (show ¬ ((↑x.toNat : Int) < (48 : Int)) from (by omega))) <| .idxs (show idxsA (AV.str s) (AV.int .i64 (↑i : Int)) = some (AV.int .u8 (↑x.toNat : Int)) from idx_str hd) <| .yes (show (decide ((57 : Int) < (↑x.toNat : Int))) = true from decide_eq_true (show (57 : Int) < (↑x.toNat : Int) from (by omega))) <| .fin ((ARes.ret (AV.bool false), { boxes := [], toks := [], loops := [] : Heap })) (by simp only [IsRet]; grind [nameCh])) (fun h2 => .no (show (decide ((122 : Int) < (↑x.toNat : Int))) = false from decide_eq_false (show ¬ ((122 : Int) < (↑x.toNat : Int)) from h2)) <| .ff <| .bin (show binA .add (AV.int .i64 (↑i : Int)) (AV.int .i64 1) = some (AV.int .i64 (↑(i + (1 : Nat)) : Int)) from inc_i (by omega)) <| .cutQ k76_0 [(0, AV.str s), (3, AV.int .i64 (↑(i + (1 : Nat)) : Int))] ({ boxes := [], toks := [], loops := [] : Heap }) (fun T hT => (ih (i + (1 : Nat)) hnx T hT).to (by grind [nameCh]))))) (by kernel_rfl)
theorem name_any (s : List UInt8) : Gives cfg 76 [.str s] (.bool (isName s)) := by
  refine Gives.run (l76 _ _) ?_
  have h := fun hn => name_loop s hn s 0 rfl
  exact goG 60 []  trivial  (.len (show lenA true (AV.str s) = some (AV.int .i64 (↑s.length : Int)) from len_str _) <| .split ((↑s.length : Int) < (1 : Int)) (fun h1 => .yes (show (decide ((↑s.length : Int) < (1 : Int))) = true from decide_eq_true (show (↑s.length : Int) < (1 : Int) from h1)) <| .tt <| .fin ((ARes.ret (AV.bool false), { boxes := [], toks := [], loops := [] : Heap })) (by simp only [IsRet]; grind [isName])) (fun h1 => .no (show (decide ((↑s.length : Int) < (1 : Int))) = false from decide_eq_false (show ¬ ((↑s.length : Int) < (1 : Int)) from h1)) <| .len (show lenA true (AV.str s) = some (AV.int .i64 (↑s.length : Int)) from len_str _) <| .split ((12 : Int) < (↑s.length : Int)) (fun h2 => .yes (show (decide ((12 : Int) < (↑s.length : Int))) = true from decide_eq_true (show (12 : Int) < (↑s.length : Int) from h2)) <| .fin ((ARes.ret (AV.bool false), { boxes := [], toks := [], loops := [] : Heap })) (by simp only [IsRet]; grind [isName])) (fun h2 => .no (show (decide ((12 : Int) < (↑s.length : Int))) = false from decide_eq_false (show ¬ ((12 : Int) < (↑s.length : Int)) from h2)) <| .cutQ k76_0 [(0, AV.str s), (3, AV.int .i64 0)] ({ boxes := [], toks := [], loops := [] : Heap }) (fun T hT => (h (by omega) T hT).to (by grind [isName]))))) (by kernel_rfl)

end Go.Aa.T

set_option linter.unusedVariables false
set_option linter.unusedSimpArgs false
set_option maxRecDepth 100000
namespace Go.Aa.T
open Go.Aa Go.Proofs
def same (x y : Taint) : Bool := decide (y.key = x.key) && decide (y.val = x.val)
def ckTl (l : List Taint) : Nat → List Taint → Int
  | _, [] => 0
  | i, x :: post => if isName x.key && isName x.val then (if (l.take i).any (same x) then 6 else ckTl l (i + 1) post) else 3
def ckT (l : List Taint) : Int := if l.length ≤ 8 then ckTl l 0 l else 4
theorem ckT_loop (l : List Taint) (hn : l.length ≤ 8) : ∀ (post : List Taint) (i : Nat) (hd : l.drop i = post) (T : Env) (hT : Has T [(0, .sl .sh (l.map encT)), (3, .int .i64 i)]),
    Goes cfg a79 k79_0 T Heap.nil (IsRet (.int .i64 (ckTl l i post))) := by
  intro post
  induction post with
  | nil =>
    intro i hd T hT
    have hge := drop_ge hd
    exact goG 60 _  hT  (.len (show lenA false (AV.sl .sh (List.map encT l)) = some (AV.int .i64 (↑l.length : Int)) from len_map _) <| .no (show (decide ((↑i : Int) < (↑l.length : Int))) = false from decide_eq_false (show ¬ ((↑i : Int) < (↑l.length : Int)) from (by omega))) <| .fin ((ARes.ret (AV.int .i64 0), { boxes := [], toks := [], loops := [] : Heap })) rfl) (by kernel_rfl)
  | cons x post ih =>
    intro i hd T hT
    have hlt := drop_lt hd
    have hnx := drop_next hd
    have hx := drop_at hd
    have inner : ∀ (q : List Taint) (k : Nat) (hk : (l.take i).drop k = q) (T : Env) (hT : Has T [(0, .sl .sh (l.map encT)), (3, .int .i64 i), (4, .int .i64 k)]),
        Goes cfg a79 k79_1 T Heap.nil (IsRet (.int .i64 (if q.any (same x) then 6 else ckTl l (i + 1) post))) := by
      intro q
      induction q with
      | nil =>
        intro k hk T hT
        have hge : i ≤ k := by have := drop_ge hk; simp at this; omega
        exact goG 60 _  hT  (.no (show (decide ((↑k : Int) < (↑i : Int))) = false from decide_eq_false (show ¬ ((↑k : Int) < (↑i : Int)) from (by omega))) <| .bin (show binA .add (AV.int .i64 (↑i : Int)) (AV.int .i64 1) = some (AV.int .i64 (↑(i + (1 : Nat)) : Int)) from inc_i (by omega)) <| .cutQ k79_0 [(0, AV.sl .sh (List.map encT l)), (3, AV.int .i64 (↑(i + (1 : Nat)) : Int))] ({ boxes := [], toks := [], loops := [] : Heap }) (fun T hT => (ih (i + (1 : Nat)) hnx T hT))) (by kernel_rfl)
      | cons y q ih2 =>
        intro k hk T hT
        have hlt2 : k < i := by have := drop_lt hk; simp at this; omega
        have hnx2 := drop_next hk
        have hy : l[k]? = some y := by have := drop_at hk; rw [List.getElem?_take] at this; simpa [hlt2] using this
        exact goG 60 _  hT  (.yes (show (decide ((↑k : Int) < (↑i : Int))) = true from decide_eq_true (show (↑k : Int) < (↑i : Int) from (by omega))) <| .idx (show idxA 3 (AV.sl .sh (List.map encT l)) (AV.int .i64 (↑k : Int)) = some (AV.ref (encT y).cells) from idx_get hy (by rfl)) <| .idx (show idxA 3 (AV.sl .sh (List.map encT l)) (AV.int .i64 (↑i : Int)) = some (AV.ref (encT x).cells) from idx_row hd (by rfl)) <| .split ((y.key == x.key) = true) (fun h1 => .yes (show (y.key == x.key) = true from h1) <| .idx (show idxA 3 (AV.sl .sh (List.map encT l)) (AV.int .i64 (↑k : Int)) = some (AV.ref (encT y).cells) from idx_get hy (by rfl)) <| .idx (show idxA 3 (AV.sl .sh (List.map encT l)) (AV.int .i64 (↑i : Int)) = some (AV.ref (encT x).cells) from idx_row hd (by rfl)) <| .split ((y.val == x.val) = true) (fun h2 => .yes (show (y.val == x.val) = true from h2) <| .fin ((ARes.ret (AV.int .i64 6), { boxes := [], toks := [], loops := [] : Heap })) (by simp only [IsRet]; grind [same])) (fun h2 => .no (show (y.val == x.val) = false from Bool.eq_false_iff.2 (show ¬ ((y.val == x.val) = true) from h2)) <| .bin (show binA .add (AV.int .i64 (↑k : Int)) (AV.int .i64 1) = some (AV.int .i64 (↑(k + (1 : Nat)) : Int)) from inc_i (by omega)) <| .cutQ k79_1 [(0, AV.sl .sh (List.map encT l)), (3, AV.int .i64 (↑i : Int)), (4, AV.int .i64 (↑(k + (1 : Nat)) : Int))] ({ boxes := [], toks := [], loops := [] : Heap }) (fun T hT => (ih2 (k + (1 : Nat)) hnx2 T hT).to (by grind [same])))) (fun h1 => .no (show (y.key == x.key) = false from Bool.eq_false_iff.2 (show ¬ ((y.key == x.key) = true) from h1)) <| .ff <| .bin (show binA .add (AV.int .i64 (↑k : Int)) (AV.int .i64 1) = some (AV.int .i64 (↑(k + (1 : Nat)) : Int)) from inc_i (by omega)) <| .cutQ k79_1 [(0, AV.sl .sh (List.map encT l)), (3, AV.int .i64 (↑i : Int)), (4, AV.int .i64 (↑(k + (1 : Nat)) : Int))] ({ boxes := [], toks := [], loops := [] : Heap }) (fun T hT => (ih2 (k + (1 : Nat)) hnx2 T hT).to (by grind [same])))) (by kernel_rfl)
    have inner0 := inner (l.take i) 0 rfl
    exact goG 60 _  hT  (.len (show lenA false (AV.sl .sh (List.map encT l)) = some (AV.int .i64 (↑l.length : Int)) from len_map _) <| .yes (show (decide ((↑i : Int) < (↑l.length : Int))) = true from decide_eq_true (show (↑i : Int) < (↑l.length : Int) from (by omega))) <| .idx (show idxA 3 (AV.sl .sh (List.map encT l)) (AV.int .i64 (↑i : Int)) = some (AV.ref (encT x).cells) from idx_row hd (by rfl)) <| .callG ([AV.str x.key]) (AV.bool (isName x.key)) (show Gives cfg (76 : FuncId) [AV.str x.key] (AV.bool (isName x.key)) from name_any _) ⟨rfl, rfl⟩ ⟨rfl, rfl⟩ <| .split (isName x.key = true) (fun h1 => .no (show (!isName x.key) = false from by have hh : isName x.key = true := h1; simp [hh]) <| .idx (show idxA 3 (AV.sl .sh (List.map encT l)) (AV.int .i64 (↑i : Int)) = some (AV.ref (encT x).cells) from idx_row hd (by rfl)) <| .callG ([AV.str x.val]) (AV.bool (isName x.val)) (show Gives cfg (76 : FuncId) [AV.str x.val] (AV.bool (isName x.val)) from name_any _) ⟨rfl, rfl⟩ ⟨rfl, rfl⟩ <| .split (isName x.val = true) (fun h2 => .no (show (!isName x.val) = false from by have hh : isName x.val = true := h2; simp [hh]) <| .cutQ k79_1 [(0, AV.sl .sh (List.map encT l)), (3, AV.int .i64 (↑i : Int)), (4, AV.int .i64 0)] ({ boxes := [], toks := [], loops := [] : Heap }) (fun T hT => (inner0 T hT).to (by grind [ckTl]))) (fun h2 => .yes (show (!isName x.val) = true from by have hh : ¬ (isName x.val = true) := h2; simp [hh]) <| .fin ((ARes.ret (AV.int .i64 3), { boxes := [], toks := [], loops := [] : Heap })) (by simp only [IsRet]; grind [ckTl]))) (fun h1 => .yes (show (!isName x.key) = true from by have hh : ¬ (isName x.key = true) := h1; simp [hh]) <| .tt <| .fin ((ARes.ret (AV.int .i64 3), { boxes := [], toks := [], loops := [] : Heap })) (by simp only [IsRet]; grind [ckTl]))) (by kernel_rfl)
theorem ckT_any (l : List Taint) : Gives cfg 79 [.sl .sh (l.map encT)] (.int .i64 (ckT l)) := by
  refine Gives.run (l79 _ _) ?_
  have h := fun hn => ckT_loop l hn l 0 rfl
  exact goG 60 []  trivial  (.len (show lenA false (AV.sl .sh (List.map encT l)) = some (AV.int .i64 (↑l.length : Int)) from len_map _) <| .split ((8 : Int) < (↑l.length : Int)) (fun h1 => .yes (show (decide ((8 : Int) < (↑l.length : Int))) = true from decide_eq_true (show (8 : Int) < (↑l.length : Int) from h1)) <| .fin ((ARes.ret (AV.int .i64 4), { boxes := [], toks := [], loops := [] : Heap })) (by simp only [IsRet]; grind [ckT])) (fun h1 => .no (show (decide ((8 : Int) < (↑l.length : Int))) = false from decide_eq_false (show ¬ ((8 : Int) < (↑l.length : Int)) from h1)) <| .cutQ k79_0 [(0, AV.sl .sh (List.map encT l)), (3, AV.int .i64 0)] ({ boxes := [], toks := [], loops := [] : Heap }) (fun T hT => (h (by omega) T hT).to (by grind [ckT])))) (by kernel_rfl)
def okL (x : Tol) : Bool := (decide (x.key = []) || isName x.key) && (if x.any then decide (x.val = []) else isName x.val)
def ckL (l : List Tol) : Int := if l.length ≤ 8 then (if l.all okL then 0 else 3) else 4
end Go.Aa.T

set_option linter.unusedVariables false
set_option linter.unusedSimpArgs false
set_option maxRecDepth 100000
namespace Go.Aa.T
open Go.Aa Go.Proofs
theorem lenT {l : List Taint} : lenOk 3 (l.map encT) = true := lenOk_map fun _ => rfl
theorem cellT (x : Taint) : cellsN 3 (encT x) = true := rfl

theorem fewT_len {l : List Taint} (h : fewT l = true) : l.length ≤ 20 := by
  simp only [fewT, Bool.and_eq_true, decide_eq_true_eq] at h; exact h.1

end Go.Aa.T


set_option linter.unusedVariables false
set_option linter.unusedSimpArgs false
set_option maxRecDepth 100000
namespace Go.Aa.T
open Go.Aa Go.Proofs

def alnum : List UInt8 := [97, 98, 99, 100, 101, 102, 103, 104, 105, 106, 107, 108, 109, 110, 111, 112, 113, 114, 115, 116, 117, 118, 119, 120, 121, 122, 48, 49, 50, 51, 52, 53, 54, 55, 56, 57]
theorem alnum_ch (c : UInt8) : alnum.contains c = nameCh c := by
  have : ∀ n : Fin 256, alnum.contains (UInt8.ofNat n.val) = nameCh (UInt8.ofNat n.val) := by decide +kernel
  have h := this ⟨c.toNat, c.toNat_lt⟩
  simpa using h
theorem dropWhile_nil {p : UInt8 → Bool} : ∀ {l : List UInt8}, l.dropWhile p = [] ↔ l.all p = true
  | [] => by simp
  | c :: l => by
    by_cases h : p c = true
    · simp [List.dropWhile_cons, h, dropWhile_nil]
    · simp [List.dropWhile_cons, h]
theorem trim_nil (s : List UInt8) : Lib.trimS s alnum = [] ↔ s.all nameCh = true := by
  have hp : (fun c => alnum.contains c) = nameCh := funext alnum_ch
  unfold Lib.trimS Lib.trimLeftS Lib.trimRightS
  rw [hp, dropWhile_nil, List.all_reverse]
  constructor
  · intro h
    have e := List.takeWhile_append_dropWhile (p := nameCh) (l := s.reverse)
    have : s.reverse.all nameCh = true := by
      rw [← e, List.all_append, h, Bool.and_true]
      exact List.all_takeWhile
    rwa [List.all_reverse] at this
  · intro h
    have : s.reverse.dropWhile nameCh = [] := dropWhile_nil.2 (by rwa [List.all_reverse])
    rw [this]; rfl
theorem trim_any (s : List UInt8) (h : s.length ≤ 9223372036854775807) : Gives cfg 190 [.str s, .str alnum] (.str (Lib.trimS s alnum)) := by
  refine Gives.of (H' := Heap.nil) ?_
  rw [lim_ext (g := trimE) rfl rfl]
  have : trimE [.str s, .str alnum] Heap.nil = some (.str (Lib.trimS s alnum), Heap.nil) := if_pos ⟨h, by decide, by decide⟩
  rw [this]; rfl
theorem res_name (s : List UInt8) : Gives cfg 143 [.str s] (.bool (isName s)) := by
  refine Gives.run (l143 _ _) ?_
  have ht := trim_nil s
  exact goG 60 []  trivial  (.len (show lenA true (AV.str s) = some (AV.int .i64 (↑s.length : Int)) from len_str _) <| .split ((1 : Int) ≤ (↑s.length : Int)) (fun h1 => .yes (show (decide ((1 : Int) ≤ (↑s.length : Int))) = true from decide_eq_true (show (1 : Int) ≤ (↑s.length : Int) from h1)) <| .len (show lenA true (AV.str s) = some (AV.int .i64 (↑s.length : Int)) from len_str _) <| .split ((↑s.length : Int) ≤ (12 : Int)) (fun h2 => .yes (show (decide ((↑s.length : Int) ≤ (12 : Int))) = true from decide_eq_true (show (↑s.length : Int) ≤ (12 : Int) from h2)) <| .callG ([AV.str s, AV.str [(97 : UInt8), (98 : UInt8), (99 : UInt8), (100 : UInt8), (101 : UInt8), (102 : UInt8), (103 : UInt8), (104 : UInt8), (105 : UInt8), (106 : UInt8), (107 : UInt8), (108 : UInt8), (109 : UInt8), (110 : UInt8), (111 : UInt8), (112 : UInt8), (113 : UInt8), (114 : UInt8), (115 : UInt8), (116 : UInt8), (117 : UInt8), (118 : UInt8), (119 : UInt8), (120 : UInt8), (121 : UInt8), (122 : UInt8), (48 : UInt8), (49 : UInt8), (50 : UInt8), (51 : UInt8), (52 : UInt8), (53 : UInt8), (54 : UInt8), (55 : UInt8), (56 : UInt8), (57 : UInt8)]]) (AV.str (Lib.trimS s alnum)) (show Gives cfg (190 : FuncId) [AV.str s, AV.str alnum] (AV.str (Lib.trimS s alnum)) from trim_any _ (by omega)) ⟨rfl, rfl⟩ ⟨rfl, rfl⟩ <| .fin ((ARes.ret (AV.bool (Lib.trimS s alnum == [])), { boxes := [], toks := [], loops := [] : Heap })) (by simp only [IsRet]; grind [isName])) (fun h2 => .no (show (decide ((↑s.length : Int) ≤ (12 : Int))) = false from decide_eq_false (show ¬ ((↑s.length : Int) ≤ (12 : Int)) from h2)) <| .fin ((ARes.ret (AV.bool false), { boxes := [], toks := [], loops := [] : Heap })) (by simp only [IsRet]; grind [isName]))) (fun h1 => .no (show (decide ((1 : Int) ≤ (↑s.length : Int))) = false from decide_eq_false (show ¬ ((1 : Int) ≤ (↑s.length : Int)) from h1)) <| .ff <| .fin ((ARes.ret (AV.bool false), { boxes := [], toks := [], loops := [] : Heap })) (by simp only [IsRet]; grind [isName]))) (by kernel_rfl)
end Go.Aa.T
