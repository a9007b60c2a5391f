/-
  SIZES: what an argument weighs bounds its length.
-/
import Derived.Test.YtmlipdlbeddijaaDoorAaS
set_option linter.unusedVariables false
set_option linter.unusedSimpArgs false
namespace Go.Aa
open Go.RowKit Go.ChangeShapes Go.WideShapes Go.ChangeAt
section
variable {H : Type} {enc : TypeId × Value → H} {P : Program} {w : World} {base : Nat} {sp : Nat → Bool} {held : Bool} {G : Ghost}
theorem mapM_len {α β : Type} {f : α → Option β} : ∀ {l : List α} {r : List β}, l.mapM f = some r → r.length = l.length
  | [], r, h => by cases h; rfl
  | x :: l, r, h => by
    rw [List.mapM_cons] at h
    cases hx : f x with
    | none => rw [hx] at h; cases h
    | some y =>
      cases hl : l.mapM f with
      | none => rw [hx, hl] at h; cases h
      | some ys =>
        rw [hx, hl] at h
        cases h
        simp [mapM_len hl]
theorem slice_sz {t e : TypeId} {v : Value} {d : DataW H} {ps : List MemPlace} {l : List AV} {k : SK} (hu : P.underlying t = some (.slice e)) (hr : Rep G w v (.sl k l)) (ht : DataW.Trod enc P w base sp held t v d ps)
    (hw : (d.weights P t).all (· ≤ reachBytes) = true) : l.length * P.bytesOf e ≤ reachBytes := by
  cases hr with
  | sl0 => simp
  | sl a c _ _ es us hl hc hcm hs hes he0 hd hlim hcell hrep hfull hown =>
    obtain ⟨fuel, h⟩ := ht
    cases fuel with
    | zero => cases h
    | succ fuel =>
      simp only [DataW.trod, hu, Value.cells] at h
      split at h
      · cases he : (List.range l.length).mapM (fun i => (w.cells? base (a.add (i * P.cellsOf e)) (P.cellsOf e)).bind (DataW.trod enc P w base sp held fuel e)) with
        | none => rw [he] at h; cases h
        | some elems =>
          rw [he, Option.bind_some, Option.map_eq_some_iff] at h
          obtain ⟨rest, -, h⟩ := h
          cases h
          have e1 : elems.length = l.length := by rw [mapM_len he, List.length_range]
          simp only [DataW.weights, hu, List.all_cons, Bool.and_eq_true, decide_eq_true_eq, List.length_map] at hw
          have := hw.1
          rw [e1] at this
          exact Nat.le_trans (Nat.mul_le_mul_right _ (Nat.le_add_right _ _)) this
      · cases h
theorem str_sz {t : TypeId} {v : Value} {d : DataW H} {ps : List MemPlace} {s : List UInt8} (hu : P.underlying t = some .string) (hr : Rep G w v (.str s)) (ht : DataW.Trod enc P w base sp held t v d ps)
    (hw : (d.weights P t).all (· ≤ reachBytes) = true) : s.length ≤ reachBytes := by
  cases hr with
  | str s =>
    obtain ⟨fuel, h⟩ := ht
    cases fuel with
    | zero => cases h
    | succ fuel =>
      simp only [DataW.trod, hu, Value.cells] at h
      split at h
      · cases h
        simpa [DataW.weights] using hw
      · cases h
/-- The arguments' own sizes. -/
def Sz1 (P : Program) (t : TypeId) (x : AV) : Prop := (∀ e k l, P.underlying t = some (.slice e) → x = .sl k l → l.length * P.bytesOf e ≤ reachBytes) ∧ (∀ s, P.underlying t = some .string → x = .str s → s.length ≤ reachBytes)
def SzAll (P : Program) : List TypeId → List AV → Prop
  | t :: ts, x :: xs => Sz1 P t x ∧ SzAll P ts xs
  | _, _ => True
theorem all_sz : ∀ {ts us : List TypeId} {vs : List Value} {ds gs : List (DataW H)} {ps : List MemPlace} {xs : List AV}, DataW.TrodAll enc P w base sp held ts vs ds ps → (DataW.weightsEach P (ts ++ us) (ds ++ gs)).all (· ≤ reachBytes) = true →
    (∀ (i : Nat) v y, vs[i]? = some v → xs[i]? = some y → Rep G w v y) → SzAll P ts xs
  | [], _, _, _, _, _, _, _, _, _ => by unfold SzAll; trivial
  | t :: ts, us, [], ds, gs, ps, xs, h, _, _ => h.elim
  | t :: ts, us, v :: vs, [], gs, ps, xs, h, _, _ => h.elim
  | t :: ts, us, v :: vs, d :: ds, gs, ps, [], _, _, _ => by unfold SzAll; trivial
  | t :: ts, us, v :: vs, d :: ds, gs, ps, x :: xs, ⟨p, q, h1, h2, _⟩, hw, hr => by
    simp only [List.cons_append, DataW.weightsEach, List.all_append, Bool.and_eq_true] at hw
    refine ⟨⟨fun e k l hu hx => ?_, fun s hu hx => ?_⟩, all_sz h2 hw.2 (fun i v y a b => hr (i + 1) v y a b)⟩
    · subst hx; exact slice_sz hu (hr 0 _ _ rfl rfl) h1 hw.1
    · subst hx; exact str_sz hu (hr 0 _ _ rfl rfl) h1 hw.1
theorem law_rowZ {cfg : Cfg} (hcfg : CfgOk P cfg) {f : FuncId} (hF : (cfg.F f).isSome = true) (hx : cfg.ext f = none) (ht : cfg.tryF f = false) {fn : Func} {s : ChangeSpec} {k : Nat} {tb : TypeId} {apart fresh handsOn again : Bool}
    (hpl : fn.params.toList.all (plainT P k) = true) (hrt : fn.resultTypes = #[tb]) (hb : P.underlying tb = some .bool) (hsv : s.vars = [])
    (hfn : ∀ ds : List (DataW H), ds.length = fn.params.toList.length → s.fn H ds = { results := [.lit (.bool true)], args := ds })
    (hlaw : ∀ xs, TyAll P k fn.params.toList xs → SzAll P fn.params.toList xs → ∃ H', lim cfg (.fn f) xs Heap.nil = some (.ret (.bool true), H'))
    {W : World} {base : Nat} {args : Array Value} {ds gs : List (DataW H)} {before : List MemPlace}
    (hval : ∀ (j : Nat) t v, fn.params[j]? = some t → args[j]? = some v → Value.okWide P W .any base t v)
    (hW : DataW.Whole enc P fn.params.toList s.vars apart W args.toList ds gs before) (hwt : (DataW.weightsEach P (fn.params.toList ++ s.plain.varTypes P) (ds ++ gs)).all (· ≤ reachBytes) = true) :
    Calls P f args W fun e W' => ∃ v, e = .returned v ∧ s.post enc P fn apart fresh handsOn again W args v W' := by
  have hW' := hW
  obtain ⟨p, q, hA, hV, rfl, hfz, hnd⟩ := hW
  rw [hsv] at hV
  obtain ⟨rfl, rfl⟩ := trodVars_none hV
  rw [List.append_nil] at hW'
  obtain ⟨xs, x1, x2, x3⟩ := all_rep (G := GW W) GW_lim hpl (fun j t v a b => hval j t v (by simpa using a) (by simpa using b)) hA
  obtain ⟨H', hl⟩ := hlaw xs x3 (all_sz hA hwt x2)
  obtain ⟨n, hn⟩ := lim_iff.1 hl
  refine (calls_of hcfg hn hF hx ht (GW_heap W) ⟨by rw [x1]; simp, fun i h1 h2 => x2 i _ _ (by simp [h1]) (List.getElem?_eq_getElem h2)⟩).mono fun e W' ⟨u, G', he, hst, hr⟩ => ?_
  cases hr
  have hB := step_below hst rfl rfl rfl
  obtain ⟨l1, l2⟩ := all_len hA
  have hfn' := hfn ds l2
  refine ⟨_, he, post_of_below (pa := p) (pv := []) hW' ?_ ?_ ?_ (by simp) hB ?_⟩
  · intro b sp hd
    rw [List.append_nil, hfn', hrt]
    exact trodAll_mk1 (shut_bool hb _)
  · intro sp hsp
    rw [List.append_nil, hfn']
    exact all_shut hB hpl hsp hA
  · intro sp hsp
    rw [List.append_nil, hfn', hsv]
    rfl
  · exact ok_one hrt rfl (okWide_bool_mk hb _)
end
end Go.Aa
