/-
  A STATEMENT WHOSE ORDER IS OPEN, as the machine draws it.
-/
import Derived.Test.YtmlipdlbeddijaaDoorAaH
set_option linter.unusedVariables false
set_option linter.unusedSimpArgs false
namespace Go.Aa
open Go.RowKit

variable {P : Program} {G G' : Ghost} {w w' : World}

theorem addTo_mem {x : Nat} : ∀ (l s : List Nat), x ∈ l.foldl (fun s x => if s.contains x then s else x :: s) s ↔ x ∈ s ∨ x ∈ l
  | [], s => by simp
  | y :: l, s => by
    rw [List.foldl_cons, addTo_mem l]
    by_cases h : s.contains y = true
    · rw [if_pos h]
      have : y ∈ s := by simpa using h
      constructor
      · rintro (h1 | h1)
        · exact .inl h1
        · exact .inr (List.mem_cons_of_mem _ h1)
      · rintro (h1 | h1)
        · exact .inl h1
        · rcases List.mem_cons.1 h1 with rfl | h1
          · exact .inl this
          · exact .inr h1
    · rw [if_neg h]
      simp only [List.mem_cons]
      constructor
      · rintro ((rfl | h1) | h1) <;> simp [*]
      · rintro (h1 | (rfl | h1)) <;> simp [*]

theorem deps_mem {acc : List (List Nat)} {x : Nat} (es : List Edge) : x ∈ depsOf acc es ↔ ∃ e ∈ es, hard e = true ∧ (x = e.on ∨ x ∈ acc.getD e.on []) := by
  have key : ∀ (es : List Edge) (s : List Nat), x ∈ es.foldl (fun s e => (e.on :: acc.getD e.on []).foldl (fun s x => if s.contains x then s else x :: s) s) s ↔ x ∈ s ∨ ∃ e ∈ es, x = e.on ∨ x ∈ acc.getD e.on [] := by
    intro es
    induction es with
    | nil => intro s; simp
    | cons e es ih =>
      intro s
      rw [List.foldl_cons, ih, addTo_mem]
      simp only [List.mem_cons, exists_eq_or_imp]
      constructor
      · rintro ((h | h | h) | h)
        · exact .inl h
        · exact .inr (.inl (.inl h))
        · exact .inr (.inl (.inr h))
        · exact .inr (.inr h)
      · rintro (h | (h | h) | h)
        · exact .inl (.inl h)
        · exact .inl (.inr (.inl h))
        · exact .inl (.inr (.inr h))
        · exact .inr h
  unfold depsOf
  rw [key]
  simp only [List.not_mem_nil, false_or, List.mem_filter]
  constructor
  · rintro ⟨e, ⟨h1, h2⟩, h3⟩; exact ⟨e, h1, h2, h3⟩
  · rintro ⟨e, h1, h2, h3⟩; exact ⟨e, ⟨h1, h2⟩, h3⟩

theorem binds_any (e : Edge) : Region.binds .any e = hard e := by
  unfold Region.binds hard
  cases e.ground <;> rfl

theorem drawOk_spec {ops : List AOper} (h : drawOk ops = true) : (∀ j (hj : j < ops.length), ∀ d ∈ (ops[j]).deps, d < j) ∧
    ∀ i j (hi : i < ops.length) (hj : j < ops.length), i < j → (ops[j]).deps.contains i = true ∨ apartA ops[i] ops[j] = true := by
  simp only [drawOk, List.all_eq_true, Bool.and_eq_true, Bool.or_eq_true, decide_eq_true_eq] at h
  refine ⟨fun j hj d hd => ?_, fun i j hi hj hij => ?_⟩
  · exact (h (ops[j], j) (by rw [List.mem_zipIdx_iff_getElem?]; simp [hj])).1 d hd
  · have := (h (ops[j], j) (by rw [List.mem_zipIdx_iff_getElem?]; simp [hj])).2 (ops[i], i) (by rw [List.mem_zipIdx_iff_getElem?]; simp [hi])
    rcases this with (h1 | h1) | h1
    · simp only at h1; omega
    · exact .inl h1
    · exact .inr h1

/-- What is left to do. -/
structure Left (as : List AOper) (listed : Array Bool) (R : List (AOper × Nat)) : Prop where
  mem : ∀ x ∈ R, as[x.2]? = some x.1 ∧ listed.getD x.2 true = false
  all : ∀ j, j < as.length → listed.getD j true = false → ∃ x ∈ R, x.2 = j
  sorted : R.Pairwise (fun x y => x.2 < y.2)
  size : listed.size = as.length
  closed : ∀ j (hj : j < as.length), listed.getD j false = true → ∀ d ∈ (as[j]).deps, listed.getD d false = true

theorem getD_ft {l : Array Bool} {i : Nat} (h : i < l.size) : l.getD i false = l.getD i true := by simp [h]

theorem draw_from {call : CallF} (hc : CallSound P call) {nt : Nat} {ops : Array Oper} {as : List AOper} (hco : cOpers P nt ops [] ops.toList = some as) (hok : drawOk as = true) {ro : Option Nat} {Q : Exit → Act → World → Prop} :
    ∀ (R : List (AOper × Nat)) (fuel : Nat) (listed : Array Bool) {G : Ghost} {w : World} {a : Act} {T : Env} {H : Heap} {out : OutE}, R.length = fuel → Left as listed R → TRep G w nt a.tmps T → HRep P G w H →
      runP call R none T H = some out → (∀ e a' w', RegPost P G w nt a.defers out e a' w' → Q e a' w') → wpAnyIn (W ro) 0 P .any ops Q fuel listed a w := by
  obtain ⟨hlen, hget⟩ := cOpers_get hco
  obtain ⟨hdlt, hpair⟩ := drawOk_spec hok
  have hlen' : as.length = ops.size := by simpa using hlen
  have hdeps : ∀ j (hj : j < as.length) (ho : j < ops.size), ∀ x, x ∈ (as[j]).deps ↔ ∃ e ∈ (ops[j]).after.toList, hard e = true ∧ (x = e.on ∨ x ∈ ((as.take j).map (·.deps)).getD e.on []) := by
    intro j hj ho x
    have := cOper_inv (hget j (by simpa using ho) hj)
    rw [this.2.2.2.1, deps_mem]
    simp
  have hready0 : ∀ {R : List (AOper × Nat)} {listed : Array Bool}, Left as listed R → Region.ready .any ops listed = [] → R = [] := by
    intro R listed hl h
    cases R with
    | nil => rfl
    | cons x R =>
      exfalso
      obtain ⟨hx1, hx2⟩ := hl.mem x (by simp)
      have hxl : x.2 < as.length := (List.getElem?_eq_some_iff.1 hx1).1
      have : x.2 ∈ Region.ready .any ops listed := by
        refine mem_ready.2 ⟨hx2, ops[x.2], by simp [← hlen', hxl], fun e he hb => ?_⟩
        rw [binds_any] at hb
        have hon : e.on ∈ (as[x.2]).deps := (hdeps x.2 hxl (by omega) e.on).2 ⟨e, by simpa using he, hb, .inl rfl⟩
        have hlt := hdlt x.2 hxl _ hon
        cases hd : listed.getD e.on false with
        | true => rfl
        | false =>
          rw [getD_ft (by rw [hl.size]; omega)] at hd
          obtain ⟨y, hy, hye⟩ := hl.all e.on (by omega) hd
          rcases List.mem_cons.1 hy with rfl | hy
          · omega
          · have := (List.pairwise_cons.1 hl.sorted).1 y hy
            omega
      rw [h] at this
      cases this
  intro R fuel
  induction fuel generalizing R with
  | zero =>
    intro listed G w a T H out hR hl hT hH h hQ
    have hnil : R = [] := List.eq_nil_of_length_eq_zero hR
    subst hnil
    simp only [runP, Option.some.injEq] at h
    subst h
    refine ⟨?_, hQ _ _ _ ⟨G, T, H, rfl, .refl _ _, hT, hH, rfl⟩⟩
    cases hr : Region.ready .any ops listed with
    | nil => rfl
    | cons i rs =>
      exfalso
      have hi : i ∈ Region.ready .any ops listed := by rw [hr]; simp
      obtain ⟨h1, o, h2, _⟩ := mem_ready.1 hi
      obtain ⟨x, hx, _⟩ := hl.all i (by rw [hlen']; exact (Array.getElem?_eq_some_iff.1 h2).1) h1
      cases hx
  | succ fuel ih =>
    intro listed G w a T H out hR hl hT hH h hQ
    refine ⟨fun h0 => ?_, fun i hi => ?_⟩
    · have := hready0 hl h0
      subst this
      simp at hR
    · obtain ⟨h1, o, h2, h3⟩ := mem_ready.1 hi
      obtain ⟨hio, rfl⟩ := Array.getElem?_eq_some_iff.1 h2
      have hil : i < as.length := by omega
      obtain ⟨x, hx, hxi⟩ := hl.all i hil h1
      obtain ⟨x1, x2⟩ := x
      simp only at hxi
      subst hxi
      have hxa : as[x2] = x1 := by
        have := (hl.mem _ hx).1
        rw [List.getElem?_eq_getElem hil] at this
        exact Option.some.inj this
      -- all that it stands behind is done
      have hdone : ∀ d ∈ x1.deps, listed.getD d false = true := by
        intro d hd
        rw [← hxa] at hd
        obtain ⟨e, he, hh, hor⟩ := (hdeps x2 hil hio d).1 hd
        have hone := h3 e (by simpa using he) (by rw [binds_any]; exact hh)
        rcases hor with rfl | hin
        · exact hone
        · have hel : e.on < x2 := hdlt x2 hil _ ((hdeps x2 hil hio e.on).2 ⟨e, he, hh, .inl rfl⟩)
          have : ((as.take x2).map (·.deps)).getD e.on [] = (as[e.on]).deps := by
            rw [List.getD_eq_getElem?_getD]
            simp [hel, show e.on < as.length by omega]
          rw [this] at hin
          exact hl.closed e.on (by omega) hone d hin
      obtain ⟨A, B, rfl⟩ := List.append_of_mem hx
      have hnone : ∀ b ∈ A ++ B, x1.deps.contains b.2 = false := by
        intro b hb
        have hb' : b ∈ A ++ (x1, x2) :: B := by
          rcases List.mem_append.1 hb with hb | hb
          · exact List.mem_append_left _ hb
          · exact List.mem_append_right _ (List.mem_cons_of_mem _ hb)
        have hu := hl.mem b hb'
        cases hcon : x1.deps.contains b.2 with
        | false => rfl
        | true =>
          have := hdone b.2 (by simpa using hcon)
          have hbl := (List.getElem?_eq_some_iff.1 hu.1).1
          rw [getD_ft (by rw [hl.size]; exact hbl), hu.2] at this
          cases this
      have hp : (A ++ (x1, x2) :: B).Pairwise (fun x y => y.1.deps.contains x.2 = true ∨ apartA x.1 y.1 = true) := by
        refine hl.sorted.imp_of_mem fun {u v} hu hv huv => ?_
        have mu := (hl.mem u hu).1
        have mv := (hl.mem v hv).1
        obtain ⟨lu, eu⟩ := List.getElem?_eq_some_iff.1 mu
        obtain ⟨lv, ev⟩ := List.getElem?_eq_some_iff.1 mv
        have := hpair u.2 v.2 lu lv huv
        rw [eu, ev] at this
        exact this
      obtain ⟨oi, f1, f2⟩ := front hp (fun b hb => hnone b (List.mem_append_left _ hb)) h
      have hci := hget x2 (by simpa using hio) hil
      rw [hxa] at hci
      have f1' : exec (opStep call) x1 T H = some oi := exec_step f1
      have hsplit := List.pairwise_append.1 hl.sorted
      have hl' : Left as (listed.setIfInBounds x2 true) (A ++ B) := by
        refine ⟨fun y hy => ?_, fun j hj hu => ?_, ?_, by simpa using hl.size, fun j hj hu d hd => ?_⟩
        · have hy' : y ∈ A ++ (x1, x2) :: B := by
            rcases List.mem_append.1 hy with hb | hb
            · exact List.mem_append_left _ hb
            · exact List.mem_append_right _ (List.mem_cons_of_mem _ hb)
          have hne : y.2 ≠ x2 := by
            rcases List.mem_append.1 hy with hb | hb
            · have := hsplit.2.2 y hb (x1, x2) (by simp)
              simp only at this; omega
            · have := (List.pairwise_cons.1 hsplit.2.1).1 y hb
              simp only at this; omega
          exact ⟨(hl.mem y hy').1, by rw [getD_set_ne true (Ne.symm hne)]; exact (hl.mem y hy').2⟩
        · have hne : x2 ≠ j := by
            rintro rfl
            have hlt : x2 < listed.size := by rw [hl.size]; exact hj
            simp [hlt] at hu
          rw [getD_set_ne true hne] at hu
          obtain ⟨y, hy, hyj⟩ := hl.all j hj hu
          refine ⟨y, ?_, hyj⟩
          rcases List.mem_append.1 hy with hb | hb
          · exact List.mem_append_left _ hb
          · rcases List.mem_cons.1 hb with rfl | hb
            · simp only at hyj; exact absurd hyj hne
            · exact List.mem_append_right _ hb
        · exact List.pairwise_append.2 ⟨hsplit.1, (List.pairwise_cons.1 hsplit.2.1).2, fun u hu v hv => hsplit.2.2 u hu v (List.mem_cons_of_mem _ hv)⟩
        · by_cases hne : x2 = j
          · subst hne
            rw [hxa] at hd
            exact getD_set_true (hdone d hd)
          · rw [getD_set_ne false hne] at hu
            exact getD_set_true (hl.closed j hj hu d hd)
      refine index_sound hc (o := ops[x2]) (by simp [hio]) (by simpa using hci) hT hH f1' (fun v H' a' w' G' e hst hh ht hdf => ?_) (fun v H' r w' G' e hst hh hr => ?_)
      · subst e
        exact ih (A ++ B) _ (by simp at hR ⊢; omega) hl' ht hh f2 fun e a2 w2 hq => hQ _ _ _ (by rw [hdf] at hq; exact hq.before hst)
      · subst e
        simp only at f2
        subst f2
        exact hQ _ _ _ ⟨r, v, H', G', rfl, rfl, hst, hh, hr, rfl⟩

/-- A WHOLE STATEMENT. -/
theorem region_sound {call : CallF} (hc : CallSound P call) (hm : P.follows .mixedOrders = true) {nt : Nat} {ops : Array Oper} {as : List AOper} (hco : cOpers P nt ops [] ops.toList = some as) {draw : Bool} (hok : draw = true → drawOk as = true)
    {ro : Option Nat} {a : Act} {T : Env} {H : Heap} {out : OutE} (hT : TRep G w nt a.tmps T) (hH : HRep P G w H) (h : regionA call draw as T H = some out) {id : Nat} :
    (Code.region id ops draw).wpIn (W ro) 0 P (RegPost P G w nt a.defers out) a w := by
  have hlen := (cOpers_get hco).1
  cases draw with
  | false =>
    refine wpIn_region ?_
    have := seq_from hc hco (ro := ro) (Q := RegPost P G w nt a.defers out) ops.size 0 (by omega) hT hH (by simpa [regionA] using h) (fun _ _ _ h => h)
    rwa [← List.range_eq_range'] at this
  | true =>
    have hg : Grow G w G w.drew := .drew hH.base
    refine wpIn_region_any hm ?_
    have hrun : runP call as.zipIdx none T H = some out := by rw [← runD_runP]; simpa [regionA] using h
    refine draw_from hc hco (hok rfl) as.zipIdx ops.size _ (w := w.drew) (G := G) (by simpa using hlen) ?_ (hT.step (hg.step hH.base)) (hH.grow hg) hrun fun e a' w' hq => hq.before (hg.step hH.base)
    refine ⟨fun x hx => ?_, fun j hj hu => ?_, ?_, by simp; simpa using hlen.symm, fun j hj hu => ?_⟩
    · rw [List.mem_zipIdx_iff_getElem?] at hx
      have hlt := (List.getElem?_eq_some_iff.1 hx).1
      refine ⟨hx, ?_⟩
      have : x.2 < ops.size := by simp at hlen; omega
      simp [this]
    · exact ⟨(as[j], j), by rw [List.mem_zipIdx_iff_getElem?]; simp [hj], rfl⟩
    · rw [List.pairwise_iff_getElem]
      intro i j hi hj hij
      simp only [List.getElem_zipIdx]
      omega
    · exfalso
      by_cases hlt : j < ops.size
      · simp [hlt] at hu
      · simp [hlt] at hu

end Go.Aa
