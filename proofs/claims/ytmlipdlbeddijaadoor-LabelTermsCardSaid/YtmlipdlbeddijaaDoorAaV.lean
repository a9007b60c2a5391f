/-
  SMALL LAWS for walks that are printed by a program: rows by their rests, lengths, conditions.
-/
import Derived.Test.YtmlipdlbeddijaaDoorAaP
set_option linter.unusedVariables false
set_option linter.unusedSimpArgs false
namespace Go.Aa

theorem goG {cfg : Cfg} {A : AFunc} {R : ARes × Heap → Prop} {T : Env} {k : List AIt} {H : Heap} (n : Nat) (vs : List (Nat × AV)) (hT : Has T vs) (s : ScrQ cfg A R) (e : uns s (fun s => acts n k s (updL T vs) H) = claims s) : Goes cfg A k T H R := goQ n vs hT s e
theorem not_f {q : Bool} (h : q = true) : (!q) = false := by rw [h]; rfl
theorem not_t {q : Bool} (h : ¬ q = true) : (!q) = true := by cases q <;> simp_all
theorem nb_f {β : Type} [BEq β] [LawfulBEq β] {a b : β} (h : a = b) : (!(a == b)) = false := by rw [beq_iff_eq.2 h]; rfl
theorem nb_t {β : Type} [BEq β] [LawfulBEq β] {a b : β} (h : ¬ a = b) : (!(a == b)) = true := by rw [beq_eq_false_iff_ne.2 h]; rfl
theorem bne_f {β : Type} [BEq β] [LawfulBEq β] {a b : β} (h : a = b) : (a != b) = false := nb_f h
theorem bne_t {β : Type} [BEq β] [LawfulBEq β] {a b : β} (h : ¬ a = b) : (a != b) = true := nb_t h
theorem nd_f {P : Prop} [Decidable P] (h : P) : (!decide P) = false := by rw [decide_eq_true h]; rfl
theorem nd_t {P : Prop} [Decidable P] (h : ¬ P) : (!decide P) = true := by rw [decide_eq_false h]; rfl
class D0s (xs : List AV) : Prop where
  p : xs.map shut1 = xs ∧ xs.all data0 = true
instance : D0s [] := ⟨rfl, rfl⟩
instance (x : AV) (xs : List AV) [h : D0 x] [hs : D0s xs] : D0s (x :: xs) := ⟨by
  obtain ⟨a, b⟩ := h.p
  obtain ⟨c, d⟩ := hs.p
  simp [a, b, c, d]⟩
instance (xs : List AV) [h : D0s xs] : Dat (.agg xs) := ⟨by
  obtain ⟨a, b⟩ := h.p
  exact ⟨by simp [shut2, a], b⟩⟩

variable {α : Type} {f : α → AV} {l : List α} {x : α} {post : List α} {i : Nat}
theorem drop_lt (h : l.drop i = x :: post) : i < l.length := by
  have : 0 < (l.drop i).length := by rw [h]; simp
  simp at this; omega
theorem drop_ge (h : l.drop i = []) : l.length ≤ i := by simpa using h
theorem drop_next (h : l.drop i = x :: post) : l.drop (i + 1) = post := by
  rw [← List.tail_drop, h]; rfl
theorem drop_at (h : l.drop i = x :: post) : l[i]? = some x := by
  have := congrArg List.head? h
  simpa [List.head?_drop] using this
theorem drop_take (h : l.drop i = x :: post) : l.take (i + 1) = l.take i ++ [x] := by
  rw [List.take_add_one, drop_at h]; rfl
theorem drop_mem (h : l.drop i = x :: post) : x ∈ l := by
  have : x ∈ l.drop i := by rw [h]; simp
  exact List.mem_of_mem_drop this

theorem len_map (k : SK) : lenA false (.sl k (l.map f)) = some (.int .i64 l.length) := by simp [lenA]
theorem len_sl (k : SK) (l : List AV) : lenA false (.sl k l) = some (.int .i64 l.length) := rfl
theorem len_str (s : List UInt8) : lenA true (.str s) = some (.int .i64 s.length) := rfl
theorem row_lenM (H : Heap) : lenA false (rowS H (l.map f)) = some (.int .i64 l.length) := by rw [row_len]; simp
theorem idx_row {es : Nat} {k : SK} {q : IntKind} (h : l.drop i = x :: post) (hc : cellsN es (f x) = true) : idxA es (.sl k (l.map f)) (.int q (i : Int)) = some (.ref (f x).cells) :=
  idx_at (by simp [drop_at h]) hc
theorem idx_get {es : Nat} {k : SK} {q : IntKind} (h : l[i]? = some x) (hc : cellsN es (f x) = true) : idxA es (.sl k (l.map f)) (.int q (i : Int)) = some (.ref (f x).cells) :=
  idx_at (by simp [h]) hc
theorem idx_str {q : IntKind} {s post : List UInt8} {c : UInt8} (h : s.drop i = c :: post) : idxsA (.str s) (.int q (i : Int)) = some (.int .u8 c.toNat) := by
  simp [idxsA, drop_at h]
theorem idx_strg {q : IntKind} {s : List UInt8} {c : UInt8} (h : s[i]? = some c) : idxsA (.str s) (.int q (i : Int)) = some (.int .u8 c.toNat) := by
  simp [idxsA, h]
theorem inc_i (h : i < 9223372036854775807) : binA .add (.int .i64 (i : Int)) (.int .i64 1) = some (.int .i64 ((i + 1 : Nat) : Int)) := by
  rw [addI (by omega) (by omega)]; rfl
theorem inc_z {n : Int} (h : -9223372036854775808 ≤ n ∧ n < 9223372036854775807) : binA .add (.int .i64 n) (.int .i64 1) = some (.int .i64 (n + 1)) := addI (by omega) (by omega)
theorem cut_has {T : Env} {vs ws : List (Nat × AV)} (h : Has T vs) (e : vs = ws) : Has T ws := e ▸ h
/-- What stands in a box of any heap. -/
theorem load_box {agg : Bool} {n k off : Nat} {H : Heap} {cs : List AV} {v : AV} (h : H.boxes[k]? = some cs) (e : loadA agg n ⟨[cs], [], []⟩ (.ptr 0 off) = some v) : loadA agg n H (.ptr k off) = some v := by
  simp only [loadA, h, List.getElem?_cons_zero] at e ⊢
  exact e
theorem store_box {n k off : Nat} {H : Heap} {cs cs' : List AV} {v : AV} (h : H.boxes[k]? = some cs) (e : storeA n ⟨[cs], [], []⟩ (.ptr 0 off) v = some ⟨[cs'], [], []⟩) : storeA n H (.ptr k off) v = some { H with boxes := H.boxes.set k cs' } := by
  simp only [storeA, h, List.getElem?_cons_zero] at e ⊢
  split at e
  · rename_i hc
    simp only [Option.some.injEq, Heap.mk.injEq, List.set_cons_zero, List.cons.injEq] at e
    rw [if_pos hc, e.1.1]
  · cases e
/-! ### Parts of rows, rows put together -/
theorem bound_nat {m n d : Nat} {q : IntKind} (h : n ≤ m) : boundA m (some (.int q (n : Int))) d = some n := by simp [boundA, h]
theorem bound_none {m d : Nat} : boundA m none d = some d := rfl
theorem slice_go {es h k : Nat} {xs : List AV} (hk : k ≤ h) (hh : h ≤ xs.length) (hc : ∀ x ∈ xs, cellsN es x = true) : (match xs[k]? with
      | none => some (AV.sl .sh [])
      | some e => if cellsN es e = true then some (.sl .sh ((xs.take h).drop k)) else none) = some (.sl .sh ((xs.take h).drop k)) := by
  cases he : xs[k]? with
  | none =>
    have : (xs.take h).drop k = [] := by
      have : xs.length ≤ k := by simpa using he
      simp; omega
    simp [this]
  | some e =>
    have := hc e (List.mem_of_getElem? he)
    simp [this]
theorem slice_from {es k : Nat} {q : IntKind} {sk : SK} (hk : k ≤ l.length) (he : (es == 0) = false) (hc : ∀ x, cellsN es (f x) = true) : sliceA es (.sl sk (l.map f)) (some (.int q (k : Int))) none none = some (.sl .sh ((l.drop k).map f)) := by
  have he' : es ≠ 0 := by simpa using he
  simp only [sliceA, if_neg he', sliceSl, bound_none, List.length_map, bound_nat hk]
  have := slice_go (es := es) (h := l.length) (k := k) (xs := l.map f) hk (by simp) (by intro x hx; obtain ⟨y, -, rfl⟩ := List.mem_map.1 hx; exact hc y)
  refine Eq.trans this ?_
  rw [← List.map_take, ← List.map_drop]
  simp
theorem slice_to {es k : Nat} {q : IntKind} {sk : SK} (hk : k ≤ l.length) (he : (es == 0) = false) (hc : ∀ x, cellsN es (f x) = true) : sliceA es (.sl sk (l.map f)) none (some (.int q (k : Int))) none = some (.sl .sh ((l.take k).map f)) := by
  have he' : es ≠ 0 := by simpa using he
  simp only [sliceA, if_neg he', sliceSl, bound_none, List.length_map, bound_nat hk]
  have := slice_go (es := es) (h := k) (k := 0) (xs := l.map f) (by omega) (by simpa using hk) (by intro x hx; obtain ⟨y, -, rfl⟩ := List.mem_map.1 hx; exact hc y)
  refine Eq.trans this ?_
  rw [← List.map_take]
  simp
theorem sstr_from {s : List UInt8} {k : Nat} {q : IntKind} (hk : k ≤ s.length) : sliceA 0 (.str s) (some (.int q (k : Int))) none none = some (.str (s.drop k)) := by
  simp [sliceA, sliceStr, boundA, hk]
theorem sstr_to {s : List UInt8} {k : Nat} {q : IntKind} (hk : k ≤ s.length) : sliceA 0 (.str s) none (some (.int q (k : Int))) none = some (.str (s.take k)) := by
  simp [sliceA, sliceStr, boundA, hk]
theorem sstr_in {s : List UInt8} {j k : Nat} {q q' : IntKind} (hj : j ≤ k) (hk : k ≤ s.length) : sliceA 0 (.str s) (some (.int q (j : Int))) (some (.int q' (k : Int))) none = some (.str ((s.take k).drop j)) := by
  simp [sliceA, sliceStr, boundA, hk, hj]
@[simp] theorem rowH_boxes (H : Heap) (ys : List AV) : (rowH H ys).boxes = H.boxes := by cases ys <;> rfl
@[simp] theorem rowH_loops (H : Heap) (ys : List AV) : (rowH H ys).loops = H.loops := by cases ys <;> rfl
theorem app_full {es bytes : Nat} {H : Heap} {sk : SK} {ys : List AV} (h : ys.length * bytes ≤ 140737488355328) (hl : lenOk es ys = true) (hd : dataOk ys = true) :
    appendA es bytes H (.sl .full []) (.sl sk ys) = some (rowS H ys, rowH H ys) := by
  cases ys with
  | nil => rfl
  | cons y ys =>
    have e0 : lenOk es ([] : List AV) = true := rfl
    simp only [appendA, rowS, rowH, List.nil_append, List.length_nil, Nat.zero_add, hl, hd, e0] at h ⊢
    rw [if_pos ⟨h, trivial, trivial, trivial⟩]
theorem app_full_ne {es bytes : Nat} {H : Heap} {sk : SK} {ys : List AV} (hn : ys ≠ []) (h : ys.length * bytes ≤ 140737488355328) (hl : lenOk es ys = true) (hd : dataOk ys = true) :
    appendA es bytes H (.sl .full []) (.sl sk ys) = some (.sl (.own H.toks.length) ys, { H with toks := H.toks ++ [ys.length] }) := by
  rw [app_full h hl hd]
  cases ys with
  | nil => exact absurd rfl hn
  | cons y ys => rfl
theorem app_own {es bytes t : Nat} {H : Heap} {sk : SK} {xs ys : List AV} (ht : H.toks[t]? = some xs.length) (h : (xs.length + ys.length) * bytes ≤ 140737488355328) (hx : lenOk es xs = true) (hl : lenOk es ys = true) (hd : dataOk ys = true) :
    appendA es bytes H (.sl (.own t) xs) (.sl sk ys) = some (.sl (.own t) (xs ++ ys), { H with toks := H.toks.set t (xs.length + ys.length) }) := by
  cases ys with
  | nil =>
    have : H.toks.set t xs.length = H.toks := by
      apply List.ext_getElem?
      intro i
      rw [List.getElem?_set]
      split
      · rename_i e; subst e
        split
        · exact ht.symm
        · rename_i hh; rw [List.getElem?_eq_none (by omega)]
      · rfl
    simp [appendA, this]
  | cons y ys =>
    simp only [appendA, hx, hl, hd] at h ⊢
    rw [if_pos ⟨h, trivial, trivial, trivial⟩]
    simp [ht]
theorem app_own_map {es bytes t : Nat} {H : Heap} {sk : SK} {xs ys : List α} (ht : H.toks[t]? = some (xs.map f).length) (h : ((xs.map f).length + (ys.map f).length) * bytes ≤ 140737488355328) (hx : lenOk es (xs.map f) = true) (hl : lenOk es (ys.map f) = true) (hd : dataOk (ys.map f) = true) :
    appendA es bytes H (.sl (.own t) (xs.map f)) (.sl sk (ys.map f)) = some (.sl (.own t) ((xs ++ ys).map f), { H with toks := H.toks.set t ((xs.map f).length + (ys.map f).length) }) := by
  rw [app_own ht h hx hl hd, List.map_append]
theorem row_snoc {es bytes : Nat} {H : Heap} {ys : List AV} {v : AV} (h : (ys.length + 1) * bytes ≤ 140737488355328) (hl : lenOk es ys = true) (hv : cellsN es v = true) (hd : dataOk [v] = true) :
    appendA es bytes (rowH H ys) (rowS H ys) (.sl .full [v]) = some (.sl (.own H.toks.length) (ys ++ [v]), { H with toks := H.toks ++ [ys.length + 1] }) := by
  rw [row_append h hl hv hd]
  cases ys with
  | nil => rfl
  | cons y ys => simp [rowS, rowH]
theorem row_append_map {es bytes : Nat} {H : Heap} {ys : List α} (h : ((ys.map f).length + 1) * bytes ≤ 140737488355328) (hl : lenOk es (ys.map f) = true) (hv : cellsN es (f x) = true) (hd : dataOk [f x] = true) :
    appendA es bytes (rowH H (ys.map f)) (rowS H (ys.map f)) (.sl .full [f x]) = some (rowS H ((ys ++ [x]).map f), rowH H ((ys ++ [x]).map f)) := by
  rw [row_append h hl hv hd, List.map_append]; rfl
theorem slice_in {es j k : Nat} {q q' : IntKind} {sk : SK} (hj : j ≤ k) (hk : k ≤ l.length) (he : (es == 0) = false) (hc : ∀ x, cellsN es (f x) = true) : sliceA es (.sl sk (l.map f)) (some (.int q (j : Int))) (some (.int q' (k : Int))) none = some (.sl .sh (((l.take k).drop j).map f)) := by
  have he' : es ≠ 0 := by simpa using he
  simp only [sliceA, if_neg he', sliceSl, List.length_map, bound_nat hk, bound_nat hj]
  have := slice_go (es := es) (h := k) (k := j) (xs := l.map f) hj (by simpa using hk) (by intro x hx; obtain ⟨y, -, rfl⟩ := List.mem_map.1 hx; exact hc y)
  refine Eq.trans this ?_
  rw [← List.map_take, ← List.map_drop]
theorem row_snoc_map {es bytes : Nat} {H : Heap} {ys : List α} (h : ((ys.map f).length + 1) * bytes ≤ 140737488355328) (hl : lenOk es (ys.map f) = true) (hv : cellsN es (f x) = true) (hd : dataOk [f x] = true) :
    appendA es bytes (rowH H (ys.map f)) (rowS H (ys.map f)) (.sl .full [f x]) = some (.sl (.own H.toks.length) ((ys ++ [x]).map f), { H with toks := H.toks ++ [(ys.map f).length + 1] }) := by
  rw [row_snoc h hl hv hd, List.map_append]; rfl
theorem lenOk_snoc {n : Nat} {l : List AV} {x : AV} (h : lenOk n l = true) (hx : cellsN n x = true) : lenOk n (l ++ [x]) = true := by
  simp only [lenOk, List.all_append, List.all_cons, List.all_nil, Bool.and_true, Bool.and_eq_true] at h ⊢
  exact ⟨h, hx⟩
theorem lenOk_map {n : Nat} (h : ∀ x, cellsN n (f x) = true) : lenOk n (l.map f) = true := by
  simp only [lenOk, List.all_eq_true, List.mem_map]
  rintro _ ⟨x, -, rfl⟩
  exact h x
theorem dataOk_map (h : ∀ x, (f x).cells.all data0 = true) : dataOk (l.map f) = true := by
  simp only [dataOk, List.all_eq_true, List.mem_map]
  rintro _ ⟨x, -, rfl⟩
  exact List.all_eq_true.1 (h x)
theorem rem_nat {k : IntKind} {a m : Nat} (h : m ≠ 0) : binA .rem (.int k (a : Int)) (.int k (m : Int)) = some (.int k ((a % m : Nat) : Int)) := by
  have : (m : Int) ≠ 0 := by omega
  simp only [binA, if_true, intBin, if_neg this]
  rfl
theorem conv_i64 {k : IntKind} {n : Int} (h : -9223372036854775808 ≤ n ∧ n < 9223372036854775808) : convA (.int .i64) (.int k n) = some (.int .i64 n) := by
  simp [convA, wrap_i64 h.1 h.2]
theorem store_box2 {n k off : Nat} {H : Heap} {cs cs' : List AV} {bs' : List (List AV)} {v : AV} (h : H.boxes[k]? = some cs) (e : storeA n ⟨[cs], [], []⟩ (.ptr 0 off) v = some ⟨[cs'], [], []⟩) (hs : H.boxes.set k cs' = bs') : storeA n H (.ptr k off) v = some { H with boxes := bs' } := by
  rw [← hs]; exact store_box h e
end Go.Aa
