/-
  ONE TERM MORE; ONE LABEL MORE.
-/
import Derived.Test.YtmlipdlbeddijaaDoorAtE
import Derived.Sort.Walk0
set_option linter.unusedVariables false
set_option linter.unusedSimpArgs false
set_option maxRecDepth 100000
namespace Go.Aa.T
open Go.Aa Go.Proofs

/-! ### The order of texts -/
theorem bl_eq (x y : List UInt8) : Op.bytesLess x y = decide (x < y) := bytesLess_eq x y
theorem bl_irrefl (x : List UInt8) : Op.bytesLess x x = false := by rw [bl_eq]; simp [List.lt_irrefl]
theorem bl_trans {x y z : List UInt8} (h1 : Op.bytesLess x y = true) (h2 : Op.bytesLess y z = true) : Op.bytesLess x z = true := by
  rw [bl_eq, decide_eq_true_eq] at h1 h2 ⊢
  exact List.lt_trans h1 h2
theorem bl_not {x y : List UInt8} (h : (Op.bytesLess x y || x == y) = false) : Op.bytesLess y x = true := by
  simp only [Bool.or_eq_false_iff, beq_eq_false_iff_ne, bl_eq, decide_eq_false_iff_not] at h
  rw [bl_eq, decide_eq_true_eq]
  obtain ⟨h1, h2⟩ := h
  by_cases h3 : y < x
  · exact h3
  · exact absurd (List.le_antisymm (List.not_lt.1 h3) (List.not_lt.1 h1)) h2
theorem bl_asym {x y : List UInt8} (h : Op.bytesLess x y = true) : (Op.bytesLess y x || y == x) = false := by
  rw [Bool.or_eq_false_iff]
  constructor
  · cases h' : Op.bytesLess y x with
    | false => rfl
    | true => have := bl_trans h h'; rw [bl_irrefl] at this; cases this
  · rw [beq_eq_false_iff_ne]
    rintro rfl
    rw [bl_irrefl] at h; cases h

/-! ### Sorted labels -/
def ltP (p q : Pair) : Prop := Op.bytesLess p.key q.key = true
def goodP (p : Pair) : Bool := isName p.key && isName p.val
def adj : Option Pair → List Pair → Prop
  | _, [] => True
  | o, x :: post => (∀ p, o = some p → ltP p x) ∧ adj (some x) post
def prevOf (l : List Pair) : Nat → Option Pair
  | 0 => none
  | j + 1 => l[j]?
theorem ckSl_iff (l : List Pair) : ∀ (post : List Pair) (i : Nat) (hd : l.drop i = post), ckSl l i post = 0 ↔ (∀ x ∈ post, goodP x = true) ∧ adj (prevOf l i) post
  | [], i, _ => by simp [ckSl, adj]
  | x :: post, i, hd => by
    have ih := ckSl_iff l post (i + 1) (drop_next hd)
    have hx := drop_at hd
    simp only [prevOf, hx] at ih
    have ho : ordB l i x = false ↔ ∀ p, prevOf l i = some p → ltP p x := by
      cases i with
      | zero => simp [ordB, prevOf]
      | succ j =>
        have hj : j < l.length := by have := drop_lt hd; omega
        simp only [ordB, prevOf, List.getElem?_eq_getElem hj, Option.some.injEq, forall_eq', ltP]
        exact ⟨fun h => bl_not h, fun h => bl_asym h⟩
    unfold ckSl
    by_cases hg : goodP x = true
    · have hg' : (isName x.key && isName x.val) = true := hg
      rw [if_pos hg']
      by_cases hb : ordB l i x = true
      · rw [if_pos hb]
        constructor
        · intro h; exact absurd h (by decide)
        · intro h
          have := ho.2 h.2.1
          rw [this] at hb; cases hb
      · rw [if_neg hb, ih]
        have hb' := ho.1 (Bool.eq_false_iff.2 hb)
        simp [adj, hg]
        exact fun _ _ => hb'
    · rw [if_neg (by exact hg)]
      constructor
      · intro h; exact absurd h (by decide)
      · intro h; exact absurd (h.1 x (by simp)) hg
theorem adj_iff : ∀ (post : List Pair) (o : Option Pair), adj o post ↔ post.Pairwise ltP ∧ ∀ p, o = some p → ∀ y ∈ post, ltP p y
  | [], o => by simp [adj]
  | x :: post, o => by
    simp only [adj, adj_iff post, List.pairwise_cons, List.mem_cons, forall_eq_or_imp]
    constructor
    · rintro ⟨h1, h2, h3⟩
      exact ⟨⟨h3 x rfl, h2⟩, fun p hp => ⟨h1 p hp, fun y hy => bl_trans (h1 p hp) (h3 x rfl y hy)⟩⟩
    · rintro ⟨⟨h1, h2⟩, h3⟩
      exact ⟨fun p hp => (h3 p hp).1, h2, fun p hp => by cases hp; exact h1⟩
theorem ckS_iff (l : List Pair) : ckS l = 0 ↔ l.length ≤ 8 ∧ (∀ x ∈ l, goodP x = true) ∧ l.Pairwise ltP := by
  unfold ckS
  by_cases h : l.length ≤ 8
  · rw [if_pos h, ckSl_iff l l 0 rfl, adj_iff]
    simp [h, prevOf]
  · rw [if_neg h]
    exact ⟨fun h' => absurd h' (by decide), fun h' => absurd h'.1 h⟩
theorem getP_mem : ∀ {u : List Pair}, u.Pairwise ltP → ∀ {p : Pair}, p ∈ u → getP u p.key = some p.val
  | [], _, p, h => by cases h
  | q :: u, hp, p, h => by
    rw [List.pairwise_cons] at hp
    rcases List.mem_cons.1 h with rfl | h
    · simp [getP]
    · have hq := hp.1 p h
      have : (q.key == p.key) = false := by
        rw [beq_eq_false_iff_ne]
        intro e
        simp only [ltP, e, bl_irrefl] at hq
        cases hq
      have ih := getP_mem hp.2 h
      simp only [getP, List.find?_cons, this] at ih ⊢
      exact ih
/-- The place of a new key. -/
def place (s : List Pair) (k : List UInt8) : Nat := (s.takeWhile (fun p => Op.bytesLess p.key k)).length
theorem place_le (s : List Pair) (k : List UInt8) : place s k ≤ s.length := (List.takeWhile_prefix _).length_le
theorem take_place (s : List Pair) (k : List UInt8) : s.take (place s k) = s.takeWhile (fun p => Op.bytesLess p.key k) := List.prefix_iff_eq_take.1 (List.takeWhile_prefix _) |>.symm
theorem drop_place (s : List Pair) (k : List UInt8) : s.drop (place s k) = s.dropWhile (fun p => Op.bytesLess p.key k) := by
  have h := List.takeWhile_append_dropWhile (p := fun p : Pair => Op.bytesLess p.key k) (l := s)
  have h2 := List.take_append_drop (place s k) s
  rw [take_place] at h2
  exact List.append_cancel_left (h2.trans h.symm)
def putP (s : List Pair) (k v : List UInt8) : List Pair := s.take (place s k) ++ [Pair.mk k v] ++ s.drop (place s k)
theorem put_sorted {s : List Pair} {k v : List UInt8} (hs : s.Pairwise ltP) (hk : getP s k = none) : (putP s k v).Pairwise ltP := by
  have e := List.take_append_drop (place s k) s
  have hs' := hs
  rw [← e, List.pairwise_append] at hs
  obtain ⟨h1, h2, h3⟩ := hs
  have hnk : ∀ p ∈ s, ¬ p.key = k := by
    intro p hp he
    have := getP_mem hs' hp
    rw [he, hk] at this
    cases this
  have ht : ∀ p ∈ s.take (place s k), ltP p ⟨k, v⟩ := by
    intro p hp
    rw [take_place] at hp
    have := List.all_takeWhile (p := fun p : Pair => Op.bytesLess p.key k) (l := s)
    exact List.all_eq_true.1 this p hp
  have hd : ∀ p ∈ s.drop (place s k), ltP ⟨k, v⟩ p := by
    intro p hp
    cases hdr : s.drop (place s k) with
    | nil => rw [hdr] at hp; cases hp
    | cons q r =>
      have hq : Op.bytesLess q.key k = false := by
        have h := drop_place s k
        rw [hdr] at h
        have := List.head_dropWhile_not (fun p : Pair => Op.bytesLess p.key k) (by rw [← h]; simp)
        simpa [← h] using this
      have hqs : q ∈ s := List.mem_of_mem_drop (by rw [hdr]; simp)
      have hkq : ltP ⟨k, v⟩ q := bl_not (by rw [hq, Bool.false_or, beq_eq_false_iff_ne]; exact hnk q hqs)
      rw [hdr] at hp h2
      rcases List.mem_cons.1 hp with rfl | hp
      · exact hkq
      · exact bl_trans hkq ((List.pairwise_cons.1 h2).1 p hp)
  unfold putP
  rw [List.append_assoc, List.pairwise_append]
  refine ⟨h1, ?_, ?_⟩
  · rw [List.singleton_append, List.pairwise_cons]
    exact ⟨hd, h2⟩
  · intro p hp q hq
    rcases List.mem_append.1 hq with hq | hq
    · rw [List.mem_singleton] at hq; subst hq; exact ht p hp
    · exact h3 p hp q hq
theorem put_mem {s : List Pair} {k v : List UInt8} {p : Pair} (h : p ∈ s) : p ∈ putP s k v := by
  rw [← List.take_append_drop (place s k) s] at h
  unfold putP
  rcases List.mem_append.1 h with h | h <;> simp [h]
theorem put_new (s : List Pair) (k v : List UInt8) : (⟨k, v⟩ : Pair) ∈ putP s k v := by simp [putP]
theorem put_ok {s : List Pair} {k v : List UInt8} (hs : ckS s = 0) (hk : getP s k = none) (h1 : isName k = true) (h2 : isName v = true) (hl : s.length < 8) : ckS (putP s k v) = 0 := by
  rw [ckS_iff] at hs ⊢
  obtain ⟨a, b, c⟩ := hs
  refine ⟨?_, ?_, put_sorted c hk⟩
  · have e := congrArg List.length (List.take_append_drop (place s k) s)
    simp only [List.length_append] at e
    simp only [putP, List.length_append, List.length_cons, List.length_nil]
    omega
  · intro x hx
    simp only [putP, List.append_assoc, List.mem_append, List.mem_singleton] at hx
    rcases hx with h | rfl | h
    · exact b x (List.mem_of_mem_take h)
    · simp [goodP, h1, h2]
    · exact b x (List.mem_of_mem_drop h)

/-! ### The walk -/
theorem more2_loop (s : List Pair) (k v : List UInt8) (b : List AV) (n n2 : Nat) (hs : ckS s = 0) (hk : ¬ (getP s k).isSome = true) (h1 : isName k = true) (h2 : isName v = true) (hl : s.length < 8) :
    ∀ (post : List Pair) (i : Nat) (hd : s.drop i = post) (T : Env)
    (hT : Has T [(0, .sl .sh (s.map encP)), (3, .str k), (4, .str v), (15, .sl (.own 1) ((s.take (place s k) ++ [Pair.mk k v] ++ s.drop (place s k)).map encP)), (16, .int .i64 i)]),
    Goes cfg a11 k11_1 T ⟨[b], [n, n2], []⟩ (IsRet (.bool true)) := by
  have hk' : getP s k = none := by simpa using hk
  have hsorted := (ckS_iff s).1 hs
  have hp := put_sorted (v := v) hsorted.2.2 hk'
  have hlu : (s.take (place s k) ++ [Pair.mk k v] ++ s.drop (place s k)).length < 9223372036854775807 := by simp; omega
  intro post
  induction post with
  | nil =>
    intro i hd T hT
    have hge := drop_ge hd
    have e1 : getP (s.take (place s k) ++ [Pair.mk k v] ++ s.drop (place s k)) k = some v := getP_mem hp (put_new s k v)
    have e2 : ckS (s.take (place s k) ++ [Pair.mk k v] ++ s.drop (place s k)) = 0 := put_ok hs hk' h1 h2 hl
    exact goG 90 _  hT  (.len (show lenA false (AV.sl SK.sh (List.map encP s)) = some (AV.int IntKind.i64 (↑s.length : Int)) from len_map _) <| .no (show (decide ((↑i : Int) < (↑s.length : Int))) = false from decide_eq_false (show ¬ ((↑i : Int) < (↑s.length : Int)) from (by omega))) <| .callG ([AV.sl (SK.own (1 : Nat)) (List.map encP (List.take (place s k) s ++ [Pair.mk k v] ++ List.drop (place s k) s)), AV.str k]) (AV.tuple [AV.str ((getP (List.take (place s k) s ++ [Pair.mk k v] ++ List.drop (place s k) s) k).getD []), AV.bool (getP (List.take (place s k) s ++ [Pair.mk k v] ++ List.drop (place s k) s) k).isSome]) (show Gives cfg (47 : FuncId) [AV.sl SK.sh (List.map encP (List.take (place s k) s ++ [Pair.mk k v] ++ List.drop (place s k) s)), AV.str k] (getV (getP (List.take (place s k) s ++ [Pair.mk k v] ++ List.drop (place s k) s) k)) from get_any _ _ hlu) ⟨rfl, rfl⟩ ⟨rfl, rfl⟩ <| .yes (show ((getP (List.take (place s k) s ++ [Pair.mk k v] ++ List.drop (place s k) s) k).isSome) = true from (by rw [e1]; first | done | rfl)) <| .yes (show ((getP (List.take (place s k) s ++ [Pair.mk k v] ++ List.drop (place s k) s) k).getD [] == v) = true from beq_iff_eq.2 (show (getP (List.take (place s k) s ++ [Pair.mk k v] ++ List.drop (place s k) s) k).getD [] = v from (by rw [e1]; first | done | rfl))) <| .callG ([AV.sl (SK.own (1 : Nat)) (List.map encP (List.take (place s k) s ++ [Pair.mk k v] ++ List.drop (place s k) s))]) (AV.int IntKind.i64 (ckS (List.take (place s k) s ++ [Pair.mk k v] ++ List.drop (place s k) s))) (show Gives cfg (45 : FuncId) [AV.sl SK.sh (List.map encP (List.take (place s k) s ++ [Pair.mk k v] ++ List.drop (place s k) s))] (AV.int IntKind.i64 (ckS (List.take (place s k) s ++ [Pair.mk k v] ++ List.drop (place s k) s))) from ckS_any _) ⟨rfl, rfl⟩ ⟨rfl, rfl⟩ <| .fin ((ARes.ret (AV.bool (ckS (List.take (place s k) s ++ [Pair.mk k v] ++ List.drop (place s k) s) == (0 : Int))), Heap.mk [b] [n, n2] [])) (by simp only [IsRet, e2]; rfl)) (by kernel_rfl)
  | cons x post ih =>
    intro i hd T hT
    have hlt := drop_lt hd
    have hnx := drop_next hd
    have e1 : getP (s.take (place s k) ++ [Pair.mk k v] ++ s.drop (place s k)) x.key = some x.val := getP_mem hp (put_mem (drop_mem hd))
    exact goG 90 _  hT  (.len (show lenA false (AV.sl SK.sh (List.map encP s)) = some (AV.int IntKind.i64 (↑s.length : Int)) from len_map _) <| .yes (show (decide ((↑i : Int) < (↑s.length : Int))) = true from decide_eq_true (show (↑i : Int) < (↑s.length : Int) from (by omega))) <| .idx (show idxA (2 : Nat) (AV.sl SK.sh (List.map encP s)) (AV.int IntKind.i64 (↑i : Int)) = some (AV.ref (encP x).cells) from idx_row hd (by rfl)) <| .callG ([AV.sl (SK.own (1 : Nat)) (List.map encP (List.take (place s k) s ++ [Pair.mk k v] ++ List.drop (place s k) s)), AV.str x.key]) (AV.tuple [AV.str ((getP (List.take (place s k) s ++ [Pair.mk k v] ++ List.drop (place s k) s) x.key).getD []), AV.bool (getP (List.take (place s k) s ++ [Pair.mk k v] ++ List.drop (place s k) s) x.key).isSome]) (show Gives cfg (47 : FuncId) [AV.sl SK.sh (List.map encP (List.take (place s k) s ++ [Pair.mk k v] ++ List.drop (place s k) s)), AV.str x.key] (getV (getP (List.take (place s k) s ++ [Pair.mk k v] ++ List.drop (place s k) s) x.key)) from get_any _ _ hlu) ⟨rfl, rfl⟩ ⟨rfl, rfl⟩ <| .no (show (!(getP (List.take (place s k) s ++ [Pair.mk k v] ++ List.drop (place s k) s) x.key).isSome) = false from not_f (show (getP (List.take (place s k) s ++ [Pair.mk k v] ++ List.drop (place s k) s) x.key).isSome = true from (by rw [e1]; first | done | rfl))) <| .idx (show idxA (2 : Nat) (AV.sl SK.sh (List.map encP s)) (AV.int IntKind.i64 (↑i : Int)) = some (AV.ref (encP x).cells) from idx_row hd (by rfl)) <| .no (show (!(getP (List.take (place s k) s ++ [Pair.mk k v] ++ List.drop (place s k) s) x.key).getD [] == x.val) = false from nb_f (show (getP (List.take (place s k) s ++ [Pair.mk k v] ++ List.drop (place s k) s) x.key).getD [] = x.val from (by rw [e1]; first | done | rfl))) <| .bin (show binA BinOp.add (AV.int IntKind.i64 (↑i : Int)) (AV.int IntKind.i64 (1 : Int)) = some (AV.int IntKind.i64 (↑(i + (1 : Nat)) : Int)) from inc_i (by omega)) <| .cutQ k11_1 [(0, AV.sl SK.sh (List.map encP s)), (3, AV.str k), (4, AV.str v), (15, AV.sl (SK.own (1 : Nat)) (List.map encP (List.take (place s k) s ++ [Pair.mk k v] ++ List.drop (place s k) s))), (16, AV.int IntKind.i64 (↑(i + (1 : Nat)) : Int))] (Heap.mk [b] [n, n2] []) (fun T hT => (ih (i + (1 : Nat)) hnx T hT))) (by kernel_rfl)
theorem place_step {s : List Pair} {k : List UInt8} {x : Pair} {post : List Pair} {i : Nat} (h : place s k = i + place (x :: post) k) (hx : Op.bytesLess x.key k = true) : place s k = i + 1 + place post k := by
  simp only [place, List.takeWhile_cons, hx, if_true, List.length_cons] at h ⊢
  omega
theorem place_stop {s : List Pair} {k : List UInt8} {x : Pair} {post : List Pair} {i : Nat} (h : place s k = i + place (x :: post) k) (hx : ¬ Op.bytesLess x.key k = true) : place s k = i := by
  simp only [place, List.takeWhile_cons, hx, List.length_nil] at h ⊢
  simpa using h
theorem more1_loop (s : List Pair) (k v : List UInt8) (b : List AV) (n : Nat) (hs : ckS s = 0) (hk : ¬ (getP s k).isSome = true) (h1 : isName k = true) (h2 : isName v = true) (hl : s.length < 8) :
    ∀ (post : List Pair) (i : Nat) (hd : s.drop i = post) (hi : place s k = i + place post k) (T : Env)
    (hT : Has T [(0, .sl .sh (s.map encP)), (3, .str k), (4, .str v), (14, .int .i64 i)]),
    Goes cfg a11 k11_0 T ⟨[b], [n], []⟩ (IsRet (.bool true)) := by
  have hg := fun n2 => more2_loop s k v b n n2 hs hk h1 h2 hl s 0 rfl
  have hsn := fun (H : Heap) (ys : List Pair) h h' => row_snoc_map (es := 2) (bytes := 32) (H := H) (ys := ys) (f := encP) (x := ⟨k, v⟩) h h' rfl rfl
  intro post
  induction post with
  | nil =>
    intro i hd hi T hT
    have hge := drop_ge hd
    have e : i = place s k := by simpa [place] using hi.symm
    subst e
    exact goG 90 _  hT  (.len (show lenA false (AV.sl SK.sh (List.map encP s)) = some (AV.int IntKind.i64 (↑s.length : Int)) from len_map _) <| .no (show (decide ((↑(place s k) : Int) < (↑s.length : Int))) = false from decide_eq_false (show ¬ ((↑(place s k) : Int) < (↑s.length : Int)) from (by have := place_le s k; simp; omega))) <| .ff <| .slice (show sliceA (2 : Nat) (AV.sl SK.sh (List.map encP s)) none (some (AV.int IntKind.i64 (↑(place s k) : Int))) none = some (AV.sl SK.sh (List.map encP (List.take (place s k) s))) from slice_to (by exact place_le s k) (by rfl) (by exact cellP)) <| .append (show appendA (2 : Nat) (32 : Nat) (Heap.mk [b] [n] []) (AV.sl SK.full []) (AV.sl SK.sh (List.map encP (List.take (place s k) s))) = some ((rowS (Heap.mk [b] [n] []) (List.map encP (List.take (place s k) s)), rowH (Heap.mk [b] [n] []) (List.map encP (List.take (place s k) s)))) from app_full (by have := place_le s k; simp; omega) (by exact lenP) (by exact dataP)) <| .append (show appendA (2 : Nat) (32 : Nat) (rowH (Heap.mk [b] [n] []) (List.map encP (List.take (place s k) s))) (rowS (Heap.mk [b] [n] []) (List.map encP (List.take (place s k) s))) (AV.sl SK.full [AV.agg [AV.str k, AV.str v]]) = some ((AV.sl (SK.own (Heap.mk [b] [n] []).toks.length) (List.map encP (List.take (place s k) s ++ [Pair.mk k v])), Heap.mk (Heap.mk [b] [n] []).boxes ((Heap.mk [b] [n] []).toks ++ [(List.map encP (List.take (place s k) s)).length + (1 : Nat)]) (Heap.mk [b] [n] []).loops)) from hsn _ _ (by have := place_le s k; simp; omega) (by exact lenP)) <| .slice (show sliceA (2 : Nat) (AV.sl SK.sh (List.map encP s)) (some (AV.int IntKind.i64 (↑(place s k) : Int))) none none = some (AV.sl SK.sh (List.map encP (List.drop (place s k) s))) from slice_from (by exact place_le s k) (by rfl) (by exact cellP)) <| .append (show appendA (2 : Nat) (32 : Nat) (Heap.mk [b] [n, (List.map encP (List.take (place s k) s)).length + (1 : Nat)] []) (AV.sl (SK.own (1 : Nat)) (List.map encP (List.take (place s k) s ++ [Pair.mk k v]))) (AV.sl SK.sh (List.map encP (List.drop (place s k) s))) = some ((AV.sl (SK.own (1 : Nat)) (List.map encP (List.take (place s k) s ++ [Pair.mk k v] ++ List.drop (place s k) s)), Heap.mk (Heap.mk [b] [n, (List.map encP (List.take (place s k) s)).length + (1 : Nat)] []).boxes ((Heap.mk [b] [n, (List.map encP (List.take (place s k) s)).length + (1 : Nat)] []).toks.set (1 : Nat) ((List.map encP (List.take (place s k) s ++ [Pair.mk k v])).length + (List.map encP (List.drop (place s k) s)).length)) (Heap.mk [b] [n, (List.map encP (List.take (place s k) s)).length + (1 : Nat)] []).loops)) from app_own_map (by simp) (by have := place_le s k; simp; omega) (by exact lenP) (by exact lenP) (by exact dataP)) <| .cutQ k11_1 [(0, AV.sl SK.sh (List.map encP s)), (3, AV.str k), (4, AV.str v), (15, AV.sl (SK.own (1 : Nat)) (List.map encP (List.take (place s k) s ++ [Pair.mk k v] ++ List.drop (place s k) s))), (16, AV.int IntKind.i64 (0 : Int))] (Heap.mk [b] [n, (List.map encP (List.take (place s k) s ++ [Pair.mk k v])).length + (List.map encP (List.drop (place s k) s)).length] []) (fun T hT => (hg ((List.map encP (List.take (place s k) s ++ [Pair.mk k v])).length + (List.map encP (List.drop (place s k) s)).length) T hT))) (by kernel_rfl)
  | cons x post ih =>
    intro i hd hi T hT
    have hlt := drop_lt hd
    have hnx := drop_next hd
    by_cases hx : Op.bytesLess x.key k = true
    · have hi2 := place_step hi hx
      exact goG 90 _  hT  (.len (show lenA false (AV.sl SK.sh (List.map encP s)) = some (AV.int IntKind.i64 (↑s.length : Int)) from len_map _) <| .yes (show (decide ((↑i : Int) < (↑s.length : Int))) = true from decide_eq_true (show (↑i : Int) < (↑s.length : Int) from (by omega))) <| .idx (show idxA (2 : Nat) (AV.sl SK.sh (List.map encP s)) (AV.int IntKind.i64 (↑i : Int)) = some (AV.ref (encP x).cells) from idx_row hd (by rfl)) <| .yes (show (Op.bytesLess x.key k) = true from (by assumption)) <| .bin (show binA BinOp.add (AV.int IntKind.i64 (↑i : Int)) (AV.int IntKind.i64 (1 : Int)) = some (AV.int IntKind.i64 (↑(i + (1 : Nat)) : Int)) from inc_i (by omega)) <| .cutQ k11_0 [(0, AV.sl SK.sh (List.map encP s)), (3, AV.str k), (4, AV.str v), (14, AV.int IntKind.i64 (↑(i + (1 : Nat)) : Int))] (Heap.mk [b] [n] []) (fun T hT => (ih (i + (1 : Nat)) hnx hi2 T hT))) (by kernel_rfl)
    · have e := place_stop hi hx
      subst e
      exact goG 90 _  hT  (.len (show lenA false (AV.sl SK.sh (List.map encP s)) = some (AV.int IntKind.i64 (↑s.length : Int)) from len_map _) <| .yes (show (decide ((↑(place s k) : Int) < (↑s.length : Int))) = true from decide_eq_true (show (↑(place s k) : Int) < (↑s.length : Int) from (by have := place_le s k; simp; omega))) <| .idx (show idxA (2 : Nat) (AV.sl SK.sh (List.map encP s)) (AV.int IntKind.i64 (↑(place s k) : Int)) = some (AV.ref (encP x).cells) from idx_row hd (by rfl)) <| .no (show (Op.bytesLess x.key k) = false from Bool.eq_false_iff.2 (show ¬ (Op.bytesLess x.key k = true) from (by assumption))) <| .slice (show sliceA (2 : Nat) (AV.sl SK.sh (List.map encP s)) none (some (AV.int IntKind.i64 (↑(place s k) : Int))) none = some (AV.sl SK.sh (List.map encP (List.take (place s k) s))) from slice_to (by exact place_le s k) (by rfl) (by exact cellP)) <| .append (show appendA (2 : Nat) (32 : Nat) (Heap.mk [b] [n] []) (AV.sl SK.full []) (AV.sl SK.sh (List.map encP (List.take (place s k) s))) = some ((rowS (Heap.mk [b] [n] []) (List.map encP (List.take (place s k) s)), rowH (Heap.mk [b] [n] []) (List.map encP (List.take (place s k) s)))) from app_full (by have := place_le s k; simp; omega) (by exact lenP) (by exact dataP)) <| .append (show appendA (2 : Nat) (32 : Nat) (rowH (Heap.mk [b] [n] []) (List.map encP (List.take (place s k) s))) (rowS (Heap.mk [b] [n] []) (List.map encP (List.take (place s k) s))) (AV.sl SK.full [AV.agg [AV.str k, AV.str v]]) = some ((AV.sl (SK.own (Heap.mk [b] [n] []).toks.length) (List.map encP (List.take (place s k) s ++ [Pair.mk k v])), Heap.mk (Heap.mk [b] [n] []).boxes ((Heap.mk [b] [n] []).toks ++ [(List.map encP (List.take (place s k) s)).length + (1 : Nat)]) (Heap.mk [b] [n] []).loops)) from hsn _ _ (by have := place_le s k; simp; omega) (by exact lenP)) <| .slice (show sliceA (2 : Nat) (AV.sl SK.sh (List.map encP s)) (some (AV.int IntKind.i64 (↑(place s k) : Int))) none none = some (AV.sl SK.sh (List.map encP (List.drop (place s k) s))) from slice_from (by exact place_le s k) (by rfl) (by exact cellP)) <| .append (show appendA (2 : Nat) (32 : Nat) (Heap.mk [b] [n, (List.map encP (List.take (place s k) s)).length + (1 : Nat)] []) (AV.sl (SK.own (1 : Nat)) (List.map encP (List.take (place s k) s ++ [Pair.mk k v]))) (AV.sl SK.sh (List.map encP (List.drop (place s k) s))) = some ((AV.sl (SK.own (1 : Nat)) (List.map encP (List.take (place s k) s ++ [Pair.mk k v] ++ List.drop (place s k) s)), Heap.mk (Heap.mk [b] [n, (List.map encP (List.take (place s k) s)).length + (1 : Nat)] []).boxes ((Heap.mk [b] [n, (List.map encP (List.take (place s k) s)).length + (1 : Nat)] []).toks.set (1 : Nat) ((List.map encP (List.take (place s k) s ++ [Pair.mk k v])).length + (List.map encP (List.drop (place s k) s)).length)) (Heap.mk [b] [n, (List.map encP (List.take (place s k) s)).length + (1 : Nat)] []).loops)) from app_own_map (by simp) (by have := place_le s k; simp; omega) (by exact lenP) (by exact lenP) (by exact dataP)) <| .cutQ k11_1 [(0, AV.sl SK.sh (List.map encP s)), (3, AV.str k), (4, AV.str v), (15, AV.sl (SK.own (1 : Nat)) (List.map encP (List.take (place s k) s ++ [Pair.mk k v] ++ List.drop (place s k) s))), (16, AV.int IntKind.i64 (0 : Int))] (Heap.mk [b] [n, (List.map encP (List.take (place s k) s ++ [Pair.mk k v])).length + (List.map encP (List.drop (place s k) s)).length] []) (fun T hT => (hg ((List.map encP (List.take (place s k) s ++ [Pair.mk k v])).length + (List.map encP (List.drop (place s k) s)).length) T hT))) (by kernel_rfl)
theorem labelMore (s : List Pair) (l : List Term) (t : Term) (k v : List UInt8) (hz : l.length * 40 ≤ 140737488351232) : Gives cfg 11 [.sl .sh (s.map encP), .sl .sh (l.map encM), encM t, .str k, .str v] (.bool true) := by
  refine Gives.run (l11 _ _) ?_
  have h := fun b n hs hk h1 h2 hl => more1_loop s k v b n hs hk h1 h2 hl s 0 rfl (by simp)
  have e1 : l.length ≤ (l ++ [t]).length := by simp
  have e2 : matchB s (l ++ [t]) = (matchB s l && matchB s ((l ++ [t]).drop l.length)) := by rw [match_app]; simp
  exact goG 120 []  trivial  (.callG ([]) (AV.bool true) (Gives.of (show lim cfg (Key.fn (38 : FuncId)) [] Heap.nil = some (ARes.ret (AV.bool true), Classical.choose known_ret38) from known4')) ⟨rfl, rfl⟩ ⟨rfl, rfl⟩ <| .ff <| .append (show appendA (3 : Nat) (40 : Nat) (Heap.mk [[AV.int IntKind.i64 t.op, AV.str t.key, AV.str t.val]] [] []) (AV.sl SK.full []) (AV.sl SK.sh (List.map encM l)) = some ((rowS (Heap.mk [[AV.int IntKind.i64 t.op, AV.str t.key, AV.str t.val]] [] []) (List.map encM l), rowH (Heap.mk [[AV.int IntKind.i64 t.op, AV.str t.key, AV.str t.val]] [] []) (List.map encM l))) from app_full (by simp; omega) (by exact lenM) (by exact dataM)) <| .load (show loadA true (3 : Nat) (rowH (Heap.mk [[AV.int IntKind.i64 t.op, AV.str t.key, AV.str t.val]] [] []) (List.map encM l)) (AV.ptr (0 : Nat) (0 : Nat)) = some (AV.agg [AV.int IntKind.i64 t.op, AV.str t.key, AV.str t.val]) from load_box (cs := [AV.int IntKind.i64 t.op, AV.str t.key, AV.str t.val]) (by simp [List.set_append]) rfl) <| .append (show appendA (3 : Nat) (40 : Nat) (rowH (Heap.mk [[AV.int IntKind.i64 t.op, AV.str t.key, AV.str t.val]] [] []) (List.map encM l)) (rowS (Heap.mk [[AV.int IntKind.i64 t.op, AV.str t.key, AV.str t.val]] [] []) (List.map encM l)) (AV.sl SK.full [AV.agg [AV.int IntKind.i64 t.op, AV.str t.key, AV.str t.val]]) = some ((AV.sl (SK.own (Heap.mk [[AV.int IntKind.i64 t.op, AV.str t.key, AV.str t.val]] [] []).toks.length) (List.map encM (l ++ [t])), Heap.mk (Heap.mk [[AV.int IntKind.i64 t.op, AV.str t.key, AV.str t.val]] [] []).boxes ((Heap.mk [[AV.int IntKind.i64 t.op, AV.str t.key, AV.str t.val]] [] []).toks ++ [(List.map encM l).length + (1 : Nat)]) (Heap.mk [[AV.int IntKind.i64 t.op, AV.str t.key, AV.str t.val]] [] []).loops)) from row_snoc_map (by simp; omega) (by exact lenM) (by rfl) (by rfl)) <| .callG ([AV.sl SK.sh (List.map encP s)]) (AV.bool (fewP s)) (show Gives cfg (39 : FuncId) [AV.sl SK.sh (List.map encP s)] (AV.bool (fewP s)) from fewP_any _) ⟨rfl, rfl⟩ ⟨rfl, rfl⟩ <| .split (fewP s = true) (fun g1 => .no (show (!fewP s) = false from not_f (show fewP s = true from g1)) <| .callG ([AV.sl (SK.own (0 : Nat)) (List.map encM (l ++ [t]))]) (AV.bool (fewM (l ++ [t]))) (show Gives cfg (40 : FuncId) [AV.sl SK.sh (List.map encM (l ++ [t]))] (AV.bool (fewM (l ++ [t]))) from fewM_any _) ⟨rfl, rfl⟩ ⟨rfl, rfl⟩ <| .split (fewM (l ++ [t]) = true) (fun g2 => .no (show (!fewM (l ++ [t])) = false from not_f (show fewM (l ++ [t]) = true from g2)) <| .callG ([AV.sl SK.sh (List.map encP s)]) (AV.sl SK.sh (List.map encP s)) (show Gives cfg (41 : FuncId) [AV.sl SK.sh (List.map encP s)] (rowS Heap.nil (List.map encP s)) from ofP_any _ (by have := fewP_len (by assumption); omega)) ⟨rfl, rfl⟩ Res.p <| .callG ([AV.sl SK.sh (List.map encP s)]) (AV.int IntKind.i64 (ckS s)) (show Gives cfg (43 : FuncId) [AV.sl SK.sh (List.map encP s)] (AV.int IntKind.i64 (ckS s)) from ckS_ref _) ⟨rfl, rfl⟩ ⟨rfl, rfl⟩ <| .split (ckS s = (0 : Int)) (fun g3 => .no (show (ckS s != (0 : Int)) = false from bne_f (show ckS s = (0 : Int) from g3)) <| .callG ([AV.sl (SK.own (0 : Nat)) (List.map encM (l ++ [t]))]) (AV.sl SK.sh (List.map encM (l ++ [t]))) (show Gives cfg (42 : FuncId) [AV.sl SK.sh (List.map encM (l ++ [t]))] (rowS Heap.nil (List.map encM (l ++ [t]))) from ofM_any _ (by have := fewM_len (by assumption); simp at this ⊢; omega)) ⟨rfl, rfl⟩ Res.p <| .callG ([AV.sl SK.sh (List.map encM (l ++ [t]))]) (AV.int IntKind.i64 (ckM (l ++ [t]))) (show Gives cfg (44 : FuncId) [AV.sl SK.sh (List.map encM (l ++ [t]))] (AV.int IntKind.i64 (ckM (l ++ [t]))) from ckM_ref _) ⟨rfl, rfl⟩ ⟨rfl, rfl⟩ <| .split (ckM (l ++ [t]) = (0 : Int)) (fun g4 => .no (show (ckM (l ++ [t]) != (0 : Int)) = false from bne_f (show ckM (l ++ [t]) = (0 : Int) from g4)) <| .callG ([AV.str k]) (AV.bool (isName k)) (show Gives cfg (61 : FuncId) [AV.str k] (AV.bool (isName k)) from name_any _) ⟨rfl, rfl⟩ ⟨rfl, rfl⟩ <| .split (isName k = true) (fun g5 => .no (show (!isName k) = false from not_f (show isName k = true from g5)) <| .callG ([AV.str v]) (AV.bool (isName v)) (show Gives cfg (61 : FuncId) [AV.str v] (AV.bool (isName v)) from name_any _) ⟨rfl, rfl⟩ ⟨rfl, rfl⟩ <| .split (isName v = true) (fun g6 => .no (show (!isName v) = false from not_f (show isName v = true from g6)) <| .callG ([AV.sl (SK.own (0 : Nat)) (List.map encM (l ++ [t])), AV.sl SK.sh (List.map encP s)]) (AV.bool (matchB s (l ++ [t]))) (show Gives cfg (49 : FuncId) [AV.sl SK.sh (List.map encM (l ++ [t])), AV.sl SK.sh (List.map encP s)] (AV.bool (matchB s (l ++ [t]))) from match_any _ _ (by have := fewP_len (by assumption); omega) (by have := fewM_len (by assumption); simp at this ⊢; omega)) ⟨rfl, rfl⟩ ⟨rfl, rfl⟩ <| .callG ([AV.sl SK.sh (List.map encM l), AV.sl SK.sh (List.map encP s)]) (AV.bool (matchB s l)) (show Gives cfg (49 : FuncId) [AV.sl SK.sh (List.map encM l), AV.sl SK.sh (List.map encP s)] (AV.bool (matchB s l)) from match_any _ _ (by have := fewP_len (by assumption); omega) (by have := fewP_len (by assumption); omega)) ⟨rfl, rfl⟩ ⟨rfl, rfl⟩ <| .split (matchB s l = true) (fun g7 => .yes (show (matchB s l) = true from g7) <| .len (show lenA false (AV.sl SK.sh (List.map encM l)) = some (AV.int IntKind.i64 (↑l.length : Int)) from len_map _) <| .slice (show sliceA (3 : Nat) (AV.sl (SK.own (0 : Nat)) (List.map encM (l ++ [t]))) (some (AV.int IntKind.i64 (↑l.length : Int))) none none = some (AV.sl SK.sh (List.map encM (List.drop l.length (l ++ [t])))) from slice_from e1 (by rfl) (by exact cellM)) <| .callG ([AV.sl SK.sh (List.map encM (List.drop l.length (l ++ [t]))), AV.sl SK.sh (List.map encP s)]) (AV.bool (matchB s (List.drop l.length (l ++ [t])))) (show Gives cfg (49 : FuncId) [AV.sl SK.sh (List.map encM (List.drop l.length (l ++ [t]))), AV.sl SK.sh (List.map encP s)] (AV.bool (matchB s (List.drop l.length (l ++ [t])))) from match_any _ _ (by have := fewP_len (by assumption); omega) (by grind)) ⟨rfl, rfl⟩ ⟨rfl, rfl⟩ <| .no (show (!matchB s (l ++ [t]) == matchB s (List.drop l.length (l ++ [t]))) = false from nb_f (show matchB s (l ++ [t]) = matchB s (List.drop l.length (l ++ [t])) from (by grind))) <| .callG ([AV.sl SK.sh (List.map encP s), AV.str k]) (AV.tuple [AV.str ((getP s k).getD []), AV.bool (getP s k).isSome]) (show Gives cfg (47 : FuncId) [AV.sl SK.sh (List.map encP s), AV.str k] (getV (getP s k)) from get_any _ _ (by have := fewP_len (by assumption); omega)) ⟨rfl, rfl⟩ ⟨rfl, rfl⟩ <| .split ((getP s k).isSome = true) (fun g8 => .yes (show ((getP s k).isSome) = true from g8) <| .tt <| .fin ((ARes.ret (AV.bool true), Heap.mk [[AV.int IntKind.i64 t.op, AV.str t.key, AV.str t.val]] [(List.map encM l).length + (1 : Nat)] [])) rfl) (fun g8 => .no (show ((getP s k).isSome) = false from Bool.eq_false_iff.2 (show ¬ ((getP s k).isSome = true) from g8)) <| .len (show lenA false (AV.sl SK.sh (List.map encP s)) = some (AV.int IntKind.i64 (↑s.length : Int)) from len_map _) <| .split ((8 : Int) ≤ (↑s.length : Int)) (fun g9 => .yes (show (decide ((8 : Int) ≤ (↑s.length : Int))) = true from decide_eq_true (show (8 : Int) ≤ (↑s.length : Int) from g9)) <| .fin ((ARes.ret (AV.bool true), Heap.mk [[AV.int IntKind.i64 t.op, AV.str t.key, AV.str t.val]] [(List.map encM l).length + (1 : Nat)] [])) rfl) (fun g9 => .no (show (decide ((8 : Int) ≤ (↑s.length : Int))) = false from decide_eq_false (show ¬ ((8 : Int) ≤ (↑s.length : Int)) from g9)) <| .cutQ k11_0 [(0, AV.sl SK.sh (List.map encP s)), (3, AV.str k), (4, AV.str v), (14, AV.int IntKind.i64 (0 : Int))] (Heap.mk [[AV.int IntKind.i64 t.op, AV.str t.key, AV.str t.val]] [(List.map encM l).length + (1 : Nat)] []) (fun T hT => (h ([AV.int IntKind.i64 t.op, AV.str t.key, AV.str t.val]) ((List.map encM l).length + (1 : Nat)) g3 g8 g5 g6 (by have := fewP_len (by assumption); omega) T hT))))) (fun g7 => .no (show (matchB s l) = false from Bool.eq_false_iff.2 (show ¬ (matchB s l = true) from g7)) <| .no (show (!matchB s (l ++ [t]) == false) = false from nb_f (show matchB s (l ++ [t]) = false from (by grind))) <| .callG ([AV.sl SK.sh (List.map encP s), AV.str k]) (AV.tuple [AV.str ((getP s k).getD []), AV.bool (getP s k).isSome]) (show Gives cfg (47 : FuncId) [AV.sl SK.sh (List.map encP s), AV.str k] (getV (getP s k)) from get_any _ _ (by have := fewP_len (by assumption); omega)) ⟨rfl, rfl⟩ ⟨rfl, rfl⟩ <| .split ((getP s k).isSome = true) (fun g8 => .yes (show ((getP s k).isSome) = true from g8) <| .tt <| .fin ((ARes.ret (AV.bool true), Heap.mk [[AV.int IntKind.i64 t.op, AV.str t.key, AV.str t.val]] [(List.map encM l).length + (1 : Nat)] [])) rfl) (fun g8 => .no (show ((getP s k).isSome) = false from Bool.eq_false_iff.2 (show ¬ ((getP s k).isSome = true) from g8)) <| .len (show lenA false (AV.sl SK.sh (List.map encP s)) = some (AV.int IntKind.i64 (↑s.length : Int)) from len_map _) <| .split ((8 : Int) ≤ (↑s.length : Int)) (fun g9 => .yes (show (decide ((8 : Int) ≤ (↑s.length : Int))) = true from decide_eq_true (show (8 : Int) ≤ (↑s.length : Int) from g9)) <| .fin ((ARes.ret (AV.bool true), Heap.mk [[AV.int IntKind.i64 t.op, AV.str t.key, AV.str t.val]] [(List.map encM l).length + (1 : Nat)] [])) rfl) (fun g9 => .no (show (decide ((8 : Int) ≤ (↑s.length : Int))) = false from decide_eq_false (show ¬ ((8 : Int) ≤ (↑s.length : Int)) from g9)) <| .cutQ k11_0 [(0, AV.sl SK.sh (List.map encP s)), (3, AV.str k), (4, AV.str v), (14, AV.int IntKind.i64 (0 : Int))] (Heap.mk [[AV.int IntKind.i64 t.op, AV.str t.key, AV.str t.val]] [(List.map encM l).length + (1 : Nat)] []) (fun T hT => (h ([AV.int IntKind.i64 t.op, AV.str t.key, AV.str t.val]) ((List.map encM l).length + (1 : Nat)) g3 g8 g5 g6 (by have := fewP_len (by assumption); omega) T hT)))))) (fun g6 => .yes (show (!isName v) = true from not_t (show ¬ (isName v = true) from g6)) <| .fin ((ARes.ret (AV.bool true), Heap.mk [[AV.int IntKind.i64 t.op, AV.str t.key, AV.str t.val]] [(List.map encM l).length + (1 : Nat)] [])) rfl)) (fun g5 => .yes (show (!isName k) = true from not_t (show ¬ (isName k = true) from g5)) <| .tt <| .fin ((ARes.ret (AV.bool true), Heap.mk [[AV.int IntKind.i64 t.op, AV.str t.key, AV.str t.val]] [(List.map encM l).length + (1 : Nat)] [])) rfl)) (fun g4 => .yes (show (ckM (l ++ [t]) != (0 : Int)) = true from bne_t (show ¬ (ckM (l ++ [t]) = (0 : Int)) from g4)) <| .tt <| .tt <| .fin ((ARes.ret (AV.bool true), Heap.mk [[AV.int IntKind.i64 t.op, AV.str t.key, AV.str t.val]] [(List.map encM l).length + (1 : Nat)] [])) rfl)) (fun g3 => .yes (show (ckS s != (0 : Int)) = true from bne_t (show ¬ (ckS s = (0 : Int)) from g3)) <| .tt <| .tt <| .tt <| .fin ((ARes.ret (AV.bool true), Heap.mk [[AV.int IntKind.i64 t.op, AV.str t.key, AV.str t.val]] [(List.map encM l).length + (1 : Nat)] [])) rfl)) (fun g2 => .yes (show (!fewM (l ++ [t])) = true from not_t (show ¬ (fewM (l ++ [t]) = true) from g2)) <| .tt <| .tt <| .tt <| .tt <| .fin ((ARes.ret (AV.bool true), Heap.mk [[AV.int IntKind.i64 t.op, AV.str t.key, AV.str t.val]] [(List.map encM l).length + (1 : Nat)] [])) rfl)) (fun g1 => .yes (show (!fewP s) = true from not_t (show ¬ (fewP s = true) from g1)) <| .tt <| .tt <| .tt <| .tt <| .tt <| .fin ((ARes.ret (AV.bool true), Heap.mk [[AV.int IntKind.i64 t.op, AV.str t.key, AV.str t.val]] [(List.map encM l).length + (1 : Nat)] [])) rfl)) (by kernel_rfl)
end Go.Aa.T
