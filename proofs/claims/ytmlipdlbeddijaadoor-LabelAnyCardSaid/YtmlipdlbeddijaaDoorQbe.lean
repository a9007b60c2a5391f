/-
  WHAT THE LAW LEANS ON, part 5 of 5: a machine of values and its soundness; the functions of the law upon it; what they come to.
-/
import Derived.Test.YtmlipdlbeddijaaDoorQbd

set_option linter.unusedVariables false
set_option linter.unusedSimpArgs false
set_option maxRecDepth 100000
namespace Go.Aa.T
open Go.Aa Go.Proofs
def pText (x : Pair) : List UInt8 := x.key ++ [58] ++ x.val
def mText (x : Term) : List UInt8 := if x.op = 1 then x.key ++ [58] ++ x.val else if x.op = 2 then x.key ++ [33] ++ x.val else if x.op = 4 then [45] ++ x.key else x.key
def textOf {α : Type} (f : α → List UInt8) (l : List α) : List UInt8 := if l.isEmpty then [45] else Lib.join (l.map f) [44]
theorem tail_len : ∀ (r : List (List UInt8)), (∀ s ∈ r, s.length ≤ 103) → (Lib.joinTail [44] r).length ≤ r.length * 104
  | [], _ => by simp [Lib.joinTail]
  | s :: r, h => by
    have h1 := h s (by simp)
    have h2 := tail_len r (fun y hy => h y (by simp [hy]))
    simp only [Lib.joinTail, List.map_cons, List.flatten_cons, List.length_append, List.length_cons, List.length_nil] at h2 ⊢
    omega
theorem join_len (ss : List (List UInt8)) (h : ∀ s ∈ ss, s.length ≤ 103) (hn : ss.length ≤ 20) : (Lib.join ss [44]).length ≤ 3000 := by
  cases ss with
  | nil => simp [Lib.join_nil]
  | cons x r =>
    rw [Lib.join_cons, List.length_append]
    have h1 := h x (by simp)
    have h2 := tail_len r (fun y hy => h y (by simp [hy]))
    simp only [List.length_cons] at hn
    omega
theorem strsA_map (ss : List (List UInt8)) : strsA (ss.map AV.str) = some ss := by
  induction ss with
  | nil => rfl
  | cons s ss ih => simp [strsA, ih]
theorem join_any (ss : List (List UInt8)) (h1 : ss.length ≤ 140737488355328) (h2 : (Lib.join ss [44]).length ≤ 140737488355328) : Gives cfg 99 [.sl .sh (ss.map AV.str), .str [44]] (.str (Lib.join ss [44])) := by
  refine Gives.of (H' := Heap.nil) ?_
  rw [lim_ext (g := joinE) rfl rfl]
  have : joinE [.sl .sh (ss.map AV.str), .str [44]] Heap.nil = some (.str (Lib.join ss [44]), Heap.nil) := by
    simp only [joinE, strsA_map]
    exact if_pos ⟨h1, h2⟩
  rw [this]; rfl
theorem lenSt {l : List (List UInt8)} : lenOk 1 (l.map AV.str) = true := lenOk_map fun _ => rfl

theorem joined_loop (ss : List (List UInt8)) (total : List UInt8) (hb : total.length ≤ 4611686018427387904) (hn : ss.length ≤ 20) : ∀ (post : List (List UInt8)) (i : Nat) (s : List UInt8) (hd : ss.drop i = post) (hs : s ++ Lib.joinTail [44] post = total) (T : Env)
    (hT : Has T [(0, .sl .sh (ss.map AV.str)), (3, .str s), (4, .int .i64 i)]),
    Goes cfg a67 k67_0 T Heap.nil (IsRet (.str total)) := by
  intro post
  induction post with
  | nil =>
    intro i s hd hs T hT
    have hge := drop_ge hd
    have e : s = total := by simpa [Lib.joinTail] using hs
    subst e
    exact goG 60 _  hT  (.len (show lenA false (AV.sl SK.sh (List.map AV.str ss)) = some (AV.int IntKind.i64 (↑ss.length : Int)) from len_map _) <| .no (show (decide ((↑i : Int) < (↑ss.length : Int))) = false from decide_eq_false (show ¬ ((↑i : Int) < (↑ss.length : Int)) from (by omega))) <| .fin ((ARes.ret (AV.str s), Heap.mk [] [] [])) rfl) (by kernel_rfl)
  | cons y post ih =>
    intro i s hd hs T hT
    have hlt := drop_lt hd
    have hnx := drop_next hd
    have hlen : s.length + 1 + y.length ≤ 4611686018427387904 := by
      rw [← hs] at hb
      simp only [Lib.joinTail, List.map_cons, List.flatten_cons, List.length_append, List.length_cons, List.length_nil] at hb
      omega
    have hs2 : s ++ [44] ++ y ++ Lib.joinTail [44] post = total := by rw [← hs]; simp [Lib.joinTail]
    exact goG 60 _  hT  (.len (show lenA false (AV.sl SK.sh (List.map AV.str ss)) = some (AV.int IntKind.i64 (↑ss.length : Int)) from len_map _) <| .yes (show (decide ((↑i : Int) < (↑ss.length : Int))) = true from decide_eq_true (show (↑i : Int) < (↑ss.length : Int) from (by simp; omega))) <| .bin (show binA BinOp.add (AV.str s) (AV.str [(44 : UInt8)]) = some (AV.str (s ++ [(44 : UInt8)])) from str_add (by simp; omega)) <| .idx (show idxA (1 : Nat) (AV.sl SK.sh (List.map AV.str ss)) (AV.int IntKind.i64 (↑i : Int)) = some (AV.ref (AV.str y).cells) from idx_row hd (by rfl)) <| .bin (show binA BinOp.add (AV.str (s ++ [(44 : UInt8)])) (AV.str y) = some (AV.str (s ++ [(44 : UInt8)] ++ y)) from str_add (by simp; omega)) <| .bin (show binA BinOp.add (AV.int IntKind.i64 (↑i : Int)) (AV.int IntKind.i64 (1 : Int)) = some (AV.int IntKind.i64 (↑(i + (1 : Nat)) : Int)) from inc_i (by omega)) <| .cutQ k67_0 [(0, AV.sl SK.sh (List.map AV.str ss)), (3, AV.str (s ++ [(44 : UInt8)] ++ y)), (4, AV.int IntKind.i64 (↑(i + (1 : Nat)) : Int))] (Heap.mk [] [] []) (fun T hT => (ih (i + (1 : Nat)) (s ++ [(44 : UInt8)] ++ y) hnx hs2 T hT))) (by kernel_rfl)
theorem joined_any (ss : List (List UInt8)) (hn : ss.length ≤ 20) (hb : (Lib.join ss [44]).length ≤ 3000) : Gives cfg 67 [.sl .sh (ss.map AV.str)] (.str (textOf id ss)) := by
  refine Gives.run (l67 _ _) ?_
  by_cases hs : ss = []
  · subst hs
    exact goG 60 []  trivial  (.len (show lenA false (AV.sl SK.sh []) = some (AV.int IntKind.i64 (↑[].length : Int)) from len_sl _ _) <| .tt <| .fin ((ARes.ret (AV.str [(45 : UInt8)]), Heap.mk [] [] [])) rfl) (by kernel_rfl)
  · obtain ⟨x, r, e⟩ := List.exists_cons_of_ne_nil hs
    have hp : 0 < ss.length := List.length_pos_iff.2 hs
    have h0 : ss[0]? = some x := by rw [e]; rfl
    have hd1 : ss.drop 1 = r := by rw [e]; rfl
    have h := fun hb hn => joined_loop ss (Lib.join ss [44]) hb hn r 1 x hd1 (by rw [e]; exact (Lib.join_cons x r [44]).symm)
    have e : textOf id ss = Lib.join ss [44] := by simp [textOf, hs]
    rw [e]
    exact goG 60 []  trivial  (.len (show lenA false (AV.sl SK.sh (List.map AV.str ss)) = some (AV.int IntKind.i64 (↑ss.length : Int)) from len_map _) <| .no (show ((↑ss.length : Int) == (0 : Int)) = false from beq_eq_false_iff_ne.2 (show ¬ ((↑ss.length : Int) = (0 : Int)) from (by simp at *; omega))) <| .idx (show idxA (1 : Nat) (AV.sl SK.sh (List.map AV.str ss)) (AV.int IntKind.i64 (0 : Int)) = some (AV.ref (AV.str x).cells) from idx_zero h0 (by rfl)) <| .cutQ k67_0 [(0, AV.sl SK.sh (List.map AV.str ss)), (3, AV.str x), (4, AV.int IntKind.i64 (1 : Int))] (Heap.mk [] [] []) (fun T hT => (h (by simp at *; omega) hn T hT))) (by kernel_rfl)



theorem pText_len (x : Pair) (hk : x.key.length ≤ 50) (hv : x.val.length ≤ 50) : (pText x).length ≤ 103 := by
  unfold pText
  repeat' split
  all_goals (try simp)
  all_goals omega
theorem pText_one (x : Pair) (hk : x.key.length ≤ 50) (hv : x.val.length ≤ 50) : Gives cfg 85 [encP x] (.str (pText x)) := by
  refine Gives.run (l85 _ _) ?_
  exact goG 60 []  trivial  (.bin (show binA BinOp.add (AV.str x.key) (AV.str [(58 : UInt8)]) = some (AV.str (x.key ++ [(58 : UInt8)])) from str_add (by simp; omega)) <| .bin (show binA BinOp.add (AV.str (x.key ++ [(58 : UInt8)])) (AV.str x.val) = some (AV.str (x.key ++ [(58 : UInt8)] ++ x.val)) from str_add (by simp; omega)) <| .fin ((ARes.ret (AV.str (x.key ++ [(58 : UInt8)] ++ x.val)), Heap.mk [[AV.str x.key, AV.str x.val]] [] [])) rfl) (by kernel_rfl)
theorem pText_loop (l : List Pair) (hn : l.length ≤ 20) (hf : ∀ x ∈ l, x.key.length ≤ 50 ∧ x.val.length ≤ 50) (hj : (Lib.join (l.map pText) [44]).length ≤ 3000) : ∀ (post : List Pair) (i : Nat) (acc : List (List UInt8)) (bs : List (List AV)) (hd : l.drop i = post) (ha : acc.length = i) (hall : acc ++ post.map pText = l.map pText) (T : Env)
    (hT : Has T [(1, .func 85 []), (5, rowS Heap.nil (acc.map AV.str)), (11, .sl .sh (l.map encP)), (12, .int .i64 l.length), (13, .int .i64 i)]),
    Goes cfg a84 k84_0 T (rowH ⟨bs, [], []⟩ (acc.map AV.str)) (IsRet (.str (Lib.join (l.map pText) [44]))) := by
  intro post
  induction post with
  | nil =>
    intro i acc bs hd ha hall T hT
    have hge := drop_ge hd
    have e : acc = l.map pText := by simpa using hall
    subst e
    exact goG 60 _  hT  (.no (show (decide ((↑i : Int) < (↑l.length : Int))) = false from decide_eq_false (show ¬ ((↑i : Int) < (↑l.length : Int)) from (by simp; omega))) <| .callG ([rowS Heap.nil (List.map AV.str (List.map pText l)), AV.str [(44 : UInt8)]]) (AV.str (Lib.join (List.map pText l) [(44 : UInt8)])) (show Gives cfg (99 : FuncId) [AV.sl SK.sh (List.map AV.str (List.map pText l)), AV.str [(44 : UInt8)]] (AV.str (Lib.join (List.map pText l) [(44 : UInt8)])) from join_any _ (by simp; omega) (by omega)) Shuts.p ⟨rfl, rfl⟩ <| .fin ((ARes.ret (AV.str (Lib.join (List.map pText l) [(44 : UInt8)])), rowH (Heap.mk bs [] []) (List.map AV.str (List.map pText l)))) rfl) (by kernel_rfl)
  | cons x post ih =>
    intro i acc bs hd ha hall T hT
    have hlt := drop_lt hd
    have hnx := drop_next hd
    obtain ⟨hk, hv⟩ := hf x (drop_mem hd)
    have hall2 : (acc ++ [pText x]) ++ post.map pText = l.map pText := by rw [← hall]; simp
    exact goG 60 _  hT  (.yes (show (decide ((↑i : Int) < (↑l.length : Int))) = true from decide_eq_true (show (↑i : Int) < (↑l.length : Int) from (by simp; omega))) <| .idx (show idxA (2 : Nat) (AV.sl SK.sh (List.map encP l)) (AV.int IntKind.i64 (↑i : Int)) = some (AV.ref (encP x).cells) from idx_row hd (by rfl)) <| .load (row_load (ys := List.map AV.str acc) (show loadA true (2 : Nat) (Heap.mk bs [] []) (AV.ref [AV.str x.key, AV.str x.val]) = some (AV.agg [AV.str x.key, AV.str x.val]) from rfl)) <| .boxR (AV.agg [AV.str [], AV.str []]) (Heap.mk bs [] []) (List.map AV.str acc) rfl <| .store (row_store (ys := List.map AV.str acc) (show storeA (2 : Nat) (Heap.mk (bs ++ [[AV.str [], AV.str []]]) [] []) (AV.ptr (Heap.mk bs [] []).boxes.length (0 : Nat)) (AV.agg [AV.str x.key, AV.str x.val]) = some (Heap.mk (bs ++ [[AV.str x.key, AV.str x.val]]) [] []) from store_box2 (cs := [AV.str [], AV.str []]) (cs' := [AV.str x.key, AV.str x.val]) (by simp [List.set_append]) rfl (by simp [List.set_append]))) <| .load (row_load (ys := List.map AV.str acc) (show loadA true (2 : Nat) (Heap.mk (bs ++ [[AV.str x.key, AV.str x.val]]) [] []) (AV.ptr (Heap.mk bs [] []).boxes.length (0 : Nat)) = some (AV.agg [AV.str x.key, AV.str x.val]) from load_box (cs := [AV.str x.key, AV.str x.val]) (by simp [List.set_append]) rfl)) <| .callG ([AV.agg [AV.str x.key, AV.str x.val]]) (AV.str (pText x)) (show Gives cfg (85 : FuncId) [encP x] (AV.str (pText x)) from pText_one _ hk hv) ⟨rfl, rfl⟩ ⟨rfl, rfl⟩ <| .append (show appendA (1 : Nat) (16 : Nat) (rowH (Heap.mk (bs ++ [[AV.str x.key, AV.str x.val]]) [] []) (List.map AV.str acc)) (rowS Heap.nil (List.map AV.str acc)) (AV.sl SK.full [AV.str (pText x)]) = some ((rowS Heap.nil (List.map AV.str (acc ++ [pText x])), rowH (Heap.mk (bs ++ [[AV.str x.key, AV.str x.val]]) [] []) (List.map AV.str (acc ++ [pText x])))) from row_append_B (by simp; omega) (by exact lenSt) (by rfl) (by rfl)) <| .bin (show binA BinOp.add (AV.int IntKind.i64 (↑i : Int)) (AV.int IntKind.i64 (1 : Int)) = some (AV.int IntKind.i64 (↑(i + (1 : Nat)) : Int)) from inc_i (by omega)) <| .cutQ k84_0 [(1, AV.func (85 : FuncId) []), (5, rowS Heap.nil (List.map AV.str (acc ++ [pText x]))), (11, AV.sl SK.sh (List.map encP l)), (12, AV.int IntKind.i64 (↑l.length : Int)), (13, AV.int IntKind.i64 (↑(i + (1 : Nat)) : Int))] (rowH (Heap.mk (bs ++ [[AV.str x.key, AV.str x.val]]) [] []) (List.map AV.str (acc ++ [pText x]))) (fun T hT => (ih (i + (1 : Nat)) (acc ++ [pText x]) (bs ++ [[AV.str x.key, AV.str x.val]]) hnx (by simp; omega) hall2 T hT))) (by kernel_rfl)
theorem pText_any (l : List Pair) (hf : fewP l = true) : Gives cfg 51 [.sl .sh (l.map encP)] (.str (textOf pText l)) := by
  have hn := fewP_len hf
  have hf2 : ∀ x ∈ l, x.key.length ≤ 50 ∧ x.val.length ≤ 50 := by
    simp only [fewP, few, Bool.and_eq_true, List.all_eq_true, decide_eq_true_eq] at hf
    exact hf.2
  have hj : (Lib.join (l.map pText) [44]).length ≤ 3000 := join_len _ (by
    intro s hs
    obtain ⟨x, hx, rfl⟩ := List.mem_map.1 hs
    exact pText_len x (hf2 x hx).1 (hf2 x hx).2) (by simpa using hn)
  have hjoin : Gives cfg 84 [.sl .sh (l.map encP), .func 85 []] (.str (textOf pText l)) := by
    refine Gives.run (l84 _ _) ?_
    have h := pText_loop l hn hf2 hj l 0 [] [] rfl rfl rfl
    by_cases hl : l = []
    · subst hl
      exact goG 60 []  trivial  (.len (show lenA false (AV.sl SK.sh []) = some (AV.int IntKind.i64 (↑[].length : Int)) from len_sl _ _) <| .tt <| .fin ((ARes.ret (AV.str [(45 : UInt8)]), Heap.mk [] [] [])) rfl) (by kernel_rfl)
    · have hp : 0 < l.length := List.length_pos_iff.2 hl
      have e : textOf pText l = Lib.join (l.map pText) [44] := by simp [textOf, hl]
      rw [e]
      exact goG 60 []  trivial  (.len (show lenA false (AV.sl SK.sh (List.map encP l)) = some (AV.int IntKind.i64 (↑l.length : Int)) from len_map _) <| .no (show ((↑l.length : Int) == (0 : Int)) = false from beq_eq_false_iff_ne.2 (show ¬ ((↑l.length : Int) = (0 : Int)) from (by omega))) <| .len (show lenA false (AV.sl SK.sh (List.map encP l)) = some (AV.int IntKind.i64 (↑l.length : Int)) from len_map _) <| .cutQ k84_0 [(1, AV.func (85 : FuncId) []), (5, AV.sl SK.full []), (11, AV.sl SK.sh (List.map encP l)), (12, AV.int IntKind.i64 (↑l.length : Int)), (13, AV.int IntKind.i64 (0 : Int))] (Heap.mk [] [] []) (fun T hT => (h T hT))) (by kernel_rfl)
  refine Gives.run (l51 _ _) ?_
  exact goG 60 []  trivial  (.callG ([AV.sl SK.sh (List.map encP l), AV.func (85 : FuncId) []]) (AV.str (textOf pText l)) (show Gives cfg (84 : FuncId) [AV.sl SK.sh (List.map encP l), AV.func (85 : FuncId) []] (AV.str (textOf pText l)) from hjoin) ⟨rfl, rfl⟩ ⟨rfl, rfl⟩ <| .fin ((ARes.ret (AV.str (textOf pText l)), Heap.mk [] [] [])) rfl) (by kernel_rfl)
theorem pText_ref_loop (l : List Pair) (hn : l.length ≤ 20) (hf : ∀ x ∈ l, x.key.length ≤ 50 ∧ x.val.length ≤ 50) (hj : (Lib.join (l.map pText) [44]).length ≤ 3000) : ∀ (post : List Pair) (i : Nat) (acc : List (List UInt8)) (hd : l.drop i = post) (ha : acc.length = i) (hall : acc ++ post.map pText = l.map pText) (T : Env)
    (hT : Has T [(0, .sl .sh (l.map encP)), (3, rowS Heap.nil (acc.map AV.str)), (4, .int .i64 i)]),
    Goes cfg a52 k52_0 T (rowH Heap.nil (acc.map AV.str)) (IsRet (.str (textOf pText l))) := by
  intro post
  induction post with
  | nil =>
    intro i acc hd ha hall T hT
    have hge := drop_ge hd
    have e : acc = l.map pText := by simpa using hall
    subst e
    have hj2 : Gives cfg 67 [.sl .sh ((l.map pText).map AV.str)] (.str (textOf pText l)) := by
      have := joined_any (l.map pText) (by simpa using hn) hj
      cases l with
      | nil => exact this
      | cons => simpa [textOf] using this
    exact goG 60 _  hT  (.len (show lenA false (AV.sl SK.sh (List.map encP l)) = some (AV.int IntKind.i64 (↑l.length : Int)) from len_map _) <| .no (show (decide ((↑i : Int) < (↑l.length : Int))) = false from decide_eq_false (show ¬ ((↑i : Int) < (↑l.length : Int)) from (by simp; omega))) <| .callG ([rowS Heap.nil (List.map AV.str (List.map pText l))]) (AV.str (textOf pText l)) (show Gives cfg (67 : FuncId) [AV.sl SK.sh (List.map AV.str (List.map pText l))] (AV.str (textOf pText l)) from hj2) Shuts.p ⟨rfl, rfl⟩ <| .fin ((ARes.ret (AV.str (textOf pText l)), rowH Heap.nil (List.map AV.str (List.map pText l)))) rfl) (by kernel_rfl)
  | cons x post ih =>
    intro i acc hd ha hall T hT
    have hlt := drop_lt hd
    have hnx := drop_next hd
    obtain ⟨hk, hv⟩ := hf x (drop_mem hd)
    have hall2 : (acc ++ [pText x]) ++ post.map pText = l.map pText := by rw [← hall]; simp
    exact goG 90 _  hT  (.len (show lenA false (AV.sl SK.sh (List.map encP l)) = some (AV.int IntKind.i64 (↑l.length : Int)) from len_map _) <| .yes (show (decide ((↑i : Int) < (↑l.length : Int))) = true from decide_eq_true (show (↑i : Int) < (↑l.length : Int) from (by simp; omega))) <| .idx (show idxA (2 : Nat) (AV.sl SK.sh (List.map encP l)) (AV.int IntKind.i64 (↑i : Int)) = some (AV.ref (encP x).cells) from idx_row hd (by rfl)) <| .load (row_load (ys := List.map AV.str acc) (show loadA false (1 : Nat) Heap.nil (AV.ref [AV.str x.key]) = some (AV.str x.key) from rfl)) <| .bin (show binA BinOp.add (AV.str x.key) (AV.str [(58 : UInt8)]) = some (AV.str (x.key ++ [(58 : UInt8)])) from str_add (by simp; omega)) <| .idx (show idxA (2 : Nat) (AV.sl SK.sh (List.map encP l)) (AV.int IntKind.i64 (↑i : Int)) = some (AV.ref (encP x).cells) from idx_row hd (by rfl)) <| .load (row_load (ys := List.map AV.str acc) (show loadA false (1 : Nat) Heap.nil (AV.ref [AV.str x.val]) = some (AV.str x.val) from rfl)) <| .bin (show binA BinOp.add (AV.str (x.key ++ [(58 : UInt8)])) (AV.str x.val) = some (AV.str (x.key ++ [(58 : UInt8)] ++ x.val)) from str_add (by simp; omega)) <| .append (show appendA (1 : Nat) (16 : Nat) (rowH Heap.nil (List.map AV.str acc)) (rowS Heap.nil (List.map AV.str acc)) (AV.sl SK.full [AV.str (x.key ++ [(58 : UInt8)] ++ x.val)]) = some ((rowS Heap.nil (List.map AV.str (acc ++ [x.key ++ [(58 : UInt8)] ++ x.val])), rowH Heap.nil (List.map AV.str (acc ++ [x.key ++ [(58 : UInt8)] ++ x.val])))) from row_append_map (by simp; omega) (by exact lenSt) (by rfl) (by rfl)) <| .bin (show binA BinOp.add (AV.int IntKind.i64 (↑i : Int)) (AV.int IntKind.i64 (1 : Int)) = some (AV.int IntKind.i64 (↑(i + (1 : Nat)) : Int)) from inc_i (by omega)) <| .cutQ k52_0 [(0, AV.sl SK.sh (List.map encP l)), (3, rowS Heap.nil (List.map AV.str (acc ++ [x.key ++ [(58 : UInt8)] ++ x.val]))), (4, AV.int IntKind.i64 (↑(i + (1 : Nat)) : Int))] (rowH Heap.nil (List.map AV.str (acc ++ [x.key ++ [(58 : UInt8)] ++ x.val]))) (fun T hT => (ih (i + (1 : Nat)) (acc ++ [x.key ++ [(58 : UInt8)] ++ x.val]) hnx (by simp; omega) (by refine Eq.trans ?_ hall2; clear hall hall2 ih hT hj hf; simp [pText, *]) T hT))) (by kernel_rfl)
theorem pText_ref (l : List Pair) (hf : fewP l = true) : Gives cfg 52 [.sl .sh (l.map encP)] (.str (textOf pText l)) := by
  have hn := fewP_len hf
  have hf2 : ∀ x ∈ l, x.key.length ≤ 50 ∧ x.val.length ≤ 50 := by
    simp only [fewP, few, Bool.and_eq_true, List.all_eq_true, decide_eq_true_eq] at hf
    exact hf.2
  have hj : (Lib.join (l.map pText) [44]).length ≤ 3000 := join_len _ (by
    intro s hs
    obtain ⟨x, hx, rfl⟩ := List.mem_map.1 hs
    exact pText_len x (hf2 x hx).1 (hf2 x hx).2) (by simpa using hn)
  refine Gives.run (l52 _ _) ?_
  have h := pText_ref_loop l hn hf2 hj l 0 [] rfl rfl rfl
  exact goG 60 []  trivial  (.cutQ k52_0 [(0, AV.sl SK.sh (List.map encP l)), (3, AV.sl SK.full []), (4, AV.int IntKind.i64 (0 : Int))] (Heap.mk [] [] []) (fun T hT => (h T hT))) (by kernel_rfl)

theorem mText_len (x : Term) (hk : x.key.length ≤ 50) (hv : x.val.length ≤ 50) : (mText x).length ≤ 103 := by
  unfold mText
  repeat' split
  all_goals (try simp)
  all_goals omega
theorem mText_one (x : Term) (hk : x.key.length ≤ 50) (hv : x.val.length ≤ 50) : Gives cfg 87 [encM x] (.str (mText x)) := by
  refine Gives.run (l87 _ _) ?_
  exact goG 60 []  trivial  (.split (x.op = (1 : Int)) (fun g1 => .yes (show (x.op == (1 : Int)) = true from beq_iff_eq.2 (show x.op = (1 : Int) from g1)) <| .bin (show binA BinOp.add (AV.str x.key) (AV.str [(58 : UInt8)]) = some (AV.str (x.key ++ [(58 : UInt8)])) from str_add (by simp; omega)) <| .bin (show binA BinOp.add (AV.str (x.key ++ [(58 : UInt8)])) (AV.str x.val) = some (AV.str (x.key ++ [(58 : UInt8)] ++ x.val)) from str_add (by simp; omega)) <| .fin ((ARes.ret (AV.str (x.key ++ [(58 : UInt8)] ++ x.val)), Heap.mk [[AV.int IntKind.i64 x.op, AV.str x.key, AV.str x.val]] [] [])) (by simp [IsRet, mText, *])) (fun g1 => .no (show (x.op == (1 : Int)) = false from beq_eq_false_iff_ne.2 (show ¬ (x.op = (1 : Int)) from g1)) <| .split (x.op = (2 : Int)) (fun g2 => .yes (show (x.op == (2 : Int)) = true from beq_iff_eq.2 (show x.op = (2 : Int) from g2)) <| .bin (show binA BinOp.add (AV.str x.key) (AV.str [(33 : UInt8)]) = some (AV.str (x.key ++ [(33 : UInt8)])) from str_add (by simp; omega)) <| .bin (show binA BinOp.add (AV.str (x.key ++ [(33 : UInt8)])) (AV.str x.val) = some (AV.str (x.key ++ [(33 : UInt8)] ++ x.val)) from str_add (by simp; omega)) <| .fin ((ARes.ret (AV.str (x.key ++ [(33 : UInt8)] ++ x.val)), Heap.mk [[AV.int IntKind.i64 x.op, AV.str x.key, AV.str x.val]] [] [])) (by simp [IsRet, mText, *])) (fun g2 => .no (show (x.op == (2 : Int)) = false from beq_eq_false_iff_ne.2 (show ¬ (x.op = (2 : Int)) from g2)) <| .split (x.op = (4 : Int)) (fun g3 => .yes (show (x.op == (4 : Int)) = true from beq_iff_eq.2 (show x.op = (4 : Int) from g3)) <| .bin (show binA BinOp.add (AV.str [(45 : UInt8)]) (AV.str x.key) = some (AV.str ([(45 : UInt8)] ++ x.key)) from str_add (by simp; omega)) <| .fin ((ARes.ret (AV.str ((45 : UInt8) :: x.key)), Heap.mk [[AV.int IntKind.i64 x.op, AV.str x.key, AV.str x.val]] [] [])) (by simp [IsRet, mText, *])) (fun g3 => .no (show (x.op == (4 : Int)) = false from beq_eq_false_iff_ne.2 (show ¬ (x.op = (4 : Int)) from g3)) <| .fin ((ARes.ret (AV.str x.key), Heap.mk [[AV.int IntKind.i64 x.op, AV.str x.key, AV.str x.val]] [] [])) (by simp [IsRet, mText, *]))))) (by kernel_rfl)
theorem mText_loop (l : List Term) (hn : l.length ≤ 20) (hf : ∀ x ∈ l, x.key.length ≤ 50 ∧ x.val.length ≤ 50) (hj : (Lib.join (l.map mText) [44]).length ≤ 3000) : ∀ (post : List Term) (i : Nat) (acc : List (List UInt8)) (bs : List (List AV)) (hd : l.drop i = post) (ha : acc.length = i) (hall : acc ++ post.map mText = l.map mText) (T : Env)
    (hT : Has T [(1, .func 87 []), (5, rowS Heap.nil (acc.map AV.str)), (11, .sl .sh (l.map encM)), (12, .int .i64 l.length), (13, .int .i64 i)]),
    Goes cfg a86 k86_0 T (rowH ⟨bs, [], []⟩ (acc.map AV.str)) (IsRet (.str (Lib.join (l.map mText) [44]))) := by
  intro post
  induction post with
  | nil =>
    intro i acc bs hd ha hall T hT
    have hge := drop_ge hd
    have e : acc = l.map mText := by simpa using hall
    subst e
    exact goG 60 _  hT  (.no (show (decide ((↑i : Int) < (↑l.length : Int))) = false from decide_eq_false (show ¬ ((↑i : Int) < (↑l.length : Int)) from (by simp; omega))) <| .callG ([rowS Heap.nil (List.map AV.str (List.map mText l)), AV.str [(44 : UInt8)]]) (AV.str (Lib.join (List.map mText l) [(44 : UInt8)])) (show Gives cfg (99 : FuncId) [AV.sl SK.sh (List.map AV.str (List.map mText l)), AV.str [(44 : UInt8)]] (AV.str (Lib.join (List.map mText l) [(44 : UInt8)])) from join_any _ (by simp; omega) (by omega)) Shuts.p ⟨rfl, rfl⟩ <| .fin ((ARes.ret (AV.str (Lib.join (List.map mText l) [(44 : UInt8)])), rowH (Heap.mk bs [] []) (List.map AV.str (List.map mText l)))) rfl) (by kernel_rfl)
  | cons x post ih =>
    intro i acc bs hd ha hall T hT
    have hlt := drop_lt hd
    have hnx := drop_next hd
    obtain ⟨hk, hv⟩ := hf x (drop_mem hd)
    have hall2 : (acc ++ [mText x]) ++ post.map mText = l.map mText := by rw [← hall]; simp
    exact goG 60 _  hT  (.yes (show (decide ((↑i : Int) < (↑l.length : Int))) = true from decide_eq_true (show (↑i : Int) < (↑l.length : Int) from (by simp; omega))) <| .idx (show idxA (3 : Nat) (AV.sl SK.sh (List.map encM l)) (AV.int IntKind.i64 (↑i : Int)) = some (AV.ref (encM x).cells) from idx_row hd (by rfl)) <| .load (row_load (ys := List.map AV.str acc) (show loadA true (3 : Nat) (Heap.mk bs [] []) (AV.ref [AV.int IntKind.i64 x.op, AV.str x.key, AV.str x.val]) = some (AV.agg [AV.int IntKind.i64 x.op, AV.str x.key, AV.str x.val]) from rfl)) <| .boxR (AV.agg [AV.int IntKind.i64 (0 : Int), AV.str [], AV.str []]) (Heap.mk bs [] []) (List.map AV.str acc) rfl <| .store (row_store (ys := List.map AV.str acc) (show storeA (3 : Nat) (Heap.mk (bs ++ [[AV.int IntKind.i64 (0 : Int), AV.str [], AV.str []]]) [] []) (AV.ptr (Heap.mk bs [] []).boxes.length (0 : Nat)) (AV.agg [AV.int IntKind.i64 x.op, AV.str x.key, AV.str x.val]) = some (Heap.mk (bs ++ [[AV.int IntKind.i64 x.op, AV.str x.key, AV.str x.val]]) [] []) from store_box2 (cs := [AV.int IntKind.i64 (0 : Int), AV.str [], AV.str []]) (cs' := [AV.int IntKind.i64 x.op, AV.str x.key, AV.str x.val]) (by simp [List.set_append]) rfl (by simp [List.set_append]))) <| .load (row_load (ys := List.map AV.str acc) (show loadA true (3 : Nat) (Heap.mk (bs ++ [[AV.int IntKind.i64 x.op, AV.str x.key, AV.str x.val]]) [] []) (AV.ptr (Heap.mk bs [] []).boxes.length (0 : Nat)) = some (AV.agg [AV.int IntKind.i64 x.op, AV.str x.key, AV.str x.val]) from load_box (cs := [AV.int IntKind.i64 x.op, AV.str x.key, AV.str x.val]) (by simp [List.set_append]) rfl)) <| .callG ([AV.agg [AV.int IntKind.i64 x.op, AV.str x.key, AV.str x.val]]) (AV.str (mText x)) (show Gives cfg (87 : FuncId) [encM x] (AV.str (mText x)) from mText_one _ hk hv) ⟨rfl, rfl⟩ ⟨rfl, rfl⟩ <| .append (show appendA (1 : Nat) (16 : Nat) (rowH (Heap.mk (bs ++ [[AV.int IntKind.i64 x.op, AV.str x.key, AV.str x.val]]) [] []) (List.map AV.str acc)) (rowS Heap.nil (List.map AV.str acc)) (AV.sl SK.full [AV.str (mText x)]) = some ((rowS Heap.nil (List.map AV.str (acc ++ [mText x])), rowH (Heap.mk (bs ++ [[AV.int IntKind.i64 x.op, AV.str x.key, AV.str x.val]]) [] []) (List.map AV.str (acc ++ [mText x])))) from row_append_B (by simp; omega) (by exact lenSt) (by rfl) (by rfl)) <| .bin (show binA BinOp.add (AV.int IntKind.i64 (↑i : Int)) (AV.int IntKind.i64 (1 : Int)) = some (AV.int IntKind.i64 (↑(i + (1 : Nat)) : Int)) from inc_i (by omega)) <| .cutQ k86_0 [(1, AV.func (87 : FuncId) []), (5, rowS Heap.nil (List.map AV.str (acc ++ [mText x]))), (11, AV.sl SK.sh (List.map encM l)), (12, AV.int IntKind.i64 (↑l.length : Int)), (13, AV.int IntKind.i64 (↑(i + (1 : Nat)) : Int))] (rowH (Heap.mk (bs ++ [[AV.int IntKind.i64 x.op, AV.str x.key, AV.str x.val]]) [] []) (List.map AV.str (acc ++ [mText x]))) (fun T hT => (ih (i + (1 : Nat)) (acc ++ [mText x]) (bs ++ [[AV.int IntKind.i64 x.op, AV.str x.key, AV.str x.val]]) hnx (by simp; omega) hall2 T hT))) (by kernel_rfl)
theorem mText_any (l : List Term) (hf : fewM l = true) : Gives cfg 53 [.sl .sh (l.map encM)] (.str (textOf mText l)) := by
  have hn := fewM_len hf
  have hf2 : ∀ x ∈ l, x.key.length ≤ 50 ∧ x.val.length ≤ 50 := by
    simp only [fewM, few, Bool.and_eq_true, List.all_eq_true, decide_eq_true_eq] at hf
    exact hf.2
  have hj : (Lib.join (l.map mText) [44]).length ≤ 3000 := join_len _ (by
    intro s hs
    obtain ⟨x, hx, rfl⟩ := List.mem_map.1 hs
    exact mText_len x (hf2 x hx).1 (hf2 x hx).2) (by simpa using hn)
  have hjoin : Gives cfg 86 [.sl .sh (l.map encM), .func 87 []] (.str (textOf mText l)) := by
    refine Gives.run (l86 _ _) ?_
    have h := mText_loop l hn hf2 hj l 0 [] [] rfl rfl rfl
    by_cases hl : l = []
    · subst hl
      exact goG 60 []  trivial  (.len (show lenA false (AV.sl SK.sh []) = some (AV.int IntKind.i64 (↑[].length : Int)) from len_sl _ _) <| .tt <| .fin ((ARes.ret (AV.str [(45 : UInt8)]), Heap.mk [] [] [])) rfl) (by kernel_rfl)
    · have hp : 0 < l.length := List.length_pos_iff.2 hl
      have e : textOf mText l = Lib.join (l.map mText) [44] := by simp [textOf, hl]
      rw [e]
      exact goG 60 []  trivial  (.len (show lenA false (AV.sl SK.sh (List.map encM l)) = some (AV.int IntKind.i64 (↑l.length : Int)) from len_map _) <| .no (show ((↑l.length : Int) == (0 : Int)) = false from beq_eq_false_iff_ne.2 (show ¬ ((↑l.length : Int) = (0 : Int)) from (by omega))) <| .len (show lenA false (AV.sl SK.sh (List.map encM l)) = some (AV.int IntKind.i64 (↑l.length : Int)) from len_map _) <| .cutQ k86_0 [(1, AV.func (87 : FuncId) []), (5, AV.sl SK.full []), (11, AV.sl SK.sh (List.map encM l)), (12, AV.int IntKind.i64 (↑l.length : Int)), (13, AV.int IntKind.i64 (0 : Int))] (Heap.mk [] [] []) (fun T hT => (h T hT))) (by kernel_rfl)
  refine Gives.run (l53 _ _) ?_
  exact goG 60 []  trivial  (.callG ([AV.sl SK.sh (List.map encM l), AV.func (87 : FuncId) []]) (AV.str (textOf mText l)) (show Gives cfg (86 : FuncId) [AV.sl SK.sh (List.map encM l), AV.func (87 : FuncId) []] (AV.str (textOf mText l)) from hjoin) ⟨rfl, rfl⟩ ⟨rfl, rfl⟩ <| .fin ((ARes.ret (AV.str (textOf mText l)), Heap.mk [] [] [])) rfl) (by kernel_rfl)
theorem mText_ref_loop (l : List Term) (hn : l.length ≤ 20) (hf : ∀ x ∈ l, x.key.length ≤ 50 ∧ x.val.length ≤ 50) (ho : ∀ x ∈ l, 1 ≤ x.op ∧ x.op ≤ 4) (hj : (Lib.join (l.map mText) [44]).length ≤ 3000) : ∀ (post : List Term) (i : Nat) (acc : List (List UInt8)) (hd : l.drop i = post) (ha : acc.length = i) (hall : acc ++ post.map mText = l.map mText) (T : Env)
    (hT : Has T [(0, .sl .sh (l.map encM)), (3, rowS Heap.nil (acc.map AV.str)), (4, .int .i64 i)]),
    Goes cfg a54 k54_0 T (rowH Heap.nil (acc.map AV.str)) (IsRet (.str (textOf mText l))) := by
  intro post
  induction post with
  | nil =>
    intro i acc hd ha hall T hT
    have hge := drop_ge hd
    have e : acc = l.map mText := by simpa using hall
    subst e
    have hj2 : Gives cfg 67 [.sl .sh ((l.map mText).map AV.str)] (.str (textOf mText l)) := by
      have := joined_any (l.map mText) (by simpa using hn) hj
      cases l with
      | nil => exact this
      | cons => simpa [textOf] using this
    exact goG 60 _  hT  (.len (show lenA false (AV.sl SK.sh (List.map encM l)) = some (AV.int IntKind.i64 (↑l.length : Int)) from len_map _) <| .no (show (decide ((↑i : Int) < (↑l.length : Int))) = false from decide_eq_false (show ¬ ((↑i : Int) < (↑l.length : Int)) from (by simp; omega))) <| .callG ([rowS Heap.nil (List.map AV.str (List.map mText l))]) (AV.str (textOf mText l)) (show Gives cfg (67 : FuncId) [AV.sl SK.sh (List.map AV.str (List.map mText l))] (AV.str (textOf mText l)) from hj2) Shuts.p ⟨rfl, rfl⟩ <| .fin ((ARes.ret (AV.str (textOf mText l)), rowH Heap.nil (List.map AV.str (List.map mText l)))) rfl) (by kernel_rfl)
  | cons x post ih =>
    intro i acc hd ha hall T hT
    have hlt := drop_lt hd
    have hnx := drop_next hd
    obtain ⟨hk, hv⟩ := hf x (drop_mem hd)
    have hox := ho x (drop_mem hd)
    have hall2 : (acc ++ [mText x]) ++ post.map mText = l.map mText := by rw [← hall]; simp
    exact goG 90 _  hT  (.len (show lenA false (AV.sl SK.sh (List.map encM l)) = some (AV.int IntKind.i64 (↑l.length : Int)) from len_map _) <| .yes (show (decide ((↑i : Int) < (↑l.length : Int))) = true from decide_eq_true (show (↑i : Int) < (↑l.length : Int) from (by simp; omega))) <| .idx (show idxA (3 : Nat) (AV.sl SK.sh (List.map encM l)) (AV.int IntKind.i64 (↑i : Int)) = some (AV.ref (encM x).cells) from idx_row hd (by rfl)) <| .load (row_load (ys := List.map AV.str acc) (show loadA false (1 : Nat) Heap.nil (AV.ref [AV.int IntKind.i64 x.op]) = some (AV.int IntKind.i64 x.op) from rfl)) <| .split (x.op = (1 : Int)) (fun g1 => .yes (show (x.op == (1 : Int)) = true from beq_iff_eq.2 (show x.op = (1 : Int) from g1)) <| .idx (show idxA (3 : Nat) (AV.sl SK.sh (List.map encM l)) (AV.int IntKind.i64 (↑i : Int)) = some (AV.ref (encM x).cells) from idx_row hd (by rfl)) <| .load (row_load (ys := List.map AV.str acc) (show loadA false (1 : Nat) Heap.nil (AV.ref [AV.str x.key]) = some (AV.str x.key) from rfl)) <| .bin (show binA BinOp.add (AV.str x.key) (AV.str [(58 : UInt8)]) = some (AV.str (x.key ++ [(58 : UInt8)])) from str_add (by simp; omega)) <| .idx (show idxA (3 : Nat) (AV.sl SK.sh (List.map encM l)) (AV.int IntKind.i64 (↑i : Int)) = some (AV.ref (encM x).cells) from idx_row hd (by rfl)) <| .load (row_load (ys := List.map AV.str acc) (show loadA false (1 : Nat) Heap.nil (AV.ref [AV.str x.val]) = some (AV.str x.val) from rfl)) <| .bin (show binA BinOp.add (AV.str (x.key ++ [(58 : UInt8)])) (AV.str x.val) = some (AV.str (x.key ++ [(58 : UInt8)] ++ x.val)) from str_add (by simp; omega)) <| .append (show appendA (1 : Nat) (16 : Nat) (rowH Heap.nil (List.map AV.str acc)) (rowS Heap.nil (List.map AV.str acc)) (AV.sl SK.full [AV.str (x.key ++ [(58 : UInt8)] ++ x.val)]) = some ((rowS Heap.nil (List.map AV.str (acc ++ [x.key ++ [(58 : UInt8)] ++ x.val])), rowH Heap.nil (List.map AV.str (acc ++ [x.key ++ [(58 : UInt8)] ++ x.val])))) from row_append_map (by simp; omega) (by exact lenSt) (by rfl) (by rfl)) <| .bin (show binA BinOp.add (AV.int IntKind.i64 (↑i : Int)) (AV.int IntKind.i64 (1 : Int)) = some (AV.int IntKind.i64 (↑(i + (1 : Nat)) : Int)) from inc_i (by omega)) <| .cutQ k54_0 [(0, AV.sl SK.sh (List.map encM l)), (3, rowS Heap.nil (List.map AV.str (acc ++ [x.key ++ [(58 : UInt8)] ++ x.val]))), (4, AV.int IntKind.i64 (↑(i + (1 : Nat)) : Int))] (rowH Heap.nil (List.map AV.str (acc ++ [x.key ++ [(58 : UInt8)] ++ x.val]))) (fun T hT => (ih (i + (1 : Nat)) (acc ++ [x.key ++ [(58 : UInt8)] ++ x.val]) hnx (by simp; omega) (by refine Eq.trans ?_ hall2; clear hall hall2 ih hT hj hf; simp [mText, *]) T hT))) (fun g1 => .no (show (x.op == (1 : Int)) = false from beq_eq_false_iff_ne.2 (show ¬ (x.op = (1 : Int)) from g1)) <| .split (x.op = (2 : Int)) (fun g2 => .yes (show (x.op == (2 : Int)) = true from beq_iff_eq.2 (show x.op = (2 : Int) from g2)) <| .idx (show idxA (3 : Nat) (AV.sl SK.sh (List.map encM l)) (AV.int IntKind.i64 (↑i : Int)) = some (AV.ref (encM x).cells) from idx_row hd (by rfl)) <| .load (row_load (ys := List.map AV.str acc) (show loadA false (1 : Nat) Heap.nil (AV.ref [AV.str x.key]) = some (AV.str x.key) from rfl)) <| .bin (show binA BinOp.add (AV.str x.key) (AV.str [(33 : UInt8)]) = some (AV.str (x.key ++ [(33 : UInt8)])) from str_add (by simp; omega)) <| .idx (show idxA (3 : Nat) (AV.sl SK.sh (List.map encM l)) (AV.int IntKind.i64 (↑i : Int)) = some (AV.ref (encM x).cells) from idx_row hd (by rfl)) <| .load (row_load (ys := List.map AV.str acc) (show loadA false (1 : Nat) Heap.nil (AV.ref [AV.str x.val]) = some (AV.str x.val) from rfl)) <| .bin (show binA BinOp.add (AV.str (x.key ++ [(33 : UInt8)])) (AV.str x.val) = some (AV.str (x.key ++ [(33 : UInt8)] ++ x.val)) from str_add (by simp; omega)) <| .append (show appendA (1 : Nat) (16 : Nat) (rowH Heap.nil (List.map AV.str acc)) (rowS Heap.nil (List.map AV.str acc)) (AV.sl SK.full [AV.str (x.key ++ [(33 : UInt8)] ++ x.val)]) = some ((rowS Heap.nil (List.map AV.str (acc ++ [x.key ++ [(33 : UInt8)] ++ x.val])), rowH Heap.nil (List.map AV.str (acc ++ [x.key ++ [(33 : UInt8)] ++ x.val])))) from row_append_map (by simp; omega) (by exact lenSt) (by rfl) (by rfl)) <| .bin (show binA BinOp.add (AV.int IntKind.i64 (↑i : Int)) (AV.int IntKind.i64 (1 : Int)) = some (AV.int IntKind.i64 (↑(i + (1 : Nat)) : Int)) from inc_i (by omega)) <| .cutQ k54_0 [(0, AV.sl SK.sh (List.map encM l)), (3, rowS Heap.nil (List.map AV.str (acc ++ [x.key ++ [(33 : UInt8)] ++ x.val]))), (4, AV.int IntKind.i64 (↑(i + (1 : Nat)) : Int))] (rowH Heap.nil (List.map AV.str (acc ++ [x.key ++ [(33 : UInt8)] ++ x.val]))) (fun T hT => (ih (i + (1 : Nat)) (acc ++ [x.key ++ [(33 : UInt8)] ++ x.val]) hnx (by simp; omega) (by refine Eq.trans ?_ hall2; clear hall hall2 ih hT hj hf; simp [mText, *]) T hT))) (fun g2 => .no (show (x.op == (2 : Int)) = false from beq_eq_false_iff_ne.2 (show ¬ (x.op = (2 : Int)) from g2)) <| .split (x.op = (3 : Int)) (fun g3 => .yes (show (x.op == (3 : Int)) = true from beq_iff_eq.2 (show x.op = (3 : Int) from g3)) <| .idx (show idxA (3 : Nat) (AV.sl SK.sh (List.map encM l)) (AV.int IntKind.i64 (↑i : Int)) = some (AV.ref (encM x).cells) from idx_row hd (by rfl)) <| .load (row_load (ys := List.map AV.str acc) (show loadA false (1 : Nat) Heap.nil (AV.ref [AV.str x.key]) = some (AV.str x.key) from rfl)) <| .append (show appendA (1 : Nat) (16 : Nat) (rowH Heap.nil (List.map AV.str acc)) (rowS Heap.nil (List.map AV.str acc)) (AV.sl SK.full [AV.str x.key]) = some ((rowS Heap.nil (List.map AV.str (acc ++ [x.key])), rowH Heap.nil (List.map AV.str (acc ++ [x.key])))) from row_append_map (by simp; omega) (by exact lenSt) (by rfl) (by rfl)) <| .bin (show binA BinOp.add (AV.int IntKind.i64 (↑i : Int)) (AV.int IntKind.i64 (1 : Int)) = some (AV.int IntKind.i64 (↑(i + (1 : Nat)) : Int)) from inc_i (by omega)) <| .cutQ k54_0 [(0, AV.sl SK.sh (List.map encM l)), (3, rowS Heap.nil (List.map AV.str (acc ++ [x.key]))), (4, AV.int IntKind.i64 (↑(i + (1 : Nat)) : Int))] (rowH Heap.nil (List.map AV.str (acc ++ [x.key]))) (fun T hT => (ih (i + (1 : Nat)) (acc ++ [x.key]) hnx (by simp; omega) (by refine Eq.trans ?_ hall2; clear hall hall2 ih hT hj hf; simp [mText, *]) T hT))) (fun g3 => .no (show (x.op == (3 : Int)) = false from beq_eq_false_iff_ne.2 (show ¬ (x.op = (3 : Int)) from g3)) <| .yes (show (x.op == (4 : Int)) = true from beq_iff_eq.2 (show x.op = (4 : Int) from (by omega))) <| .idx (show idxA (3 : Nat) (AV.sl SK.sh (List.map encM l)) (AV.int IntKind.i64 (↑i : Int)) = some (AV.ref (encM x).cells) from idx_row hd (by rfl)) <| .load (row_load (ys := List.map AV.str acc) (show loadA false (1 : Nat) Heap.nil (AV.ref [AV.str x.key]) = some (AV.str x.key) from rfl)) <| .bin (show binA BinOp.add (AV.str [(45 : UInt8)]) (AV.str x.key) = some (AV.str ([(45 : UInt8)] ++ x.key)) from str_add (by simp; omega)) <| .append (show appendA (1 : Nat) (16 : Nat) (rowH Heap.nil (List.map AV.str acc)) (rowS Heap.nil (List.map AV.str acc)) (AV.sl SK.full [AV.str ((45 : UInt8) :: x.key)]) = some ((rowS Heap.nil (List.map AV.str (acc ++ [(45 : UInt8) :: x.key])), rowH Heap.nil (List.map AV.str (acc ++ [(45 : UInt8) :: x.key])))) from row_append_map (by simp; omega) (by exact lenSt) (by rfl) (by rfl)) <| .bin (show binA BinOp.add (AV.int IntKind.i64 (↑i : Int)) (AV.int IntKind.i64 (1 : Int)) = some (AV.int IntKind.i64 (↑(i + (1 : Nat)) : Int)) from inc_i (by omega)) <| .cutQ k54_0 [(0, AV.sl SK.sh (List.map encM l)), (3, rowS Heap.nil (List.map AV.str (acc ++ [(45 : UInt8) :: x.key]))), (4, AV.int IntKind.i64 (↑(i + (1 : Nat)) : Int))] (rowH Heap.nil (List.map AV.str (acc ++ [(45 : UInt8) :: x.key]))) (fun T hT => (ih (i + (1 : Nat)) (acc ++ [(45 : UInt8) :: x.key]) hnx (by simp; omega) (by have e4 : x.op = 4 := (by omega); refine Eq.trans ?_ hall2; clear hall hall2 ih hT hj hf; simp [mText, e4]) T hT)))))) (by kernel_rfl)
theorem mText_ref (l : List Term) (hf : fewM l = true) (ho : ∀ x ∈ l, 1 ≤ x.op ∧ x.op ≤ 4) : Gives cfg 54 [.sl .sh (l.map encM)] (.str (textOf mText l)) := by
  have hn := fewM_len hf
  have hf2 : ∀ x ∈ l, x.key.length ≤ 50 ∧ x.val.length ≤ 50 := by
    simp only [fewM, few, Bool.and_eq_true, List.all_eq_true, decide_eq_true_eq] at hf
    exact hf.2
  have hj : (Lib.join (l.map mText) [44]).length ≤ 3000 := join_len _ (by
    intro s hs
    obtain ⟨x, hx, rfl⟩ := List.mem_map.1 hs
    exact mText_len x (hf2 x hx).1 (hf2 x hx).2) (by simpa using hn)
  refine Gives.run (l54 _ _) ?_
  have h := mText_ref_loop l hn hf2 ho hj l 0 [] rfl rfl rfl
  exact goG 60 []  trivial  (.cutQ k54_0 [(0, AV.sl SK.sh (List.map encM l)), (3, AV.sl SK.full []), (4, AV.int IntKind.i64 (0 : Int))] (Heap.mk [] [] []) (fun T hT => (h T hT))) (by kernel_rfl)
end Go.Aa.T

set_option linter.unusedVariables false
set_option linter.unusedSimpArgs false
set_option maxRecDepth 100000
namespace Go.Aa.T
open Go.Aa Go.Proofs

theorem ib_none {c : UInt8} : ∀ {a : List UInt8}, c ∉ a → Lib.indexByte a c = -1
  | [], _ => rfl
  | b :: a, h => by
    simp only [List.mem_cons, not_or] at h
    have hb : (b == c) = false := by rw [beq_eq_false_iff_ne]; exact fun e => h.1 e.symm
    unfold Lib.indexByte
    rw [ib_none h.2, hb]
    rfl
theorem ib_at {c : UInt8} {b : List UInt8} : ∀ {a : List UInt8}, c ∉ a → Lib.indexByte (a ++ c :: b) c = (a.length : Int)
  | [], _ => by simp [Lib.indexByte]
  | x :: a, h => by
    simp only [List.mem_cons, not_or] at h
    have hb : (x == c) = false := by rw [beq_eq_false_iff_ne]; exact fun e => h.1 e.symm
    rw [List.cons_append, Lib.indexByte, ib_at h.2, hb]
    have : ((a.length : Int) == -1) = false := by rw [beq_eq_false_iff_ne]; omega
    simp [this]
theorem index1 (f : FuncId) (s : List UInt8) (c : UInt8) (ht : cfg.tryF f = false) (hx : cfg.ext f = some indexE) : Gives cfg f [.str s, .str [c]] (.int .i64 (Lib.indexByte s c)) := by
  refine Gives.of (H' := Heap.nil) ?_
  rw [lim_ext ht hx]; rfl
theorem count1 (s : List UInt8) (c : UInt8) : Gives cfg 112 [.str s, .str [c]] (.int .i64 (Lib.countByte s c : Nat)) := by
  refine Gives.of (H' := Heap.nil) ?_
  rw [lim_ext (g := countE) rfl rfl]; rfl
theorem cut_hit (a b : List UInt8) (c : UInt8) (h : c ∉ a) (hl : a.length + b.length ≤ 1000) : Gives cfg 74 [.str (a ++ c :: b), .str [c]] (.tuple [.str a, .str b, .bool true]) := by
  have hi : Gives cfg 125 [.str (a ++ c :: b), .str [c]] (.int .i64 (a.length : Nat)) := by
    have := index1 125 (a ++ c :: b) c rfl rfl
    rwa [ib_at h] at this
  have e1 : (a ++ c :: b).take a.length = a := by simp
  have e2 : (a ++ c :: b).drop (a.length + 1) = b := by rw [List.drop_append]; simp
  have hc : Gives cfg 104 [.str (a ++ c :: b), .str [c]] (.tuple [.str a, .str b, .bool true]) := by
    refine Gives.run (l104 _ _) ?_
    exact goG 60 []  trivial  (.callG ([AV.str (a ++ c :: b), AV.str [c]]) (AV.int IntKind.i64 (↑a.length : Int)) (show Gives cfg (125 : FuncId) [AV.str (a ++ c :: b), AV.str [c]] (AV.int IntKind.i64 (↑a.length : Int)) from hi) ⟨rfl, rfl⟩ ⟨rfl, rfl⟩ <| .tt <| .slice (show sliceA (0 : Nat) (AV.str (a ++ c :: b)) none (some (AV.int IntKind.i64 (↑a.length : Int))) none = some (AV.str (List.take a.length (a ++ c :: b))) from sstr_to (by simp)) <| .len (show lenA true (AV.str [c]) = some (AV.int IntKind.i64 (↑[c].length : Int)) from len_str _) <| .bin (show binA BinOp.add (AV.int IntKind.i64 (↑a.length : Int)) (AV.int IntKind.i64 (↑[c].length : Int)) = some (AV.int IntKind.i64 (↑(a.length + (1 : Nat)) : Int)) from inc_i (by omega)) <| .slice (show sliceA (0 : Nat) (AV.str (a ++ c :: b)) (some (AV.int IntKind.i64 (↑(a.length + (1 : Nat)) : Int))) none none = some (AV.str (List.drop (a.length + (1 : Nat)) (a ++ c :: b))) from sstr_from (by simp)) <| .fin ((ARes.ret (AV.tuple [AV.str (List.take a.length (a ++ c :: b)), AV.str (List.drop (a.length + (1 : Nat)) (a ++ c :: b)), AV.bool true]), Heap.mk [] [] [])) (by simp only [IsRet, e1, e2])) (by kernel_rfl)
  refine Gives.run (l74 _ _) ?_
  exact goG 60 []  trivial  (.callG ([AV.str (a ++ c :: b), AV.str [c]]) (AV.tuple [AV.str a, AV.str b, AV.bool true]) (show Gives cfg (104 : FuncId) [AV.str (a ++ c :: b), AV.str [c]] (AV.tuple [AV.str a, AV.str b, AV.bool true]) from hc) ⟨rfl, rfl⟩ ⟨rfl, rfl⟩ <| .fin ((ARes.ret (AV.tuple [AV.str a, AV.str b, AV.bool true]), Heap.mk [] [] [])) rfl) (by kernel_rfl)
theorem cut_miss (a : List UInt8) (c : UInt8) (h : c ∉ a) : Gives cfg 74 [.str a, .str [c]] (.tuple [.str a, .str [], .bool false]) := by
  have hi : Gives cfg 125 [.str a, .str [c]] (.int .i64 (-1)) := by
    have := index1 125 a c rfl rfl
    rwa [ib_none h] at this
  have hc : Gives cfg 104 [.str a, .str [c]] (.tuple [.str a, .str [], .bool false]) := by
    refine Gives.run (l104 _ _) ?_
    exact goG 60 []  trivial  (.callG ([AV.str a, AV.str [c]]) (AV.int IntKind.i64 (-1 : Int)) (show Gives cfg (125 : FuncId) [AV.str a, AV.str [c]] (AV.int IntKind.i64 (-1 : Int)) from hi) ⟨rfl, rfl⟩ ⟨rfl, rfl⟩ <| .ff <| .fin ((ARes.ret (AV.tuple [AV.str a, AV.str [], AV.bool false]), Heap.mk [] [] [])) rfl) (by kernel_rfl)
  refine Gives.run (l74 _ _) ?_
  exact goG 60 []  trivial  (.callG ([AV.str a, AV.str [c]]) (AV.tuple [AV.str a, AV.str [], AV.bool false]) (show Gives cfg (104 : FuncId) [AV.str a, AV.str [c]] (AV.tuple [AV.str a, AV.str [], AV.bool false]) from hc) ⟨rfl, rfl⟩ ⟨rfl, rfl⟩ <| .fin ((ARes.ret (AV.tuple [AV.str a, AV.str [], AV.bool false]), Heap.mk [] [] [])) rfl) (by kernel_rfl)
theorem contains_no (a : List UInt8) (c : UInt8) (h : c ∉ a) : Gives cfg 75 [.str a, .str [c]] (.bool false) := by
  have hi : Gives cfg 105 [.str a, .str [c]] (.int .i64 (-1)) := by
    have := index1 105 a c rfl rfl
    rwa [ib_none h] at this
  refine Gives.run (l75 _ _) ?_
  exact goG 60 []  trivial  (.callG ([AV.str a, AV.str [c]]) (AV.int IntKind.i64 (-1 : Int)) (show Gives cfg (105 : FuncId) [AV.str a, AV.str [c]] (AV.int IntKind.i64 (-1 : Int)) from hi) ⟨rfl, rfl⟩ ⟨rfl, rfl⟩ <| .fin ((ARes.ret (AV.bool (decide ((0 : Int) ≤ (-1 : Int)))), Heap.mk [] [] [])) rfl) (by kernel_rfl)
theorem prefix_hit (a : List UInt8) (c : UInt8) (hl : a.length ≤ 1000) : Gives cfg 93 [.str (c :: a), .str [c]] (.tuple [.str a, .bool true]) := by
  have e1 : (c :: a).take 1 = [c] := rfl
  have e2 : (c :: a).drop 1 = a := rfl
  have s1 : sliceA 0 (.str (c :: a)) none (some (.int .i64 1)) none = some (.str [c]) := sstr_to (k := 1) (by simp)
  have s2 : sliceA 0 (.str (c :: a)) (some (.int .i64 1)) none none = some (.str a) := sstr_from (k := 1) (by simp)
  have h1 : Gives cfg 127 [.str (c :: a), .str [c]] (.bool true) := by
    refine Gives.run (l127 _ _) ?_
    exact goG 60 []  trivial  (.len (show lenA true (AV.str (c :: a)) = some (AV.int IntKind.i64 (↑(c :: a).length : Int)) from len_str _) <| .len (show lenA true (AV.str [c]) = some (AV.int IntKind.i64 (↑[c].length : Int)) from len_str _) <| .yes (show (decide ((↑[c].length : Int) ≤ (↑(c :: a).length : Int))) = true from decide_eq_true (show (↑[c].length : Int) ≤ (↑(c :: a).length : Int) from (by simp; omega))) <| .len (show lenA true (AV.str [c]) = some (AV.int IntKind.i64 (↑[c].length : Int)) from len_str _) <| .slice (show sliceA (0 : Nat) (AV.str (c :: a)) none (some (AV.int IntKind.i64 (↑[c].length : Int))) none = some (AV.str [c]) from s1) <| .fin ((ARes.ret (AV.bool ([c] == [c])), Heap.mk [] [] [])) (by simp [IsRet])) (by kernel_rfl)
  have h2 : Gives cfg 111 [.str (c :: a), .str [c]] (.tuple [.str a, .bool true]) := by
    refine Gives.run (l111 _ _) ?_
    exact goG 60 []  trivial  (.callG ([AV.str (c :: a), AV.str [c]]) (AV.bool true) (show Gives cfg (127 : FuncId) [AV.str (c :: a), AV.str [c]] (AV.bool true) from h1) ⟨rfl, rfl⟩ ⟨rfl, rfl⟩ <| .ff <| .len (show lenA true (AV.str [c]) = some (AV.int IntKind.i64 (↑[c].length : Int)) from len_str _) <| .slice (show sliceA (0 : Nat) (AV.str (c :: a)) (some (AV.int IntKind.i64 (↑[c].length : Int))) none none = some (AV.str a) from s2) <| .fin ((ARes.ret (AV.tuple [AV.str a, AV.bool true]), Heap.mk [] [] [])) rfl) (by kernel_rfl)
  refine Gives.run (l93 _ _) ?_
  exact goG 60 []  trivial  (.callG ([AV.str (c :: a), AV.str [c]]) (AV.tuple [AV.str a, AV.bool true]) (show Gives cfg (111 : FuncId) [AV.str (c :: a), AV.str [c]] (AV.tuple [AV.str a, AV.bool true]) from h2) ⟨rfl, rfl⟩ ⟨rfl, rfl⟩ <| .fin ((ARes.ret (AV.tuple [AV.str a, AV.bool true]), Heap.mk [] [] [])) rfl) (by kernel_rfl)
theorem prefix_miss (a : List UInt8) (c : UInt8) (h : a.head? ≠ some c) (hl : a.length ≤ 1000) : Gives cfg 93 [.str a, .str [c]] (.tuple [.str a, .bool false]) := by
  have h1 : Gives cfg 127 [.str a, .str [c]] (.bool false) := by
    refine Gives.run (l127 _ _) ?_
    by_cases hn : a = []
    · subst hn
      exact goG 60 []  trivial  (.len (show lenA true (AV.str []) = some (AV.int IntKind.i64 (↑[].length : Int)) from len_str _) <| .len (show lenA true (AV.str [c]) = some (AV.int IntKind.i64 (↑[c].length : Int)) from len_str _) <| .ff <| .fin ((ARes.ret (AV.bool false), Heap.mk [] [] [])) rfl) (by kernel_rfl)
    · obtain ⟨b, r, e⟩ := List.exists_cons_of_ne_nil hn
      have hp : 0 < a.length := List.length_pos_iff.2 hn
      have s1 : sliceA 0 (.str a) none (some (.int .i64 1)) none = some (.str [b]) := by
        rw [show (some (AV.int .i64 1)) = some (.int .i64 ((1 : Nat) : Int)) from rfl, sstr_to (k := 1) (by omega), e]; rfl
      have hne : ¬ b = c := fun e2 => h (by rw [e, e2]; rfl)
      exact goG 60 []  trivial  (.len (show lenA true (AV.str a) = some (AV.int IntKind.i64 (↑a.length : Int)) from len_str _) <| .len (show lenA true (AV.str [c]) = some (AV.int IntKind.i64 (↑[c].length : Int)) from len_str _) <| .split ((↑[c].length : Int) ≤ (↑a.length : Int)) (fun g1 => .yes (show (decide ((↑[c].length : Int) ≤ (↑a.length : Int))) = true from decide_eq_true (show (↑[c].length : Int) ≤ (↑a.length : Int) from g1)) <| .len (show lenA true (AV.str [c]) = some (AV.int IntKind.i64 (↑[c].length : Int)) from len_str _) <| .slice (show sliceA (0 : Nat) (AV.str a) none (some (AV.int IntKind.i64 (↑[c].length : Int))) none = some (AV.str [b]) from s1) <| .fin ((ARes.ret (AV.bool ([b] == [c])), Heap.mk [] [] [])) (by simp [IsRet, hne])) (fun g1 => .no (show (decide ((↑[c].length : Int) ≤ (↑a.length : Int))) = false from decide_eq_false (show ¬ ((↑[c].length : Int) ≤ (↑a.length : Int)) from g1)) <| .fin ((ARes.ret (AV.bool false), Heap.mk [] [] [])) rfl)) (by kernel_rfl)
  have h2 : Gives cfg 111 [.str a, .str [c]] (.tuple [.str a, .bool false]) := by
    refine Gives.run (l111 _ _) ?_
    exact goG 60 []  trivial  (.callG ([AV.str a, AV.str [c]]) (AV.bool false) (show Gives cfg (127 : FuncId) [AV.str a, AV.str [c]] (AV.bool false) from h1) ⟨rfl, rfl⟩ ⟨rfl, rfl⟩ <| .tt <| .fin ((ARes.ret (AV.tuple [AV.str a, AV.bool false]), Heap.mk [] [] [])) rfl) (by kernel_rfl)
  refine Gives.run (l93 _ _) ?_
  exact goG 60 []  trivial  (.callG ([AV.str a, AV.str [c]]) (AV.tuple [AV.str a, AV.bool false]) (show Gives cfg (111 : FuncId) [AV.str a, AV.str [c]] (AV.tuple [AV.str a, AV.bool false]) from h2) ⟨rfl, rfl⟩ ⟨rfl, rfl⟩ <| .fin ((ARes.ret (AV.tuple [AV.str a, AV.bool false]), Heap.mk [] [] [])) rfl) (by kernel_rfl)

theorem name_no {s : List UInt8} (h : isName s = true) {c : UInt8} (hc : nameCh c = false) : c ∉ s := by
  intro hm
  simp only [isName, Bool.and_eq_true, List.all_eq_true] at h
  rw [h.2 c hm] at hc; cases hc
theorem name_ne {s : List UInt8} (h : isName s = true) : s ≠ [] := by
  rintro rfl
  simp [isName] at h
theorem name_len {s : List UInt8} (h : isName s = true) : s.length ≤ 12 := by
  simp only [isName, Bool.and_eq_true, decide_eq_true_eq] at h
  exact h.1.2

end Go.Aa.T

set_option linter.unusedVariables false
set_option linter.unusedSimpArgs false
set_option maxRecDepth 100000
namespace Go.Aa.T
open Go.Aa Go.Proofs
def goodM (x : Term) : Bool := decide (1 ≤ x.op ∧ x.op ≤ 4) && (isName x.key && valOk x)
theorem count_no {c : UInt8} {s : List UInt8} (h : c ∉ s) : Lib.countByte s c = 0 := List.count_eq_zero.2 h
theorem signs_any (s : List UInt8) (n : Nat) (h : Lib.countByte s 58 + Lib.countByte s 33 = n) (hl : s.length ≤ 1000) : Gives cfg 94 [.str s] (.int .i64 (n : Nat)) := by
  have h1 : Lib.countByte s 58 ≤ s.length := List.count_le_length
  have h2 : Lib.countByte s 33 ≤ s.length := List.count_le_length
  refine Gives.run (l94 _ _) ?_
  exact goG 60 []  trivial  (.callG ([AV.str s, AV.str [(58 : UInt8)]]) (AV.int IntKind.i64 (↑(Lib.countByte s (58 : UInt8)) : Int)) (show Gives cfg (112 : FuncId) [AV.str s, AV.str [(58 : UInt8)]] (AV.int IntKind.i64 (↑(Lib.countByte s (58 : UInt8)) : Int)) from count1 _ _) ⟨rfl, rfl⟩ ⟨rfl, rfl⟩ <| .callG ([AV.str s, AV.str [(33 : UInt8)]]) (AV.int IntKind.i64 (↑(Lib.countByte s (33 : UInt8)) : Int)) (show Gives cfg (112 : FuncId) [AV.str s, AV.str [(33 : UInt8)]] (AV.int IntKind.i64 (↑(Lib.countByte s (33 : UInt8)) : Int)) from count1 _ _) ⟨rfl, rfl⟩ ⟨rfl, rfl⟩ <| .bin (show binA BinOp.add (AV.int IntKind.i64 (↑(Lib.countByte s (58 : UInt8)) : Int)) (AV.int IntKind.i64 (↑(Lib.countByte s (33 : UInt8)) : Int)) = some (AV.int IntKind.i64 ((↑(Lib.countByte s (58 : UInt8)) : Int) + (↑(Lib.countByte s (33 : UInt8)) : Int))) from addI (by omega) (by omega)) <| .fin ((ARes.ret (AV.int IntKind.i64 ((↑(Lib.countByte s (58 : UInt8)) : Int) + (↑(Lib.countByte s (33 : UInt8)) : Int))), Heap.mk [] [] [])) (by simp [IsRet]; omega)) (by kernel_rfl)
theorem head_no {s : List UInt8} (h : isName s = true) (r : List UInt8) {c : UInt8} (hc : nameCh c = false) : (s ++ r).head? ≠ some c := by
  cases s with
  | nil => exact absurd rfl (name_ne h)
  | cons b s =>
    simp only [List.cons_append, List.head?_cons, ne_eq, Option.some.injEq]
    rintro rfl
    exact absurd (List.mem_cons_self) (name_no h hc)

theorem pText_ok (x : Pair) (h : goodP x = true) : pText x ≠ [] ∧ (44 : UInt8) ∉ pText x := by
  simp only [goodP, Bool.and_eq_true] at h
  simp [pText, name_no h.1 (c := 44) rfl, name_no h.2 (c := 44) rfl]
theorem mText_ok (x : Term) (h : goodM x = true) : mText x ≠ [] ∧ (44 : UInt8) ∉ mText x := by
  simp only [goodM, Bool.and_eq_true, decide_eq_true_eq] at h
  obtain ⟨⟨h1, h4⟩, hk, hv⟩ := h
  have k := name_no hk (c := 44) rfl
  have kn := name_ne hk
  have v : x.op ≤ 2 → (44 : UInt8) ∉ x.val := fun ho => by
    simp only [valOk, ho, if_true] at hv
    exact name_no hv rfl
  unfold mText
  split
  · rename_i o; simp [k, v (by omega)]
  · split
    · rename_i o; simp [k, v (by omega)]
    · split
      · simp [k]
      · exact ⟨kn, k⟩
end Go.Aa.T

set_option linter.unusedVariables false
set_option linter.unusedSimpArgs false
set_option maxRecDepth 100000
namespace Go.Aa.T
open Go.Aa Go.Proofs
def cutAt (c : UInt8) : List UInt8 → Option (List UInt8 × List UInt8)
  | [] => none
  | b :: r => if b = c then some ([], r) else (cutAt c r).map fun p => (b :: p.1, p.2)
theorem cutAt_none {c : UInt8} : ∀ {w : List UInt8}, cutAt c w = none → c ∉ w
  | [], _ => by simp
  | b :: r, h => by
    unfold cutAt at h
    split at h
    · cases h
    · rename_i hb
      have := cutAt_none (w := r) (by simpa using h)
      simp only [List.mem_cons, not_or]
      exact ⟨fun e => hb e.symm, this⟩
theorem cutAt_some {c : UInt8} : ∀ {w a b : List UInt8}, cutAt c w = some (a, b) → w = a ++ c :: b ∧ c ∉ a
  | [], _, _, h => by cases h
  | x :: r, a, b, h => by
    unfold cutAt at h
    split at h
    · rename_i hx
      simp only [Option.some.injEq, Prod.mk.injEq] at h
      obtain ⟨rfl, rfl⟩ := h
      subst hx
      simp
    · rename_i hx
      simp only [Option.map_eq_some_iff, Prod.mk.injEq, Prod.exists] at h
      obtain ⟨a', b', h1, rfl, rfl⟩ := h
      obtain ⟨e, hn⟩ := cutAt_some h1
      refine ⟨by rw [e]; rfl, ?_⟩
      simp only [List.mem_cons, not_or]
      exact ⟨fun e => hx e.symm, hn⟩
def parts (c : UInt8) : List UInt8 → List (List UInt8)
  | [] => [[]]
  | b :: r => if b = c then [] :: parts c r else match parts c r with
    | [] => [[b]]
    | x :: xs => (b :: x) :: xs
theorem parts_none {c : UInt8} : ∀ {w : List UInt8}, c ∉ w → parts c w = [w]
  | [], _ => rfl
  | b :: r, h => by
    simp only [List.mem_cons, not_or] at h
    have hb : ¬ b = c := fun e => h.1 e.symm
    simp only [parts, if_neg hb, parts_none h.2]
theorem parts_some {c : UInt8} {b : List UInt8} : ∀ {a : List UInt8}, c ∉ a → parts c (a ++ c :: b) = a :: parts c b
  | [], _ => by simp [parts]
  | x :: a, h => by
    simp only [List.mem_cons, not_or] at h
    have hb : ¬ x = c := fun e => h.1 e.symm
    simp only [List.cons_append, parts, if_neg hb, parts_some h.2]
def foldE {α : Type} (f : α → List UInt8 → Option α) (a : α) : List (List UInt8) → Option α
  | [] => some a
  | p :: ps => match f a p with
    | some a' => foldE f a' ps
    | none => none
section
variable {α : Type} (o0 o1 o2 o3 : α → List AV) (tk : α → List Nat) (rc : LRec) (v : AV) (I : α → Nat → Prop)
def hS (a : α) (rest : List UInt8) : Heap := ⟨[o0 a, o1 a, o2 a, o3 a, [.str rest], [.str [44]], [.int .i64 0]], tk a, [rc]⟩
def hB (a : α) (rest : List UInt8) : Heap := ⟨[o0 a, o1 a, o2 a, o3 a, [.str rest], [.str [44]], [.int .i64 0]], tk a, [{ rc with busy := true }]⟩
def SeqR (f : α → List UInt8 → Option α) (a : α) (rest : List UInt8) (r : ARes × Heap) : Prop := match foldE f a (parts 44 rest) with
  | some a' => ∃ last, r = (.ret (.tuple []), hS o0 o1 o2 o3 tk rc a' last)
  | none => ∃ a' last, r = (.pan v, hB o0 o1 o2 o3 tk rc a' last)
theorem Goes.imp {A : AFunc} {k : List AIt} {T : Env} {H : Heap} {R R' : ARes × Heap → Prop} (h : Goes cfg A k T H R) (i : ∀ r, R r → R' r) : Goes cfg A k T H R' := by
  obtain ⟨r, h1, h2⟩ := h
  exact ⟨r, h1, i r h2⟩
theorem seq_run (f : α → List UInt8 → Option α) (hI : ∀ a x a' m, I a (x.length + 1 + m) → f a x = some a' → I a' m)
    (hy : ∀ a p rest a', p.length ≤ 1000 → I a rest.length → f a p = some a' → Does cfg (.call (.c (.yield 0)) [.c (.str p)]) (hS o0 o1 o2 o3 tk rc a rest) (.bool true) (hS o0 o1 o2 o3 tk rc a' rest))
    (hn : ∀ a p rest, p.length ≤ 1000 → I a rest.length → f a p = none → DoesP cfg (.call (.c (.yield 0)) [.c (.str p)]) (hS o0 o1 o2 o3 tk rc a rest) v (hB o0 o1 o2 o3 tk rc a rest)) :
    ∀ (n : Nat) (rest : List UInt8) (hr : rest.length ≤ n) (hl : rest.length ≤ 1000) (a : α) (ha : I a rest.length) (T : Env) (hT : Has T [(0, .yield 0), (1, .ptr 5 0), (2, .ptr 4 0), (3, .ptr 6 0)]),
      Goes cfg a136 k136_1 T (hS o0 o1 o2 o3 tk rc a rest) (SeqR o0 o1 o2 o3 tk rc v f a rest) := by
  intro n
  induction n with
  | zero =>
    intro rest hr hl a ha T hT
    have e : rest = [] := List.length_eq_zero_iff.1 (by omega)
    subst e
    have hi : Gives cfg 105 [.str [], .str [44]] (.int .i64 (-1)) := index1 105 [] 44 rfl rfl
    cases hf : f a [] with
    | some a' =>
      have hd := hy a [] [] a' (by simp) ha hf
      have key : Goes cfg a136 k136_1 T (hS o0 o1 o2 o3 tk rc a []) (fun r => r = (.ret (.tuple []), hS o0 o1 o2 o3 tk rc a' [])) := by
        exact goG 60 _  hT  (.callG ([AV.str [], AV.str [(44 : UInt8)]]) (AV.int IntKind.i64 (-1 : Int)) (show Gives cfg (105 : FuncId) [AV.str [], AV.str [(44 : UInt8)]] (AV.int IntKind.i64 (-1 : Int)) from hi) ⟨rfl, rfl⟩ ⟨rfl, rfl⟩ <| .tt <| .effY (show Does cfg (AOp.call (Opd.c (AV.yield (0 : Nat))) [Opd.c (AV.str [])]) (hS o0 o1 o2 o3 tk rc a []) (AV.bool true) (hS o0 o1 o2 o3 tk rc a' []) from hd) <| .fin ((ARes.ret (AV.tuple []), { boxes := [o0 a', o1 a', o2 a', o3 a', [AV.str []], [AV.str [(44 : UInt8)]], [AV.int IntKind.i64 (0 : Int)]], toks := tk a', loops := [rc] : Heap })) rfl) (by kernel_rfl)
      refine Goes.imp key ?_
      rintro r rfl
      simp only [SeqR, parts, foldE, hf]
      exact ⟨_, rfl⟩
    | none =>
      have hd := hn a [] [] (by simp) ha hf
      have key : Goes cfg a136 k136_1 T (hS o0 o1 o2 o3 tk rc a []) (fun r => r = (.pan v, hB o0 o1 o2 o3 tk rc a [])) := by
        exact goG 60 _  hT  (.callG ([AV.str [], AV.str [(44 : UInt8)]]) (AV.int IntKind.i64 (-1 : Int)) (show Gives cfg (105 : FuncId) [AV.str [], AV.str [(44 : UInt8)]] (AV.int IntKind.i64 (-1 : Int)) from hi) ⟨rfl, rfl⟩ ⟨rfl, rfl⟩ <| .tt <| .panY (show DoesP cfg (AOp.call (Opd.c (AV.yield (0 : Nat))) [Opd.c (AV.str [])]) (hS o0 o1 o2 o3 tk rc a []) v (hB o0 o1 o2 o3 tk rc a []) from hd) rfl) (by kernel_rfl)
      refine Goes.imp key ?_
      rintro r rfl
      simp only [SeqR, parts, foldE, hf]
      exact ⟨_, _, rfl⟩
  | succ n ih =>
    intro rest hr hl a ha T hT
    cases hc : cutAt 44 rest with
    | none =>
      have hm := cutAt_none hc
      have hi : Gives cfg 105 [.str rest, .str [44]] (.int .i64 (-1)) := by
        have := index1 105 rest 44 rfl rfl
        rwa [ib_none hm] at this
      have ep := parts_none hm
      cases hf : f a rest with
      | some a' =>
        have hd := hy a rest rest a' hl ha hf
        have key : Goes cfg a136 k136_1 T (hS o0 o1 o2 o3 tk rc a rest) (fun r => r = (.ret (.tuple []), hS o0 o1 o2 o3 tk rc a' rest)) := by
          exact goG 60 _  hT  (.callG ([AV.str rest, AV.str [(44 : UInt8)]]) (AV.int IntKind.i64 (-1 : Int)) (show Gives cfg (105 : FuncId) [AV.str rest, AV.str [(44 : UInt8)]] (AV.int IntKind.i64 (-1 : Int)) from hi) ⟨rfl, rfl⟩ ⟨rfl, rfl⟩ <| .tt <| .effY (show Does cfg (AOp.call (Opd.c (AV.yield (0 : Nat))) [Opd.c (AV.str rest)]) (hS o0 o1 o2 o3 tk rc a rest) (AV.bool true) (hS o0 o1 o2 o3 tk rc a' rest) from hd) <| .fin ((ARes.ret (AV.tuple []), { boxes := [o0 a', o1 a', o2 a', o3 a', [AV.str rest], [AV.str [(44 : UInt8)]], [AV.int IntKind.i64 (0 : Int)]], toks := tk a', loops := [rc] : Heap })) rfl) (by kernel_rfl)
        refine Goes.imp key ?_
        rintro r rfl
        simp only [SeqR, ep, foldE, hf]
        exact ⟨_, rfl⟩
      | none =>
        have hd := hn a rest rest hl ha hf
        have key : Goes cfg a136 k136_1 T (hS o0 o1 o2 o3 tk rc a rest) (fun r => r = (.pan v, hB o0 o1 o2 o3 tk rc a rest)) := by
          exact goG 60 _  hT  (.callG ([AV.str rest, AV.str [(44 : UInt8)]]) (AV.int IntKind.i64 (-1 : Int)) (show Gives cfg (105 : FuncId) [AV.str rest, AV.str [(44 : UInt8)]] (AV.int IntKind.i64 (-1 : Int)) from hi) ⟨rfl, rfl⟩ ⟨rfl, rfl⟩ <| .tt <| .panY (show DoesP cfg (AOp.call (Opd.c (AV.yield (0 : Nat))) [Opd.c (AV.str rest)]) (hS o0 o1 o2 o3 tk rc a rest) v (hB o0 o1 o2 o3 tk rc a rest) from hd) rfl) (by kernel_rfl)
        refine Goes.imp key ?_
        rintro r rfl
        simp only [SeqR, ep, foldE, hf]
        exact ⟨_, _, rfl⟩
    | some p =>
      obtain ⟨x, y⟩ := p
      obtain ⟨rfl, hm⟩ := cutAt_some hc
      have hi : Gives cfg 105 [.str (x ++ 44 :: y), .str [44]] (.int .i64 (x.length : Nat)) := by
        have := index1 105 (x ++ 44 :: y) 44 rfl rfl
        rwa [ib_at hm] at this
      have ep : parts 44 (x ++ 44 :: y) = x :: parts 44 y := parts_some hm
      have hlx : x.length + y.length + 1 ≤ 1000 := by simpa [Nat.add_assoc] using hl
      have hry : y.length ≤ n := by
        have : x.length + (y.length + 1) ≤ n + 1 := by simpa using hr
        omega
      have h0 : binA .add (.int .i64 (x.length : Nat)) (.int .i64 0) = some (.int .i64 (x.length : Nat)) := by
        rw [addI (by omega) (by omega), Int.add_zero]
      have s1 : sliceA 0 (.str (x ++ 44 :: y)) none (some (.int .i64 (x.length : Nat))) none = some (.str x) := by
        rw [sstr_to (by simp)]; simp
      have s2 : sliceA 0 (.str (x ++ 44 :: y)) (some (.int .i64 ((x.length + 1 : Nat) : Int))) none none = some (.str y) := by
        rw [sstr_from (by simp), List.drop_append]; simp
      cases hf : f a x with
      | some a' =>
        have hd := hy a x (x ++ 44 :: y) a' (by omega) ha hf
        have e : SeqR o0 o1 o2 o3 tk rc v f a (x ++ 44 :: y) = SeqR o0 o1 o2 o3 tk rc v f a' y := by
          funext r
          simp only [SeqR, ep, foldE, hf]
        rw [e]
        have ha2 : I a' y.length := hI a x a' y.length (by simpa [Nat.add_assoc, Nat.add_comm 1] using ha) hf
        have ih2 := ih y hry (by omega) a' ha2
        exact goG 60 _  hT  (.callG ([AV.str (x ++ (44 : UInt8) :: y), AV.str [(44 : UInt8)]]) (AV.int IntKind.i64 (↑x.length : Int)) (show Gives cfg (105 : FuncId) [AV.str (x ++ (44 : UInt8) :: y), AV.str [(44 : UInt8)]] (AV.int IntKind.i64 (↑x.length : Int)) from hi) ⟨rfl, rfl⟩ ⟨rfl, rfl⟩ <| .ff <| .bin (show binA BinOp.add (AV.int IntKind.i64 (↑x.length : Int)) (AV.int IntKind.i64 (0 : Int)) = some (AV.int IntKind.i64 (↑x.length : Int)) from h0) <| .slice (show sliceA (0 : Nat) (AV.str (x ++ (44 : UInt8) :: y)) none (some (AV.int IntKind.i64 (↑x.length : Int))) none = some (AV.str x) from s1) <| .effY (show Does cfg (AOp.call (Opd.c (AV.yield (0 : Nat))) [Opd.c (AV.str x)]) (hS o0 o1 o2 o3 tk rc a (x ++ (44 : UInt8) :: y)) (AV.bool true) (hS o0 o1 o2 o3 tk rc a' (x ++ (44 : UInt8) :: y)) from hd) <| .ff <| .len (show lenA true (AV.str [(44 : UInt8)]) = some (AV.int IntKind.i64 (↑[(44 : UInt8)].length : Int)) from len_str _) <| .bin (show binA BinOp.add (AV.int IntKind.i64 (↑x.length : Int)) (AV.int IntKind.i64 (↑[(44 : UInt8)].length : Int)) = some (AV.int IntKind.i64 (↑(x.length + (1 : Nat)) : Int)) from inc_i (by omega)) <| .slice (show sliceA (0 : Nat) (AV.str (x ++ (44 : UInt8) :: y)) (some (AV.int IntKind.i64 (↑(x.length + (1 : Nat)) : Int))) none none = some (AV.str y) from s2) <| .cutQ k136_1 [(0, AV.yield (0 : Nat)), (1, AV.ptr (5 : Nat) (0 : Nat)), (2, AV.ptr (4 : Nat) (0 : Nat)), (3, AV.ptr (6 : Nat) (0 : Nat))] ({ boxes := [o0 a', o1 a', o2 a', o3 a', [AV.str y], [AV.str [(44 : UInt8)]], [AV.int IntKind.i64 (0 : Int)]], toks := tk a', loops := [rc] : Heap }) (fun T hT => (ih2 T hT))) (by kernel_rfl)
      | none =>
        have hd := hn a x (x ++ 44 :: y) (by omega) ha hf
        have key : Goes cfg a136 k136_1 T (hS o0 o1 o2 o3 tk rc a (x ++ 44 :: y)) (fun r => r = (.pan v, hB o0 o1 o2 o3 tk rc a (x ++ 44 :: y))) := by
          exact goG 60 _  hT  (.callG ([AV.str (x ++ (44 : UInt8) :: y), AV.str [(44 : UInt8)]]) (AV.int IntKind.i64 (↑x.length : Int)) (show Gives cfg (105 : FuncId) [AV.str (x ++ (44 : UInt8) :: y), AV.str [(44 : UInt8)]] (AV.int IntKind.i64 (↑x.length : Int)) from hi) ⟨rfl, rfl⟩ ⟨rfl, rfl⟩ <| .ff <| .bin (show binA BinOp.add (AV.int IntKind.i64 (↑x.length : Int)) (AV.int IntKind.i64 (0 : Int)) = some (AV.int IntKind.i64 (↑x.length : Int)) from h0) <| .slice (show sliceA (0 : Nat) (AV.str (x ++ (44 : UInt8) :: y)) none (some (AV.int IntKind.i64 (↑x.length : Int))) none = some (AV.str x) from s1) <| .panY (show DoesP cfg (AOp.call (Opd.c (AV.yield (0 : Nat))) [Opd.c (AV.str x)]) (hS o0 o1 o2 o3 tk rc a (x ++ (44 : UInt8) :: y)) v (hB o0 o1 o2 o3 tk rc a (x ++ (44 : UInt8) :: y)) from hd) rfl) (by kernel_rfl)
        refine Goes.imp key ?_
        rintro r rfl
        simp only [SeqR, ep, foldE, hf]
        exact ⟨_, _, rfl⟩
theorem seq_call (f : α → List UInt8 → Option α) (hI : ∀ a x a' m, I a (x.length + 1 + m) → f a x = some a' → I a' m)
    (hy : ∀ a p rest a', p.length ≤ 1000 → I a rest.length → f a p = some a' → Does cfg (.call (.c (.yield 0)) [.c (.str p)]) (hS o0 o1 o2 o3 tk rc a rest) (.bool true) (hS o0 o1 o2 o3 tk rc a' rest))
    (hn : ∀ a p rest, p.length ≤ 1000 → I a rest.length → f a p = none → DoesP cfg (.call (.c (.yield 0)) [.c (.str p)]) (hS o0 o1 o2 o3 tk rc a rest) v (hB o0 o1 o2 o3 tk rc a rest))
    (rest : List UInt8) (hl : rest.length ≤ 1000) (a : α) (ha : I a rest.length) : ∃ r, lim cfg (.fn 136) [.yield 0, .ptr 5 0, .ptr 4 0, .ptr 6 0] (hS o0 o1 o2 o3 tk rc a rest) = some r ∧ SeqR o0 o1 o2 o3 tk rc v f a rest r := by
  rw [l136]
  have h := seq_run o0 o1 o2 o3 tk rc v I f hI hy hn rest.length rest (Nat.le_refl _) hl a ha
  have key : Goes cfg a136 [.c c136] (initEnv [.yield 0, .ptr 5 0, .ptr 4 0, .ptr 6 0]) (hS o0 o1 o2 o3 tk rc a rest) (SeqR o0 o1 o2 o3 tk rc v f a rest) := by
    exact goG 60 []  trivial  (.len (show lenA true (AV.str [(44 : UInt8)]) = some (AV.int IntKind.i64 (↑[(44 : UInt8)].length : Int)) from len_str _) <| .ff <| .cutQ k136_1 [(0, AV.yield (0 : Nat)), (1, AV.ptr (5 : Nat) (0 : Nat)), (2, AV.ptr (4 : Nat) (0 : Nat)), (3, AV.ptr (6 : Nat) (0 : Nat))] ({ boxes := [o0 a, o1 a, o2 a, o3 a, [AV.str rest], [AV.str [(44 : UInt8)]], [AV.int IntKind.i64 (0 : Int)]], toks := tk a, loops := [rc] : Heap }) (fun T hT => (h T hT))) (by kernel_rfl)
  exact key
end
end Go.Aa.T

set_option linter.unusedVariables false
set_option linter.unusedSimpArgs false
set_option maxRecDepth 100000
namespace Go.Aa.T
open Go.Aa Go.Proofs
def stopV (e : Int) : AV := .iface 159 (.agg [.int .i64 e])
theorem stop_ok : Gives cfg 76 [.int .i64 0] (.tuple []) := by
  refine Gives.run (l76 _ _) ?_
  exact goG 60 []  trivial  (.ff <| .fin ((ARes.ret (AV.tuple []), { boxes := [], toks := [], loops := [] : Heap })) rfl) (by kernel_rfl)
theorem stop_pan {e : Int} (h : ¬ e = 0) : Pans cfg 76 [.int .i64 e] (stopV e) := by
  refine Pans.run (l76 _ _) ?_
  exact goG 60 [] trivial (.op (.bin .neq (.c (.int .i64 e)) (.c (.int .i64 0))) (.bool true) (pure_step (fun _ => neqT (k := .i64) h) fun _ _ _ => rfl) <| .tt <| .panicI 159 (.agg [.int .i64 e]) Heap.nil rfl) (by kernel_rfl)
def collect {X : Type} (pf : List UInt8 → Option X) (acc : List X) (p : List UInt8) : Option (List X) := if p = [] then none else (pf p).map fun x => acc ++ [x]
def parsed {X : Type} (pf : List UInt8 → Option X) (ck : List X → Int) (s : List UInt8) : List X × Int :=
  if s = [45] then ([], 0) else match foldE (collect pf) [] (parts 44 s) with
  | none => ([], 2)
  | some l => if ck l = 0 then (l, 0) else ([], ck l)
def skF {X : Type} : List X → SK
  | [] => .full
  | _ :: _ => .own 0
instance {X : Type} (l : List X) (xs : List AV) : Shut (.sl (skF l) xs) (.sl .sh xs) := ⟨by cases l <;> exact ⟨rfl, rfl⟩⟩
section
variable {X : Type} (enc : X → AV)
def tkR (acc : List X) : List Nat := (rowH Heap.nil (acc.map enc)).toks
theorem tk_nil : tkR enc [] = [] := rfl
theorem tk_cons (x : X) (l : List X) : tkR enc (x :: l) = [l.length + 1] := by simp [tkR, rowH, Heap.nil]
def rowF (l : List X) : AV := .sl (skF l) (l.map enc)
instance (l : List X) : Shut (rowF enc l) (.sl .sh (l.map enc)) := ⟨by cases l <;> exact ⟨rfl, rfl⟩⟩
theorem rowF_eq (l : List X) : rowF enc l = rowS Heap.nil (l.map enc) := by cases l <;> rfl
theorem row_append_T {x : X} {es bytes : Nat} {bs : List (List AV)} {ls : List LRec} {ys : List X} (h : ((ys.map enc).length + 1) * bytes ≤ 140737488355328) (hl : lenOk es (ys.map enc) = true) (hv : cellsN es (enc x) = true) (hd : dataOk [enc x] = true) :
    appendA es bytes ⟨bs, tkR enc ys, ls⟩ (rowF enc ys) (.sl .full [enc x]) = some (rowF enc (ys ++ [x]), ⟨bs, tkR enc (ys ++ [x]), ls⟩) := by
  rw [rowF_eq, rowF_eq]
  have hh := row_append_map (f := enc) (x := x) (H := Heap.nil) h hl hv hd
  cases ys with
  | nil =>
    simp only [rowS, rowH, List.map_nil, List.nil_append, List.map_cons, tkR, Heap.nil] at hh ⊢
    simp only [appendA] at hh ⊢
    split at hh
    · rename_i hc; rw [if_pos hc]; rfl
    · cases hh
  | cons y ys =>
    simp only [rowS, rowH, List.cons_append, List.map_cons, tkR, Heap.nil] at hh ⊢
    simp only [appendA] at hh ⊢
    split at hh
    · rename_i hc
      rw [if_pos hc]
      split at hh
      · rename_i hc2
        rw [if_pos hc2]
        simp only [Option.some.injEq, Prod.mk.injEq, Heap.mk.injEq, true_and, and_true] at hh ⊢
        exact hh
      · cases hh
    · cases hh
end

section
variable (s0 : List UInt8)
end

section
variable (s0 : List UInt8)
end

section
variable (s0 : List UInt8)
def oPair0 (_ : List Pair) : List AV := [.str s0]
def oPair1 (_ : List Pair) : List AV := [.func 89 []]
def oPair2 (_ : List Pair) : List AV := [.func 90 []]
def oPair3 (acc : List Pair) : List AV := [rowF encP acc]
theorem trPair (rc : LRec) (h1 : rc.nb = 7) (h2 : rc.nt = 0) (acc : List Pair) (rest : List UInt8) (n : Nat) (hn : n ≤ 1) (h0 : n = 1 → acc ≠ []) (v : AV) (hv : within 7 n v = true) :
    trunc 7 n v ⟨[oPair0 s0 acc, oPair1 acc, oPair2 acc, oPair3 acc, [.str rest], [.str [44]], [.int .i64 0]], tkR encP acc, [rc]⟩ = ⟨[oPair0 s0 acc, oPair1 acc, oPair2 acc, oPair3 acc, [.str rest], [.str [44]], [.int .i64 0]], tkR encP acc, [rc]⟩ := by
  have hb : ∀ (b : Bool) (l : List (List AV)), l.length = 7 → (if b = true then l.take 7 else l) = l := fun b l hl => by
    split
    · exact List.take_of_length_le (by omega)
    · rfl
  unfold trunc
  simp only
  rw [hb _ _ rfl]
  simp only [Heap.mk.injEq, true_and, and_true]
  cases acc with
  | nil => simp [tk_nil]
  | cons x l =>
    rw [tk_cons]
    rcases Nat.lt_or_ge n 1 with h | h
    · have : n = 0 := by omega
      subst this
      have hf : (([oPair0 s0 (x :: l), oPair1 (x :: l), oPair2 (x :: l), oPair3 (x :: l), [.str rest], [.str [44]], [.int .i64 0]] : List (List AV)).all fun x_1 => x_1.all (in2 ([oPair0 s0 (x :: l), oPair1 (x :: l), oPair2 (x :: l), oPair3 (x :: l), [.str rest], [.str [44]], [.int .i64 0]] : List (List AV)).length 0)) = false := rfl
      rw [hf]
      simp
    · have : n = 1 := by omega
      subst this
      split <;> rfl
theorem ylPair (pf : List UInt8 → Option Pair) (rc : LRec) (T0 : Env) (hA : rc.A = a109) (hT0 : rc.T = T0) (hps : rc.ps = [7]) (has : rc.assign = ra109_0) (hbd : rc.body = rb109_0) (hbu : rc.busy = false) (h1 : rc.nb = 7) (h2 : rc.nt = 0) (hT : Has T0 [(1, .ptr 3 0), (2, .ptr 1 0)])
    (hp : ∀ p x, p.length ≤ 1000 → pf p = some x → Gives cfg 89 [.str p] (encP x)) (acc : List Pair) (p rest : List UInt8) (acc' : List Pair) (hl : p.length ≤ 1000) (hacc : acc.length ≤ 100000) (hf : collect pf acc p = some acc') :
    Does cfg (.call (.c (.yield 0)) [.c (.str p)]) (hS (oPair0 s0) oPair1 oPair2 oPair3 (tkR encP) rc acc rest) (.bool true) (hS (oPair0 s0) oPair1 oPair2 oPair3 (tkR encP) rc acc' rest) := by
  unfold collect at hf
  split at hf
  · cases hf
  rename_i hne
  simp only [Option.map_eq_some_iff] at hf
  obtain ⟨x, hx, rfl⟩ := hf
  have hg := hp p x hl hx
  have key : Goes cfg roundA [.c rb109_0] (upd (psetA T0 [7] [.str p]) 4 (.str p)) (hB (oPair0 s0) oPair1 oPair2 oPair3 (tkR encP) rc acc rest) (fun r => r = (.ret (.tuple []), hB (oPair0 s0) oPair1 oPair2 oPair3 (tkR encP) rc (acc ++ [x]) rest)) := by
    have hT' : Has (upd (psetA T0 [7] [.str p]) 4 (.str p)) [(1, .ptr 3 0), (2, .ptr 1 0), (4, .str p)] := ⟨hT.1, hT.2.1, rfl, trivial⟩
    exact goG 60 _  hT'  (.no (show (p == []) = false from Bool.eq_false_iff.2 (show ¬ ((p == []) = true) from (by simpa using hne))) <| .callG ([AV.str p]) (AV.agg [AV.str x.key, AV.str x.val]) (show Gives cfg (89 : FuncId) [AV.str p] (encP x) from hg) ⟨rfl, rfl⟩ ⟨rfl, rfl⟩ <| .append (show appendA (2 : Nat) (32 : Nat) { boxes := [[AV.str s0], [AV.func (89 : Nat) []], [AV.func (90 : Nat) []], [AV.sl (skF acc) (List.map encP acc)], [AV.str rest], [AV.str [(44 : UInt8)]], [AV.int IntKind.i64 (0 : Int)]], toks := tkR encP acc, loops := [{ A := rc.A, T := rc.T, ps := rc.ps, assign := rc.assign, body := rc.body, busy := true, nb := rc.nb, nt := rc.nt, nl := rc.nl : LRec }] : Heap } (AV.sl (skF acc) (List.map encP acc)) (AV.sl SK.full [AV.agg [AV.str x.key, AV.str x.val]]) = some ((rowF encP (acc ++ [x]), { boxes := [[AV.str s0], [AV.func (89 : Nat) []], [AV.func (90 : Nat) []], [AV.sl (skF acc) (List.map encP acc)], [AV.str rest], [AV.str [(44 : UInt8)]], [AV.int IntKind.i64 (0 : Int)]], toks := tkR encP (acc ++ [x]), loops := [{ A := rc.A, T := rc.T, ps := rc.ps, assign := rc.assign, body := rc.body, busy := true, nb := rc.nb, nt := rc.nt, nl := rc.nl : LRec }] : Heap })) from row_append_T _ (by simp; omega) (by exact lenP) (by rfl) (by rfl)) <| .fin ((ARes.ret (AV.tuple []), { boxes := [[AV.str s0], [AV.func (89 : Nat) []], [AV.func (90 : Nat) []], [AV.sl (skF (acc ++ [x])) (List.map encP (acc ++ [x]))], [AV.str rest], [AV.str [(44 : UInt8)]], [AV.int IntKind.i64 (0 : Int)]], toks := tkR encP (acc ++ [x]), loops := [{ A := rc.A, T := rc.T, ps := rc.ps, assign := rc.assign, body := rc.body, busy := true, nb := rc.nb, nt := rc.nt, nl := rc.nl : LRec }] : Heap })) rfl) (by kernel_rfl)
  obtain ⟨r, hr, rfl⟩ := key
  have hrun : runL cfg roundA [.c rc.assign, .beg 0, .c rc.body] (psetA rc.T rc.ps [.str p]) (hS (oPair0 s0) oPair1 oPair2 oPair3 (tkR encP) rc acc rest) = some (.ret (.tuple []), hB (oPair0 s0) oPair1 oPair2 oPair3 (tkR encP) rc (acc ++ [x]) rest) := by
    rw [hT0, hps, has, hbd]
    rw [show (ra109_0 : ACode) = .region [⟨some 4, .mov (.t 7), none, []⟩] false from rfl, runL_assign, runL_beg (r := rc) rfl hbu]
    exact hr
  have h3 := yl_ret (cfg := cfg) (l := 0) (args := [.str p]) (r := rc) (r' := { rc with busy := true }) rfl (by rw [hps]; rfl) hrun rfl
  have e1 : ({ ({ rc with busy := true } : LRec) with busy := false } : LRec) = rc := by cases rc; simp only at hbu; subst hbu; rfl
  have h4 := does_yield h3 rfl
  refine Eq.mp ?_ h4
  congr 1
  show trunc 7 (tkR encP acc).length (.bool true) ⟨[oPair0 s0 (acc ++ [x]), oPair1 (acc ++ [x]), oPair2 (acc ++ [x]), oPair3 (acc ++ [x]), [.str rest], [.str [44]], [.int .i64 0]], tkR encP (acc ++ [x]), [{ ({ rc with busy := true } : LRec) with busy := false }]⟩ = _
  rw [e1]
  refine trPair s0 rc h1 h2 _ rest _ ?_ (fun _ => by simp) _ rfl
  cases acc with
  | nil => simp [tk_nil]
  | cons y l => simp [tk_cons]
theorem ynPair (pf : List UInt8 → Option Pair) (rc : LRec) (T0 : Env) (hA : rc.A = a109) (hT0 : rc.T = T0) (hps : rc.ps = [7]) (has : rc.assign = ra109_0) (hbd : rc.body = rb109_0) (hbu : rc.busy = false) (h1 : rc.nb = 7) (h2 : rc.nt = 0) (hT : Has T0 [(1, .ptr 3 0), (2, .ptr 1 0)])
    (hp : ∀ p, p.length ≤ 1000 → p ≠ [] → pf p = none → Pans cfg 89 [.str p] (stopV 2)) (acc : List Pair) (p rest : List UInt8) (hl : p.length ≤ 1000) (hf : collect pf acc p = none) :
    DoesP cfg (.call (.c (.yield 0)) [.c (.str p)]) (hS (oPair0 s0) oPair1 oPair2 oPair3 (tkR encP) rc acc rest) (stopV 2) (hB (oPair0 s0) oPair1 oPair2 oPair3 (tkR encP) rc acc rest) := by
  have key : Goes cfg roundA [.c rb109_0] (upd (psetA T0 [7] [.str p]) 4 (.str p)) (hB (oPair0 s0) oPair1 oPair2 oPair3 (tkR encP) rc acc rest) (fun r => r = (.pan (stopV 2), hB (oPair0 s0) oPair1 oPair2 oPair3 (tkR encP) rc acc rest)) := by
    have hT' : Has (upd (psetA T0 [7] [.str p]) 4 (.str p)) [(1, .ptr 3 0), (2, .ptr 1 0), (4, .str p)] := ⟨hT.1, hT.2.1, rfl, trivial⟩
    by_cases hne : p = []
    · subst hne
      have hs : Pans cfg 76 [.int .i64 2] (stopV 2) := stop_pan (by decide)
      exact goG 60 _  hT'  (.tt <| .callP ([AV.int IntKind.i64 (2 : Int)]) ({ boxes := [[AV.str s0], [AV.func (89 : Nat) []], [AV.func (90 : Nat) []], [AV.sl (skF acc) (List.map encP acc)], [AV.str rest], [AV.str [(44 : UInt8)]], [AV.int IntKind.i64 (0 : Int)]], toks := tkR encP acc, loops := [{ A := rc.A, T := rc.T, ps := rc.ps, assign := rc.assign, body := rc.body, busy := true, nb := rc.nb, nt := rc.nt, nl := rc.nl : LRec }] : Heap }) (show Pans cfg (76 : FuncId) [AV.int IntKind.i64 (2 : Int)] (stopV (2 : Int)) from hs) ⟨rfl, rfl⟩ rfl rfl) (by kernel_rfl)
    · have hx : pf p = none := by
        unfold collect at hf
        rw [if_neg hne] at hf
        simpa using hf
      have hg := hp p hl hne hx
      exact goG 60 _  hT'  (.no (show (p == []) = false from Bool.eq_false_iff.2 (show ¬ ((p == []) = true) from (by simpa using hne))) <| .callP ([AV.str p]) ({ boxes := [[AV.str s0], [AV.func (89 : Nat) []], [AV.func (90 : Nat) []], [AV.sl (skF acc) (List.map encP acc)], [AV.str rest], [AV.str [(44 : UInt8)]], [AV.int IntKind.i64 (0 : Int)]], toks := tkR encP acc, loops := [{ A := rc.A, T := rc.T, ps := rc.ps, assign := rc.assign, body := rc.body, busy := true, nb := rc.nb, nt := rc.nt, nl := rc.nl : LRec }] : Heap }) (show Pans cfg (89 : FuncId) [AV.str p] (stopV (2 : Int)) from hg) ⟨rfl, rfl⟩ rfl rfl) (by kernel_rfl)
  obtain ⟨r, hr, rfl⟩ := key
  have hrun : runL cfg roundA [.c rc.assign, .beg 0, .c rc.body] (psetA rc.T rc.ps [.str p]) (hS (oPair0 s0) oPair1 oPair2 oPair3 (tkR encP) rc acc rest) = some (.pan (stopV 2), hB (oPair0 s0) oPair1 oPair2 oPair3 (tkR encP) rc acc rest) := by
    rw [hT0, hps, has, hbd]
    rw [show (ra109_0 : ACode) = .region [⟨some 4, .mov (.t 7), none, []⟩] false from rfl, runL_assign, runL_beg (r := rc) rfl hbu]
    exact hr
  have h3 := yl_pan (cfg := cfg) (l := 0) (args := [.str p]) (r := rc) rfl (by rw [hps]; rfl) hrun
  have h4 := does_yieldP h3 rfl
  refine Eq.mp ?_ h4
  congr 1
  refine trPair s0 { rc with busy := true } h1 h2 _ rest _ ?_ (fun h => ?_) _ rfl
  · show (tkR encP acc).length ≤ 1
    cases acc with
    | nil => simp [tk_nil]
    | cons y l => simp [tk_cons]
  · rintro rfl
    change (tkR encP []).length = 1 at h
    simp [tk_nil] at h
theorem inPair (acc : List Pair) (rest : List UInt8) : ([oPair0 s0 acc, oPair1 acc, oPair2 acc, oPair3 acc, [.str rest], [.str [44]], [.int .i64 0]] : List (List AV)).all (fun b => b.all (in2 7 (tkR encP acc).length)) = true := by
  cases acc with
  | nil => rfl
  | cons x l => rw [tk_cons]; rfl
theorem rgPair (pf : List UInt8 → Option Pair) (hp : ∀ p x, p.length ≤ 1000 → pf p = some x → Gives cfg 89 [.str p] (encP x)) (hpn : ∀ p, p.length ≤ 1000 → p ≠ [] → pf p = none → Pans cfg 89 [.str p] (stopV 2))
    (s : List UInt8) (hl : s.length ≤ 1000) (T : Env) (hT : Has T [(0, .ptr 0 0), (1, .ptr 3 0), (2, .ptr 1 0), (3, .ptr 2 0), (6, .func 136 [.ptr 5 0, .ptr 4 0, .ptr 6 0])]) :
    (∀ l, foldE (collect pf) [] (parts 44 s) = some l → ∃ last, runL cfg a109 kr109_0 T ⟨[oPair0 s0 [], oPair1 [], oPair2 [], oPair3 [], [.str s], [.str [44]], [.int .i64 0]], [], []⟩ = runL cfg a109 kr109_0.tail T ⟨[oPair0 s0 l, oPair1 l, oPair2 l, oPair3 l, [.str last], [.str [44]], [.int .i64 0]], tkR encP l, []⟩) ∧
    (foldE (collect pf) [] (parts 44 s) = none → ∃ H', runL cfg a109 kr109_0 T ⟨[oPair0 s0 [], oPair1 [], oPair2 [], oPair3 [], [.str s], [.str [44]], [.int .i64 0]], [], []⟩ = some (.pan (stopV 2), H')) := by
  let rc : LRec := ⟨a109, T, [7], ra109_0, rb109_0, false, 7, 0, 0⟩
  have hT12 : Has T [(1, .ptr 3 0), (2, .ptr 1 0)] := ⟨hT.2.1, hT.2.2.1, trivial⟩
  obtain ⟨r, hr, hs⟩ := seq_call (oPair0 s0) oPair1 oPair2 oPair3 (tkR encP) rc (stopV 2) (fun acc m => acc.length + m ≤ 2000) (collect pf)
    (fun a x a' m h hc => by
      unfold collect at hc
      split at hc
      · cases hc
      · simp only [Option.map_eq_some_iff] at hc
        obtain ⟨y, -, rfl⟩ := hc
        simp only [List.length_append, List.length_cons, List.length_nil]
        omega)
    (fun a p rest a' h1 h2 h3 => ylPair s0 pf rc T rfl rfl rfl rfl rfl rfl rfl rfl hT12 hp a p rest a' h1 (by omega) h3)
    (fun a p rest h1 h2 h3 => ynPair s0 pf rc T rfl rfl rfl rfl rfl rfl rfl rfl hT12 hpn a p rest h1 h3)
    s hl [] (by simp; omega)
  have hfv : ev T (.t 6) = .func 136 [.ptr 5 0, .ptr 4 0, .ptr 6 0] := hT.2.2.2.2.1
  have hcall : callV (lim cfg) (.func 136 [.ptr 5 0, .ptr 4 0, .ptr 6 0]) [.yield 0] (hS (oPair0 s0) oPair1 oPair2 oPair3 (tkR encP) rc [] s) = callE (lim cfg) 136 [.yield 0, .ptr 5 0, .ptr 4 0, .ptr 6 0] (hS (oPair0 s0) oPair1 oPair2 oPair3 (tkR encP) rc [] s) := by
    rw [callV_func]; rfl
  constructor
  · intro l hf
    simp only [SeqR, hf] at hs
    obtain ⟨last, rfl⟩ := hs
    refine ⟨last, ?_⟩
    have h1 : callV (lim cfg) (.func 136 [.ptr 5 0, .ptr 4 0, .ptr 6 0]) [.yield 0] (hS (oPair0 s0) oPair1 oPair2 oPair3 (tkR encP) rc [] s) = some (.val (.tuple []) (hS (oPair0 s0) oPair1 oPair2 oPair3 (tkR encP) rc l last)) := by
      rw [hcall]
      simp only [callE, hr]
      congr 2
      exact trPair s0 rc rfl rfl l last 0 (by omega) (by intro h; cases h) (.tuple []) rfl
    have h2 : dropL 0 (hS (oPair0 s0) oPair1 oPair2 oPair3 (tkR encP) rc l last) = some ⟨[oPair0 s0 l, oPair1 l, oPair2 l, oPair3 l, [.str last], [.str [44]], [.int .i64 0]], tkR encP l, []⟩ := by
      exact dropL_of (r := rc) rfl rfl rfl (inPair s0 l last)
    have h3 := rangeA_val (call := lim cfg) (A := a109) (T := T) (ps := [7]) (a := ra109_0) (b := rb109_0) (H := ⟨[oPair0 s0 [], oPair1 [], oPair2 [], oPair3 [], [.str s], [.str [44]], [.int .i64 0]], [], []⟩) h1 h2
    rw [← hfv] at h3
    exact runL_range rfl h3
  · intro hf
    simp only [SeqR, hf] at hs
    obtain ⟨a', last, rfl⟩ := hs
    have h1 : callV (lim cfg) (.func 136 [.ptr 5 0, .ptr 4 0, .ptr 6 0]) [.yield 0] (hS (oPair0 s0) oPair1 oPair2 oPair3 (tkR encP) rc [] s) = some (.pan (stopV 2) (hB (oPair0 s0) oPair1 oPair2 oPair3 (tkR encP) rc a' last)) := by
      rw [hcall]
      simp only [callE, hr]
      congr 2
      exact trPair s0 { rc with busy := true } rfl rfl a' last 0 (by omega) (by intro h; cases h) (stopV 2) rfl
    have h2 : dropP 0 (hB (oPair0 s0) oPair1 oPair2 oPair3 (tkR encP) rc a' last) = some ⟨[oPair0 s0 a', oPair1 a', oPair2 a', oPair3 a', [.str last], [.str [44]], [.int .i64 0]], tkR encP a', []⟩ := by
      exact dropP_of (Nat.lt_add_one 0) rfl (inPair s0 a' last)
    have h3 := rangeA_pan (call := lim cfg) (A := a109) (T := T) (ps := [7]) (a := ra109_0) (b := rb109_0) (H := ⟨[oPair0 s0 [], oPair1 [], oPair2 [], oPair3 [], [.str s], [.str [44]], [.int .i64 0]], [], []⟩) h1 rfl h2
    rw [← hfv] at h3
    exact ⟨_, runL_rangeP rfl h3⟩
end
theorem seq0Pair (s : List UInt8) : ∃ v0 H0, lim cfg (.fn 103) [.str s, .str [44]] Heap.nil = some (.ret v0, H0) ∧ isData (shutA v0) = false := by
  have h1 : lim cfg (.fn 124) [.str s, .str [44], .int .i64 0] Heap.nil = some (.ret (.func 136 [.ptr 1 0, .ptr 0 0, .ptr 2 0]), ⟨[[.str s], [.str [44]], [.int .i64 0]], [], []⟩) := by
    rw [l124]
    exact go 60 []  trivial  (.fin ((ARes.ret (AV.func (136 : Nat) [AV.ptr (1 : Nat) (0 : Nat), AV.ptr (0 : Nat) (0 : Nat), AV.ptr (2 : Nat) (0 : Nat)]), { boxes := [[AV.str s], [AV.str [(44 : UInt8)]], [AV.int IntKind.i64 (0 : Int)]], toks := [], loops := [] : Heap })) rfl) (by kernel_rfl)
  have hd : Does cfg (.call (.c (.func 124 [])) [.c (.str s), .c (.str [44]), .c (.int .i64 0)]) Heap.nil (.func 136 [.ptr 1 0, .ptr 0 0, .ptr 2 0]) ⟨[[.str s], [.str [44]], [.int .i64 0]], [], []⟩ :=
    does_callN h1 rfl h1 rfl rfl
  refine ⟨.func 136 [.ptr 1 0, .ptr 0 0, .ptr 2 0], ⟨[[.str s], [.str [44]], [.int .i64 0]], [], []⟩, ?_, rfl⟩
  rw [l103]
  exact go 60 []  trivial  (.effY (show Does cfg (AOp.call (Opd.c (AV.func (124 : FuncId) [])) [Opd.c (AV.str s), Opd.c (AV.str [(44 : UInt8)]), Opd.c (AV.int IntKind.i64 (0 : Int))]) Heap.nil (AV.func (136 : FuncId) [AV.ptr (1 : Nat) (0 : Nat), AV.ptr (0 : Nat) (0 : Nat), AV.ptr (2 : Nat) (0 : Nat)]) { boxes := [[AV.str s], [AV.str [(44 : UInt8)]], [AV.int IntKind.i64 (0 : Int)]], toks := [], loops := [] : Heap } from hd) <| .fin ((ARes.ret (AV.func (136 : Nat) [AV.ptr (1 : Nat) (0 : Nat), AV.ptr (0 : Nat) (0 : Nat), AV.ptr (2 : Nat) (0 : Nat)]), { boxes := [[AV.str s], [AV.str [(44 : UInt8)]], [AV.int IntKind.i64 (0 : Int)]], toks := [], loops := [] : Heap })) rfl) (by kernel_rfl)
theorem seq1Pair (s0 s : List UInt8) : lim cfg (.fn 103) [.str s, .str [44]] ⟨[oPair0 s0 [], oPair1 [], oPair2 [], oPair3 []], [], []⟩ = some (.ret (.func 136 [.ptr 5 0, .ptr 4 0, .ptr 6 0]), ⟨[oPair0 s0 [], oPair1 [], oPair2 [], oPair3 [], [.str s], [.str [44]], [.int .i64 0]], [], []⟩) := by
  have h0 : lim cfg (.fn 124) [.str s, .str [44], .int .i64 0] Heap.nil = some (.ret (.func 136 [.ptr 1 0, .ptr 0 0, .ptr 2 0]), ⟨[[.str s], [.str [44]], [.int .i64 0]], [], []⟩) := by
    rw [l124]
    exact go 60 []  trivial  (.fin ((ARes.ret (AV.func (136 : Nat) [AV.ptr (1 : Nat) (0 : Nat), AV.ptr (0 : Nat) (0 : Nat), AV.ptr (2 : Nat) (0 : Nat)]), { boxes := [[AV.str s], [AV.str [(44 : UInt8)]], [AV.int IntKind.i64 (0 : Int)]], toks := [], loops := [] : Heap })) rfl) (by kernel_rfl)
  have h1 : lim cfg (.fn 124) [.str s, .str [44], .int .i64 0] ⟨[oPair0 s0 [], oPair1 [], oPair2 [], oPair3 []], [], []⟩ = some (.ret (.func 136 [.ptr 5 0, .ptr 4 0, .ptr 6 0]), ⟨[oPair0 s0 [], oPair1 [], oPair2 [], oPair3 [], [.str s], [.str [44]], [.int .i64 0]], [], []⟩) := by
    rw [l124]
    exact go 60 []  trivial  (.fin ((ARes.ret (AV.func (136 : Nat) [AV.ptr (5 : Nat) (0 : Nat), AV.ptr (4 : Nat) (0 : Nat), AV.ptr (6 : Nat) (0 : Nat)]), { boxes := [[AV.str s0], [AV.func (89 : Nat) []], [AV.func (90 : Nat) []], [AV.sl SK.full []], [AV.str s], [AV.str [(44 : UInt8)]], [AV.int IntKind.i64 (0 : Int)]], toks := [], loops := [] : Heap })) rfl) (by kernel_rfl)
  have hd : Does cfg (.call (.c (.func 124 [])) [.c (.str s), .c (.str [44]), .c (.int .i64 0)]) ⟨[oPair0 s0 [], oPair1 [], oPair2 [], oPair3 []], [], []⟩ (.func 136 [.ptr 5 0, .ptr 4 0, .ptr 6 0]) ⟨[oPair0 s0 [], oPair1 [], oPair2 [], oPair3 [], [.str s], [.str [44]], [.int .i64 0]], [], []⟩ :=
    does_callN h0 rfl h1 rfl rfl
  rw [l103]
  exact go 60 []  trivial  (.effY (show Does cfg (AOp.call (Opd.c (AV.func (124 : FuncId) [])) [Opd.c (AV.str s), Opd.c (AV.str [(44 : UInt8)]), Opd.c (AV.int IntKind.i64 (0 : Int))]) { boxes := [oPair0 s0 [], oPair1 [], oPair2 [], oPair3 []], toks := [], loops := [] : Heap } (AV.func (136 : FuncId) [AV.ptr (5 : Nat) (0 : Nat), AV.ptr (4 : Nat) (0 : Nat), AV.ptr (6 : Nat) (0 : Nat)]) { boxes := [oPair0 s0 [], oPair1 [], oPair2 [], oPair3 [], [AV.str s], [AV.str [(44 : UInt8)]], [AV.int IntKind.i64 (0 : Int)]], toks := [], loops := [] : Heap } from hd) <| .fin ((ARes.ret (AV.func (136 : Nat) [AV.ptr (5 : Nat) (0 : Nat), AV.ptr (4 : Nat) (0 : Nat), AV.ptr (6 : Nat) (0 : Nat)]), { boxes := [[AV.str s0], [AV.func (89 : Nat) []], [AV.func (90 : Nat) []], [AV.sl SK.full []], [AV.str s], [AV.str [(44 : UInt8)]], [AV.int IntKind.i64 (0 : Int)]], toks := [], loops := [] : Heap })) rfl) (by kernel_rfl)
theorem tryPair (pf : List UInt8 → Option Pair) (ck : List Pair → Int) (hp : ∀ p x, p.length ≤ 1000 → pf p = some x → Gives cfg 89 [.str p] (encP x)) (hpn : ∀ p, p.length ≤ 1000 → p ≠ [] → pf p = none → Pans cfg 89 [.str p] (stopV 2))
    (hck : ∀ l : List Pair, Gives cfg 90 [.sl .sh (l.map encP)] (.int .i64 (ck l))) (s : List UInt8) (hl : s.length ≤ 1000) :
    match foldE (collect pf) [] (parts 44 s) with
    | none => ∃ H', lim cfg (.fn 101) [.func 109 [.ptr 0 0, .ptr 3 0, .ptr 1 0, .ptr 2 0]] ⟨[oPair0 s [], oPair1 [], oPair2 [], oPair3 []], [], []⟩ = some (.ret (.int .i64 2), H')
    | some l => if ck l = 0 then ∃ last, lim cfg (.fn 101) [.func 109 [.ptr 0 0, .ptr 3 0, .ptr 1 0, .ptr 2 0]] ⟨[oPair0 s [], oPair1 [], oPair2 [], oPair3 []], [], []⟩ = some (.ret (.int .i64 0), ⟨[oPair0 s l, oPair1 l, oPair2 l, oPair3 l, [.str last], [.str [44]], [.int .i64 0]], tkR encP l, []⟩)
      else ∃ H', lim cfg (.fn 101) [.func 109 [.ptr 0 0, .ptr 3 0, .ptr 1 0, .ptr 2 0]] ⟨[oPair0 s [], oPair1 [], oPair2 [], oPair3 []], [], []⟩ = some (.ret (.int .i64 (ck l)), H') := by
  obtain ⟨v0, H0, h0, hn0⟩ := seq0Pair s
  have hd : Does cfg (.call (.c (.func 103 [])) [.c (.str s), .c (.str [44])]) ⟨[oPair0 s [], oPair1 [], oPair2 [], oPair3 []], [], []⟩ (.func 136 [.ptr 5 0, .ptr 4 0, .ptr 6 0]) ⟨[oPair0 s [], oPair1 [], oPair2 [], oPair3 [], [.str s], [.str [44]], [.int .i64 0]], [], []⟩ :=
    does_callN h0 hn0 (seq1Pair s s) rfl rfl
  have clo : ∀ R, (∀ T (hT : Has T [(0, .ptr 0 0), (1, .ptr 3 0), (2, .ptr 1 0), (3, .ptr 2 0), (6, .func 136 [.ptr 5 0, .ptr 4 0, .ptr 6 0])]), Goes cfg a109 kr109_0 T ⟨[oPair0 s [], oPair1 [], oPair2 [], oPair3 [], [.str s], [.str [44]], [.int .i64 0]], [], []⟩ R) →
      ∃ r, lim cfg (.fn 109) [.ptr 0 0, .ptr 3 0, .ptr 1 0, .ptr 2 0] ⟨[oPair0 s [], oPair1 [], oPair2 [], oPair3 []], [], []⟩ = some r ∧ R r := by
    intro R h
    rw [l109]
    have key : Goes cfg a109 [.c c109] (initEnv [.ptr 0 0, .ptr 3 0, .ptr 1 0, .ptr 2 0]) ⟨[oPair0 s [], oPair1 [], oPair2 [], oPair3 []], [], []⟩ R := by
      exact goG 60 []  trivial  (.effY (show Does cfg (AOp.call (Opd.c (AV.func (103 : FuncId) [])) [Opd.c (AV.str s), Opd.c (AV.str [(44 : UInt8)])]) { boxes := [oPair0 s [], oPair1 [], oPair2 [], oPair3 []], toks := [], loops := [] : Heap } (AV.func (136 : FuncId) [AV.ptr (5 : Nat) (0 : Nat), AV.ptr (4 : Nat) (0 : Nat), AV.ptr (6 : Nat) (0 : Nat)]) { boxes := [oPair0 s [], oPair1 [], oPair2 [], oPair3 [], [AV.str s], [AV.str [(44 : UInt8)]], [AV.int IntKind.i64 (0 : Int)]], toks := [], loops := [] : Heap } from hd) <| .cutQ kr109_0 [(0, AV.ptr (0 : Nat) (0 : Nat)), (1, AV.ptr (3 : Nat) (0 : Nat)), (2, AV.ptr (1 : Nat) (0 : Nat)), (3, AV.ptr (2 : Nat) (0 : Nat)), (6, AV.func (136 : Nat) [AV.ptr (5 : Nat) (0 : Nat), AV.ptr (4 : Nat) (0 : Nat), AV.ptr (6 : Nat) (0 : Nat)])] ({ boxes := [[AV.str s], [AV.func (89 : Nat) []], [AV.func (90 : Nat) []], [AV.sl SK.full []], [AV.str s], [AV.str [(44 : UInt8)]], [AV.int IntKind.i64 (0 : Int)]], toks := [], loops := [] : Heap }) (fun T hT => (h T hT))) (by kernel_rfl)
    exact key
  cases hf : foldE (collect pf) [] (parts 44 s) with
  | none =>
    obtain ⟨r, h1, h2⟩ := clo (fun r => r.1 = .pan (stopV 2)) (fun T hT => by
      obtain ⟨H', e⟩ := (rgPair s pf hp hpn s hl T hT).2 hf
      exact ⟨_, e, rfl⟩)
    obtain ⟨x, H'⟩ := r
    simp only at h2
    subst h2
    exact ⟨H', by rw [lim_try rfl, h1]; rfl⟩
  | some l =>
    simp only
    have hg := hck l
    by_cases hc : ck l = 0
    · rw [if_pos hc]
      rw [hc] at hg
      obtain ⟨r, h1, h2⟩ := clo (fun r => ∃ last, r = (.ret (.tuple []), ⟨[oPair0 s l, oPair1 l, oPair2 l, oPair3 l, [.str last], [.str [44]], [.int .i64 0]], tkR encP l, []⟩)) (fun T hT => by
        obtain ⟨last, e⟩ := (rgPair s pf hp hpn s hl T hT).1 l hf
        have key : Goes cfg a109 kr109_0.tail T ⟨[oPair0 s l, oPair1 l, oPair2 l, oPair3 l, [.str last], [.str [44]], [.int .i64 0]], tkR encP l, []⟩ (fun r => r = (.ret (.tuple []), ⟨[oPair0 s l, oPair1 l, oPair2 l, oPair3 l, [.str last], [.str [44]], [.int .i64 0]], tkR encP l, []⟩)) := by
          exact goG 60 _  hT  (.callG ([AV.sl (skF l) (List.map encP l)]) (AV.int IntKind.i64 (0 : Int)) (show Gives cfg (90 : FuncId) [AV.sl SK.sh (List.map encP l)] (AV.int IntKind.i64 (0 : Int)) from hg) Shuts.p ⟨rfl, rfl⟩ <| .callG ([AV.int IntKind.i64 (0 : Int)]) (AV.tuple []) (show Gives cfg (76 : FuncId) [AV.int IntKind.i64 (0 : Int)] (AV.tuple []) from stop_ok) ⟨rfl, rfl⟩ ⟨rfl, rfl⟩ <| .fin ((ARes.ret (AV.tuple []), { boxes := [[AV.str s], [AV.func (89 : Nat) []], [AV.func (90 : Nat) []], [AV.sl (skF l) (List.map encP l)], [AV.str last], [AV.str [(44 : UInt8)]], [AV.int IntKind.i64 (0 : Int)]], toks := tkR encP l, loops := [] : Heap })) rfl) (by kernel_rfl)
        obtain ⟨r, k1, k2⟩ := key
        exact ⟨r, e.trans k1, last, k2⟩)
      obtain ⟨last, rfl⟩ := h2
      exact ⟨last, by rw [lim_try rfl, h1]; rfl⟩
    · rw [if_neg hc]
      obtain ⟨r, h1, h2⟩ := clo (fun r => r.1 = .pan (stopV (ck l))) (fun T hT => by
        obtain ⟨last, e⟩ := (rgPair s pf hp hpn s hl T hT).1 l hf
        have hst := stop_pan hc
        have key : Goes cfg a109 kr109_0.tail T ⟨[oPair0 s l, oPair1 l, oPair2 l, oPair3 l, [.str last], [.str [44]], [.int .i64 0]], tkR encP l, []⟩ (fun r => r.1 = .pan (stopV (ck l))) := by
          exact goG 60 _  hT  (.callG ([AV.sl (skF l) (List.map encP l)]) (AV.int IntKind.i64 (ck l)) (show Gives cfg (90 : FuncId) [AV.sl SK.sh (List.map encP l)] (AV.int IntKind.i64 (ck l)) from hg) Shuts.p ⟨rfl, rfl⟩ <| .callP ([AV.int IntKind.i64 (ck l)]) ({ boxes := [[AV.str s], [AV.func (89 : Nat) []], [AV.func (90 : Nat) []], [AV.sl (skF l) (List.map encP l)], [AV.str last], [AV.str [(44 : UInt8)]], [AV.int IntKind.i64 (0 : Int)]], toks := tkR encP l, loops := [] : Heap }) (show Pans cfg (76 : FuncId) [AV.int IntKind.i64 (ck l)] (stopV (ck l)) from hst) ⟨rfl, rfl⟩ rfl rfl) (by kernel_rfl)
        obtain ⟨r, k1, k2⟩ := key
        exact ⟨r, e.trans k1, k2⟩)
      obtain ⟨x, H'⟩ := r
      simp only at h2
      subst h2
      exact ⟨H', by rw [lim_try rfl, h1]; rfl⟩
theorem partsPair (pf : List UInt8 → Option Pair) (ck : List Pair → Int) (hp : ∀ p x, p.length ≤ 1000 → pf p = some x → Gives cfg 89 [.str p] (encP x)) (hpn : ∀ p, p.length ≤ 1000 → p ≠ [] → pf p = none → Pans cfg 89 [.str p] (stopV 2))
    (hck : ∀ l : List Pair, Gives cfg 90 [.sl .sh (l.map encP)] (.int .i64 (ck l))) (s : List UInt8) (hl : s.length ≤ 1000) :
    Gives cfg 88 [.str s, .func 89 [], .func 90 []] (.tuple [rowF encP (parsed pf ck s).1, .int .i64 (parsed pf ck s).2]) := by
  refine Gives.run (l88 _ _) ?_
  by_cases hs : s = [45]
  · subst hs
    exact goG 60 []  trivial  (.tt <| .fin ((ARes.ret (AV.tuple [AV.sl SK.full [], AV.int IntKind.i64 (0 : Int)]), { boxes := [[AV.str [(45 : UInt8)]], [AV.func (89 : Nat) []], [AV.func (90 : Nat) []]], toks := [], loops := [] : Heap })) rfl) (by kernel_rfl)
  · have ht := tryPair pf ck hp hpn hck s hl
    simp only [parsed, if_neg hs]
    cases hf : foldE (collect pf) [] (parts 44 s) with
    | none =>
      simp only [hf] at ht ⊢
      obtain ⟨H', ht⟩ := ht
      have hd := does_callE (xs := [.func 109 [.ptr 0 0, .ptr 3 0, .ptr 1 0, .ptr 2 0]]) (caps := []) ht rfl rfl
      generalize trunc _ _ _ H' = H2 at hd
      exact goG 60 []  trivial  (.no (show (s == [(45 : UInt8)]) = false from Bool.eq_false_iff.2 (show ¬ ((s == [(45 : UInt8)]) = true) from (by simpa using hs))) <| .effY (show Does cfg (AOp.call (Opd.c (AV.func (101 : FuncId) [])) (List.map Opd.c [AV.func (109 : FuncId) [AV.ptr (0 : Nat) (0 : Nat), AV.ptr (3 : Nat) (0 : Nat), AV.ptr (1 : Nat) (0 : Nat), AV.ptr (2 : Nat) (0 : Nat)]])) { boxes := [oPair0 s [], oPair1 [], oPair2 [], oPair3 []], toks := [], loops := [] : Heap } (shutA (AV.int IntKind.i64 (2 : Int))) H2 from hd) <| .tt <| .fin ((ARes.ret (AV.tuple [AV.sl SK.full [], AV.int IntKind.i64 (2 : Int)]), H2)) rfl) (by kernel_rfl)
    | some l =>
      simp only [hf] at ht ⊢
      by_cases hc : ck l = 0
      · rw [if_pos hc] at ht
        simp only [if_pos hc]
        obtain ⟨last, ht⟩ := ht
        have hd : Does cfg (.call (.c (.func 101 [])) [.c (.func 109 [.ptr 0 0, .ptr 3 0, .ptr 1 0, .ptr 2 0])]) ⟨[oPair0 s [], oPair1 [], oPair2 [], oPair3 []], [], []⟩ (.int .i64 0) ⟨[oPair0 s l, oPair1 l, oPair2 l, oPair3 l], tkR encP l, []⟩ := by
          have hd := does_callE (xs := [.func 109 [.ptr 0 0, .ptr 3 0, .ptr 1 0, .ptr 2 0]]) (caps := []) ht rfl rfl
          refine Eq.mp ?_ hd
          congr 1
          cases l <;> rfl
        exact goG 60 []  trivial  (.no (show (s == [(45 : UInt8)]) = false from Bool.eq_false_iff.2 (show ¬ ((s == [(45 : UInt8)]) = true) from (by simpa using hs))) <| .effY (show Does cfg (AOp.call (Opd.c (AV.func (101 : FuncId) [])) [Opd.c (AV.func (109 : FuncId) [AV.ptr (0 : Nat) (0 : Nat), AV.ptr (3 : Nat) (0 : Nat), AV.ptr (1 : Nat) (0 : Nat), AV.ptr (2 : Nat) (0 : Nat)])]) { boxes := [oPair0 s [], oPair1 [], oPair2 [], oPair3 []], toks := [], loops := [] : Heap } (AV.int IntKind.i64 (0 : Int)) { boxes := [oPair0 s l, oPair1 l, oPair2 l, oPair3 l], toks := tkR encP l, loops := [] : Heap } from hd) <| .ff <| .fin ((ARes.ret (AV.tuple [AV.sl (skF l) (List.map encP l), AV.int IntKind.i64 (0 : Int)]), { boxes := [[AV.str s], [AV.func (89 : Nat) []], [AV.func (90 : Nat) []], [AV.sl (skF l) (List.map encP l)]], toks := tkR encP l, loops := [] : Heap })) rfl) (by kernel_rfl)
      · rw [if_neg hc] at ht
        simp only [if_neg hc]
        obtain ⟨H', ht⟩ := ht
        have hd := does_callE (xs := [.func 109 [.ptr 0 0, .ptr 3 0, .ptr 1 0, .ptr 2 0]]) (caps := []) ht rfl rfl
        generalize trunc _ _ _ H' = H2 at hd
        exact goG 60 []  trivial  (.no (show (s == [(45 : UInt8)]) = false from Bool.eq_false_iff.2 (show ¬ ((s == [(45 : UInt8)]) = true) from (by simpa using hs))) <| .effY (show Does cfg (AOp.call (Opd.c (AV.func (101 : FuncId) [])) (List.map Opd.c [AV.func (109 : FuncId) [AV.ptr (0 : Nat) (0 : Nat), AV.ptr (3 : Nat) (0 : Nat), AV.ptr (1 : Nat) (0 : Nat), AV.ptr (2 : Nat) (0 : Nat)]])) { boxes := [oPair0 s [], oPair1 [], oPair2 [], oPair3 []], toks := [], loops := [] : Heap } (shutA (AV.int IntKind.i64 (ck l))) H2 from hd) <| .yes (show (ck l != (0 : Int)) = true from (by simpa using hc)) <| .fin ((ARes.ret (AV.tuple [AV.sl SK.full [], AV.int IntKind.i64 (ck l)]), H2)) rfl) (by kernel_rfl)

section
variable (s0 : List UInt8)
def oTerm0 (_ : List Term) : List AV := [.str s0]
def oTerm1 (_ : List Term) : List AV := [.func 92 []]
def oTerm2 (_ : List Term) : List AV := [.func 95 []]
def oTerm3 (acc : List Term) : List AV := [rowF encM acc]
theorem trTerm (rc : LRec) (h1 : rc.nb = 7) (h2 : rc.nt = 0) (acc : List Term) (rest : List UInt8) (n : Nat) (hn : n ≤ 1) (h0 : n = 1 → acc ≠ []) (v : AV) (hv : within 7 n v = true) :
    trunc 7 n v ⟨[oTerm0 s0 acc, oTerm1 acc, oTerm2 acc, oTerm3 acc, [.str rest], [.str [44]], [.int .i64 0]], tkR encM acc, [rc]⟩ = ⟨[oTerm0 s0 acc, oTerm1 acc, oTerm2 acc, oTerm3 acc, [.str rest], [.str [44]], [.int .i64 0]], tkR encM acc, [rc]⟩ := by
  have hb : ∀ (b : Bool) (l : List (List AV)), l.length = 7 → (if b = true then l.take 7 else l) = l := fun b l hl => by
    split
    · exact List.take_of_length_le (by omega)
    · rfl
  unfold trunc
  simp only
  rw [hb _ _ rfl]
  simp only [Heap.mk.injEq, true_and, and_true]
  cases acc with
  | nil => simp [tk_nil]
  | cons x l =>
    rw [tk_cons]
    rcases Nat.lt_or_ge n 1 with h | h
    · have : n = 0 := by omega
      subst this
      have hf : (([oTerm0 s0 (x :: l), oTerm1 (x :: l), oTerm2 (x :: l), oTerm3 (x :: l), [.str rest], [.str [44]], [.int .i64 0]] : List (List AV)).all fun x_1 => x_1.all (in2 ([oTerm0 s0 (x :: l), oTerm1 (x :: l), oTerm2 (x :: l), oTerm3 (x :: l), [.str rest], [.str [44]], [.int .i64 0]] : List (List AV)).length 0)) = false := rfl
      rw [hf]
      simp
    · have : n = 1 := by omega
      subst this
      split <;> rfl
theorem ylTerm (pf : List UInt8 → Option Term) (rc : LRec) (T0 : Env) (hA : rc.A = a110) (hT0 : rc.T = T0) (hps : rc.ps = [7]) (has : rc.assign = ra110_0) (hbd : rc.body = rb110_0) (hbu : rc.busy = false) (h1 : rc.nb = 7) (h2 : rc.nt = 0) (hT : Has T0 [(1, .ptr 3 0), (2, .ptr 1 0)])
    (hp : ∀ p x, p.length ≤ 1000 → pf p = some x → Gives cfg 92 [.str p] (encM x)) (acc : List Term) (p rest : List UInt8) (acc' : List Term) (hl : p.length ≤ 1000) (hacc : acc.length ≤ 100000) (hf : collect pf acc p = some acc') :
    Does cfg (.call (.c (.yield 0)) [.c (.str p)]) (hS (oTerm0 s0) oTerm1 oTerm2 oTerm3 (tkR encM) rc acc rest) (.bool true) (hS (oTerm0 s0) oTerm1 oTerm2 oTerm3 (tkR encM) rc acc' rest) := by
  unfold collect at hf
  split at hf
  · cases hf
  rename_i hne
  simp only [Option.map_eq_some_iff] at hf
  obtain ⟨x, hx, rfl⟩ := hf
  have hg := hp p x hl hx
  have key : Goes cfg roundA [.c rb110_0] (upd (psetA T0 [7] [.str p]) 4 (.str p)) (hB (oTerm0 s0) oTerm1 oTerm2 oTerm3 (tkR encM) rc acc rest) (fun r => r = (.ret (.tuple []), hB (oTerm0 s0) oTerm1 oTerm2 oTerm3 (tkR encM) rc (acc ++ [x]) rest)) := by
    have hT' : Has (upd (psetA T0 [7] [.str p]) 4 (.str p)) [(1, .ptr 3 0), (2, .ptr 1 0), (4, .str p)] := ⟨hT.1, hT.2.1, rfl, trivial⟩
    exact goG 60 _  hT'  (.no (show (p == []) = false from Bool.eq_false_iff.2 (show ¬ ((p == []) = true) from (by simpa using hne))) <| .callG ([AV.str p]) (AV.agg [AV.int IntKind.i64 x.op, AV.str x.key, AV.str x.val]) (show Gives cfg (92 : FuncId) [AV.str p] (encM x) from hg) ⟨rfl, rfl⟩ ⟨rfl, rfl⟩ <| .append (show appendA (3 : Nat) (40 : Nat) { boxes := [[AV.str s0], [AV.func (92 : Nat) []], [AV.func (95 : Nat) []], [AV.sl (skF acc) (List.map encM acc)], [AV.str rest], [AV.str [(44 : UInt8)]], [AV.int IntKind.i64 (0 : Int)]], toks := tkR encM acc, loops := [{ A := rc.A, T := rc.T, ps := rc.ps, assign := rc.assign, body := rc.body, busy := true, nb := rc.nb, nt := rc.nt, nl := rc.nl : LRec }] : Heap } (AV.sl (skF acc) (List.map encM acc)) (AV.sl SK.full [AV.agg [AV.int IntKind.i64 x.op, AV.str x.key, AV.str x.val]]) = some ((rowF encM (acc ++ [x]), { boxes := [[AV.str s0], [AV.func (92 : Nat) []], [AV.func (95 : Nat) []], [AV.sl (skF acc) (List.map encM acc)], [AV.str rest], [AV.str [(44 : UInt8)]], [AV.int IntKind.i64 (0 : Int)]], toks := tkR encM (acc ++ [x]), loops := [{ A := rc.A, T := rc.T, ps := rc.ps, assign := rc.assign, body := rc.body, busy := true, nb := rc.nb, nt := rc.nt, nl := rc.nl : LRec }] : Heap })) from row_append_T _ (by simp; omega) (by exact lenM) (by rfl) (by rfl)) <| .fin ((ARes.ret (AV.tuple []), { boxes := [[AV.str s0], [AV.func (92 : Nat) []], [AV.func (95 : Nat) []], [AV.sl (skF (acc ++ [x])) (List.map encM (acc ++ [x]))], [AV.str rest], [AV.str [(44 : UInt8)]], [AV.int IntKind.i64 (0 : Int)]], toks := tkR encM (acc ++ [x]), loops := [{ A := rc.A, T := rc.T, ps := rc.ps, assign := rc.assign, body := rc.body, busy := true, nb := rc.nb, nt := rc.nt, nl := rc.nl : LRec }] : Heap })) rfl) (by kernel_rfl)
  obtain ⟨r, hr, rfl⟩ := key
  have hrun : runL cfg roundA [.c rc.assign, .beg 0, .c rc.body] (psetA rc.T rc.ps [.str p]) (hS (oTerm0 s0) oTerm1 oTerm2 oTerm3 (tkR encM) rc acc rest) = some (.ret (.tuple []), hB (oTerm0 s0) oTerm1 oTerm2 oTerm3 (tkR encM) rc (acc ++ [x]) rest) := by
    rw [hT0, hps, has, hbd]
    rw [show (ra110_0 : ACode) = .region [⟨some 4, .mov (.t 7), none, []⟩] false from rfl, runL_assign, runL_beg (r := rc) rfl hbu]
    exact hr
  have h3 := yl_ret (cfg := cfg) (l := 0) (args := [.str p]) (r := rc) (r' := { rc with busy := true }) rfl (by rw [hps]; rfl) hrun rfl
  have e1 : ({ ({ rc with busy := true } : LRec) with busy := false } : LRec) = rc := by cases rc; simp only at hbu; subst hbu; rfl
  have h4 := does_yield h3 rfl
  refine Eq.mp ?_ h4
  congr 1
  show trunc 7 (tkR encM acc).length (.bool true) ⟨[oTerm0 s0 (acc ++ [x]), oTerm1 (acc ++ [x]), oTerm2 (acc ++ [x]), oTerm3 (acc ++ [x]), [.str rest], [.str [44]], [.int .i64 0]], tkR encM (acc ++ [x]), [{ ({ rc with busy := true } : LRec) with busy := false }]⟩ = _
  rw [e1]
  refine trTerm s0 rc h1 h2 _ rest _ ?_ (fun _ => by simp) _ rfl
  cases acc with
  | nil => simp [tk_nil]
  | cons y l => simp [tk_cons]
theorem ynTerm (pf : List UInt8 → Option Term) (rc : LRec) (T0 : Env) (hA : rc.A = a110) (hT0 : rc.T = T0) (hps : rc.ps = [7]) (has : rc.assign = ra110_0) (hbd : rc.body = rb110_0) (hbu : rc.busy = false) (h1 : rc.nb = 7) (h2 : rc.nt = 0) (hT : Has T0 [(1, .ptr 3 0), (2, .ptr 1 0)])
    (hp : ∀ p, p.length ≤ 1000 → p ≠ [] → pf p = none → Pans cfg 92 [.str p] (stopV 2)) (acc : List Term) (p rest : List UInt8) (hl : p.length ≤ 1000) (hf : collect pf acc p = none) :
    DoesP cfg (.call (.c (.yield 0)) [.c (.str p)]) (hS (oTerm0 s0) oTerm1 oTerm2 oTerm3 (tkR encM) rc acc rest) (stopV 2) (hB (oTerm0 s0) oTerm1 oTerm2 oTerm3 (tkR encM) rc acc rest) := by
  have key : Goes cfg roundA [.c rb110_0] (upd (psetA T0 [7] [.str p]) 4 (.str p)) (hB (oTerm0 s0) oTerm1 oTerm2 oTerm3 (tkR encM) rc acc rest) (fun r => r = (.pan (stopV 2), hB (oTerm0 s0) oTerm1 oTerm2 oTerm3 (tkR encM) rc acc rest)) := by
    have hT' : Has (upd (psetA T0 [7] [.str p]) 4 (.str p)) [(1, .ptr 3 0), (2, .ptr 1 0), (4, .str p)] := ⟨hT.1, hT.2.1, rfl, trivial⟩
    by_cases hne : p = []
    · subst hne
      have hs : Pans cfg 76 [.int .i64 2] (stopV 2) := stop_pan (by decide)
      exact goG 60 _  hT'  (.tt <| .callP ([AV.int IntKind.i64 (2 : Int)]) ({ boxes := [[AV.str s0], [AV.func (92 : Nat) []], [AV.func (95 : Nat) []], [AV.sl (skF acc) (List.map encM acc)], [AV.str rest], [AV.str [(44 : UInt8)]], [AV.int IntKind.i64 (0 : Int)]], toks := tkR encM acc, loops := [{ A := rc.A, T := rc.T, ps := rc.ps, assign := rc.assign, body := rc.body, busy := true, nb := rc.nb, nt := rc.nt, nl := rc.nl : LRec }] : Heap }) (show Pans cfg (76 : FuncId) [AV.int IntKind.i64 (2 : Int)] (stopV (2 : Int)) from hs) ⟨rfl, rfl⟩ rfl rfl) (by kernel_rfl)
    · have hx : pf p = none := by
        unfold collect at hf
        rw [if_neg hne] at hf
        simpa using hf
      have hg := hp p hl hne hx
      exact goG 60 _  hT'  (.no (show (p == []) = false from Bool.eq_false_iff.2 (show ¬ ((p == []) = true) from (by simpa using hne))) <| .callP ([AV.str p]) ({ boxes := [[AV.str s0], [AV.func (92 : Nat) []], [AV.func (95 : Nat) []], [AV.sl (skF acc) (List.map encM acc)], [AV.str rest], [AV.str [(44 : UInt8)]], [AV.int IntKind.i64 (0 : Int)]], toks := tkR encM acc, loops := [{ A := rc.A, T := rc.T, ps := rc.ps, assign := rc.assign, body := rc.body, busy := true, nb := rc.nb, nt := rc.nt, nl := rc.nl : LRec }] : Heap }) (show Pans cfg (92 : FuncId) [AV.str p] (stopV (2 : Int)) from hg) ⟨rfl, rfl⟩ rfl rfl) (by kernel_rfl)
  obtain ⟨r, hr, rfl⟩ := key
  have hrun : runL cfg roundA [.c rc.assign, .beg 0, .c rc.body] (psetA rc.T rc.ps [.str p]) (hS (oTerm0 s0) oTerm1 oTerm2 oTerm3 (tkR encM) rc acc rest) = some (.pan (stopV 2), hB (oTerm0 s0) oTerm1 oTerm2 oTerm3 (tkR encM) rc acc rest) := by
    rw [hT0, hps, has, hbd]
    rw [show (ra110_0 : ACode) = .region [⟨some 4, .mov (.t 7), none, []⟩] false from rfl, runL_assign, runL_beg (r := rc) rfl hbu]
    exact hr
  have h3 := yl_pan (cfg := cfg) (l := 0) (args := [.str p]) (r := rc) rfl (by rw [hps]; rfl) hrun
  have h4 := does_yieldP h3 rfl
  refine Eq.mp ?_ h4
  congr 1
  refine trTerm s0 { rc with busy := true } h1 h2 _ rest _ ?_ (fun h => ?_) _ rfl
  · show (tkR encM acc).length ≤ 1
    cases acc with
    | nil => simp [tk_nil]
    | cons y l => simp [tk_cons]
  · rintro rfl
    change (tkR encM []).length = 1 at h
    simp [tk_nil] at h
theorem inTerm (acc : List Term) (rest : List UInt8) : ([oTerm0 s0 acc, oTerm1 acc, oTerm2 acc, oTerm3 acc, [.str rest], [.str [44]], [.int .i64 0]] : List (List AV)).all (fun b => b.all (in2 7 (tkR encM acc).length)) = true := by
  cases acc with
  | nil => rfl
  | cons x l => rw [tk_cons]; rfl
theorem rgTerm (pf : List UInt8 → Option Term) (hp : ∀ p x, p.length ≤ 1000 → pf p = some x → Gives cfg 92 [.str p] (encM x)) (hpn : ∀ p, p.length ≤ 1000 → p ≠ [] → pf p = none → Pans cfg 92 [.str p] (stopV 2))
    (s : List UInt8) (hl : s.length ≤ 1000) (T : Env) (hT : Has T [(0, .ptr 0 0), (1, .ptr 3 0), (2, .ptr 1 0), (3, .ptr 2 0), (6, .func 136 [.ptr 5 0, .ptr 4 0, .ptr 6 0])]) :
    (∀ l, foldE (collect pf) [] (parts 44 s) = some l → ∃ last, runL cfg a110 kr110_0 T ⟨[oTerm0 s0 [], oTerm1 [], oTerm2 [], oTerm3 [], [.str s], [.str [44]], [.int .i64 0]], [], []⟩ = runL cfg a110 kr110_0.tail T ⟨[oTerm0 s0 l, oTerm1 l, oTerm2 l, oTerm3 l, [.str last], [.str [44]], [.int .i64 0]], tkR encM l, []⟩) ∧
    (foldE (collect pf) [] (parts 44 s) = none → ∃ H', runL cfg a110 kr110_0 T ⟨[oTerm0 s0 [], oTerm1 [], oTerm2 [], oTerm3 [], [.str s], [.str [44]], [.int .i64 0]], [], []⟩ = some (.pan (stopV 2), H')) := by
  let rc : LRec := ⟨a110, T, [7], ra110_0, rb110_0, false, 7, 0, 0⟩
  have hT12 : Has T [(1, .ptr 3 0), (2, .ptr 1 0)] := ⟨hT.2.1, hT.2.2.1, trivial⟩
  obtain ⟨r, hr, hs⟩ := seq_call (oTerm0 s0) oTerm1 oTerm2 oTerm3 (tkR encM) rc (stopV 2) (fun acc m => acc.length + m ≤ 2000) (collect pf)
    (fun a x a' m h hc => by
      unfold collect at hc
      split at hc
      · cases hc
      · simp only [Option.map_eq_some_iff] at hc
        obtain ⟨y, -, rfl⟩ := hc
        simp only [List.length_append, List.length_cons, List.length_nil]
        omega)
    (fun a p rest a' h1 h2 h3 => ylTerm s0 pf rc T rfl rfl rfl rfl rfl rfl rfl rfl hT12 hp a p rest a' h1 (by omega) h3)
    (fun a p rest h1 h2 h3 => ynTerm s0 pf rc T rfl rfl rfl rfl rfl rfl rfl rfl hT12 hpn a p rest h1 h3)
    s hl [] (by simp; omega)
  have hfv : ev T (.t 6) = .func 136 [.ptr 5 0, .ptr 4 0, .ptr 6 0] := hT.2.2.2.2.1
  have hcall : callV (lim cfg) (.func 136 [.ptr 5 0, .ptr 4 0, .ptr 6 0]) [.yield 0] (hS (oTerm0 s0) oTerm1 oTerm2 oTerm3 (tkR encM) rc [] s) = callE (lim cfg) 136 [.yield 0, .ptr 5 0, .ptr 4 0, .ptr 6 0] (hS (oTerm0 s0) oTerm1 oTerm2 oTerm3 (tkR encM) rc [] s) := by
    rw [callV_func]; rfl
  constructor
  · intro l hf
    simp only [SeqR, hf] at hs
    obtain ⟨last, rfl⟩ := hs
    refine ⟨last, ?_⟩
    have h1 : callV (lim cfg) (.func 136 [.ptr 5 0, .ptr 4 0, .ptr 6 0]) [.yield 0] (hS (oTerm0 s0) oTerm1 oTerm2 oTerm3 (tkR encM) rc [] s) = some (.val (.tuple []) (hS (oTerm0 s0) oTerm1 oTerm2 oTerm3 (tkR encM) rc l last)) := by
      rw [hcall]
      simp only [callE, hr]
      congr 2
      exact trTerm s0 rc rfl rfl l last 0 (by omega) (by intro h; cases h) (.tuple []) rfl
    have h2 : dropL 0 (hS (oTerm0 s0) oTerm1 oTerm2 oTerm3 (tkR encM) rc l last) = some ⟨[oTerm0 s0 l, oTerm1 l, oTerm2 l, oTerm3 l, [.str last], [.str [44]], [.int .i64 0]], tkR encM l, []⟩ := by
      exact dropL_of (r := rc) rfl rfl rfl (inTerm s0 l last)
    have h3 := rangeA_val (call := lim cfg) (A := a110) (T := T) (ps := [7]) (a := ra110_0) (b := rb110_0) (H := ⟨[oTerm0 s0 [], oTerm1 [], oTerm2 [], oTerm3 [], [.str s], [.str [44]], [.int .i64 0]], [], []⟩) h1 h2
    rw [← hfv] at h3
    exact runL_range rfl h3
  · intro hf
    simp only [SeqR, hf] at hs
    obtain ⟨a', last, rfl⟩ := hs
    have h1 : callV (lim cfg) (.func 136 [.ptr 5 0, .ptr 4 0, .ptr 6 0]) [.yield 0] (hS (oTerm0 s0) oTerm1 oTerm2 oTerm3 (tkR encM) rc [] s) = some (.pan (stopV 2) (hB (oTerm0 s0) oTerm1 oTerm2 oTerm3 (tkR encM) rc a' last)) := by
      rw [hcall]
      simp only [callE, hr]
      congr 2
      exact trTerm s0 { rc with busy := true } rfl rfl a' last 0 (by omega) (by intro h; cases h) (stopV 2) rfl
    have h2 : dropP 0 (hB (oTerm0 s0) oTerm1 oTerm2 oTerm3 (tkR encM) rc a' last) = some ⟨[oTerm0 s0 a', oTerm1 a', oTerm2 a', oTerm3 a', [.str last], [.str [44]], [.int .i64 0]], tkR encM a', []⟩ := by
      exact dropP_of (Nat.lt_add_one 0) rfl (inTerm s0 a' last)
    have h3 := rangeA_pan (call := lim cfg) (A := a110) (T := T) (ps := [7]) (a := ra110_0) (b := rb110_0) (H := ⟨[oTerm0 s0 [], oTerm1 [], oTerm2 [], oTerm3 [], [.str s], [.str [44]], [.int .i64 0]], [], []⟩) h1 rfl h2
    rw [← hfv] at h3
    exact ⟨_, runL_rangeP rfl h3⟩
end
theorem seq0Term (s : List UInt8) : ∃ v0 H0, lim cfg (.fn 103) [.str s, .str [44]] Heap.nil = some (.ret v0, H0) ∧ isData (shutA v0) = false := by
  have h1 : lim cfg (.fn 124) [.str s, .str [44], .int .i64 0] Heap.nil = some (.ret (.func 136 [.ptr 1 0, .ptr 0 0, .ptr 2 0]), ⟨[[.str s], [.str [44]], [.int .i64 0]], [], []⟩) := by
    rw [l124]
    exact go 60 []  trivial  (.fin ((ARes.ret (AV.func (136 : Nat) [AV.ptr (1 : Nat) (0 : Nat), AV.ptr (0 : Nat) (0 : Nat), AV.ptr (2 : Nat) (0 : Nat)]), { boxes := [[AV.str s], [AV.str [(44 : UInt8)]], [AV.int IntKind.i64 (0 : Int)]], toks := [], loops := [] : Heap })) rfl) (by kernel_rfl)
  have hd : Does cfg (.call (.c (.func 124 [])) [.c (.str s), .c (.str [44]), .c (.int .i64 0)]) Heap.nil (.func 136 [.ptr 1 0, .ptr 0 0, .ptr 2 0]) ⟨[[.str s], [.str [44]], [.int .i64 0]], [], []⟩ :=
    does_callN h1 rfl h1 rfl rfl
  refine ⟨.func 136 [.ptr 1 0, .ptr 0 0, .ptr 2 0], ⟨[[.str s], [.str [44]], [.int .i64 0]], [], []⟩, ?_, rfl⟩
  rw [l103]
  exact go 60 []  trivial  (.effY (show Does cfg (AOp.call (Opd.c (AV.func (124 : FuncId) [])) [Opd.c (AV.str s), Opd.c (AV.str [(44 : UInt8)]), Opd.c (AV.int IntKind.i64 (0 : Int))]) Heap.nil (AV.func (136 : FuncId) [AV.ptr (1 : Nat) (0 : Nat), AV.ptr (0 : Nat) (0 : Nat), AV.ptr (2 : Nat) (0 : Nat)]) { boxes := [[AV.str s], [AV.str [(44 : UInt8)]], [AV.int IntKind.i64 (0 : Int)]], toks := [], loops := [] : Heap } from hd) <| .fin ((ARes.ret (AV.func (136 : Nat) [AV.ptr (1 : Nat) (0 : Nat), AV.ptr (0 : Nat) (0 : Nat), AV.ptr (2 : Nat) (0 : Nat)]), { boxes := [[AV.str s], [AV.str [(44 : UInt8)]], [AV.int IntKind.i64 (0 : Int)]], toks := [], loops := [] : Heap })) rfl) (by kernel_rfl)
theorem seq1Term (s0 s : List UInt8) : lim cfg (.fn 103) [.str s, .str [44]] ⟨[oTerm0 s0 [], oTerm1 [], oTerm2 [], oTerm3 []], [], []⟩ = some (.ret (.func 136 [.ptr 5 0, .ptr 4 0, .ptr 6 0]), ⟨[oTerm0 s0 [], oTerm1 [], oTerm2 [], oTerm3 [], [.str s], [.str [44]], [.int .i64 0]], [], []⟩) := by
  have h0 : lim cfg (.fn 124) [.str s, .str [44], .int .i64 0] Heap.nil = some (.ret (.func 136 [.ptr 1 0, .ptr 0 0, .ptr 2 0]), ⟨[[.str s], [.str [44]], [.int .i64 0]], [], []⟩) := by
    rw [l124]
    exact go 60 []  trivial  (.fin ((ARes.ret (AV.func (136 : Nat) [AV.ptr (1 : Nat) (0 : Nat), AV.ptr (0 : Nat) (0 : Nat), AV.ptr (2 : Nat) (0 : Nat)]), { boxes := [[AV.str s], [AV.str [(44 : UInt8)]], [AV.int IntKind.i64 (0 : Int)]], toks := [], loops := [] : Heap })) rfl) (by kernel_rfl)
  have h1 : lim cfg (.fn 124) [.str s, .str [44], .int .i64 0] ⟨[oTerm0 s0 [], oTerm1 [], oTerm2 [], oTerm3 []], [], []⟩ = some (.ret (.func 136 [.ptr 5 0, .ptr 4 0, .ptr 6 0]), ⟨[oTerm0 s0 [], oTerm1 [], oTerm2 [], oTerm3 [], [.str s], [.str [44]], [.int .i64 0]], [], []⟩) := by
    rw [l124]
    exact go 60 []  trivial  (.fin ((ARes.ret (AV.func (136 : Nat) [AV.ptr (5 : Nat) (0 : Nat), AV.ptr (4 : Nat) (0 : Nat), AV.ptr (6 : Nat) (0 : Nat)]), { boxes := [[AV.str s0], [AV.func (92 : Nat) []], [AV.func (95 : Nat) []], [AV.sl SK.full []], [AV.str s], [AV.str [(44 : UInt8)]], [AV.int IntKind.i64 (0 : Int)]], toks := [], loops := [] : Heap })) rfl) (by kernel_rfl)
  have hd : Does cfg (.call (.c (.func 124 [])) [.c (.str s), .c (.str [44]), .c (.int .i64 0)]) ⟨[oTerm0 s0 [], oTerm1 [], oTerm2 [], oTerm3 []], [], []⟩ (.func 136 [.ptr 5 0, .ptr 4 0, .ptr 6 0]) ⟨[oTerm0 s0 [], oTerm1 [], oTerm2 [], oTerm3 [], [.str s], [.str [44]], [.int .i64 0]], [], []⟩ :=
    does_callN h0 rfl h1 rfl rfl
  rw [l103]
  exact go 60 []  trivial  (.effY (show Does cfg (AOp.call (Opd.c (AV.func (124 : FuncId) [])) [Opd.c (AV.str s), Opd.c (AV.str [(44 : UInt8)]), Opd.c (AV.int IntKind.i64 (0 : Int))]) { boxes := [oTerm0 s0 [], oTerm1 [], oTerm2 [], oTerm3 []], toks := [], loops := [] : Heap } (AV.func (136 : FuncId) [AV.ptr (5 : Nat) (0 : Nat), AV.ptr (4 : Nat) (0 : Nat), AV.ptr (6 : Nat) (0 : Nat)]) { boxes := [oTerm0 s0 [], oTerm1 [], oTerm2 [], oTerm3 [], [AV.str s], [AV.str [(44 : UInt8)]], [AV.int IntKind.i64 (0 : Int)]], toks := [], loops := [] : Heap } from hd) <| .fin ((ARes.ret (AV.func (136 : Nat) [AV.ptr (5 : Nat) (0 : Nat), AV.ptr (4 : Nat) (0 : Nat), AV.ptr (6 : Nat) (0 : Nat)]), { boxes := [[AV.str s0], [AV.func (92 : Nat) []], [AV.func (95 : Nat) []], [AV.sl SK.full []], [AV.str s], [AV.str [(44 : UInt8)]], [AV.int IntKind.i64 (0 : Int)]], toks := [], loops := [] : Heap })) rfl) (by kernel_rfl)
theorem tryTerm (pf : List UInt8 → Option Term) (ck : List Term → Int) (hp : ∀ p x, p.length ≤ 1000 → pf p = some x → Gives cfg 92 [.str p] (encM x)) (hpn : ∀ p, p.length ≤ 1000 → p ≠ [] → pf p = none → Pans cfg 92 [.str p] (stopV 2))
    (hck : ∀ l : List Term, Gives cfg 95 [.sl .sh (l.map encM)] (.int .i64 (ck l))) (s : List UInt8) (hl : s.length ≤ 1000) :
    match foldE (collect pf) [] (parts 44 s) with
    | none => ∃ H', lim cfg (.fn 101) [.func 110 [.ptr 0 0, .ptr 3 0, .ptr 1 0, .ptr 2 0]] ⟨[oTerm0 s [], oTerm1 [], oTerm2 [], oTerm3 []], [], []⟩ = some (.ret (.int .i64 2), H')
    | some l => if ck l = 0 then ∃ last, lim cfg (.fn 101) [.func 110 [.ptr 0 0, .ptr 3 0, .ptr 1 0, .ptr 2 0]] ⟨[oTerm0 s [], oTerm1 [], oTerm2 [], oTerm3 []], [], []⟩ = some (.ret (.int .i64 0), ⟨[oTerm0 s l, oTerm1 l, oTerm2 l, oTerm3 l, [.str last], [.str [44]], [.int .i64 0]], tkR encM l, []⟩)
      else ∃ H', lim cfg (.fn 101) [.func 110 [.ptr 0 0, .ptr 3 0, .ptr 1 0, .ptr 2 0]] ⟨[oTerm0 s [], oTerm1 [], oTerm2 [], oTerm3 []], [], []⟩ = some (.ret (.int .i64 (ck l)), H') := by
  obtain ⟨v0, H0, h0, hn0⟩ := seq0Term s
  have hd : Does cfg (.call (.c (.func 103 [])) [.c (.str s), .c (.str [44])]) ⟨[oTerm0 s [], oTerm1 [], oTerm2 [], oTerm3 []], [], []⟩ (.func 136 [.ptr 5 0, .ptr 4 0, .ptr 6 0]) ⟨[oTerm0 s [], oTerm1 [], oTerm2 [], oTerm3 [], [.str s], [.str [44]], [.int .i64 0]], [], []⟩ :=
    does_callN h0 hn0 (seq1Term s s) rfl rfl
  have clo : ∀ R, (∀ T (hT : Has T [(0, .ptr 0 0), (1, .ptr 3 0), (2, .ptr 1 0), (3, .ptr 2 0), (6, .func 136 [.ptr 5 0, .ptr 4 0, .ptr 6 0])]), Goes cfg a110 kr110_0 T ⟨[oTerm0 s [], oTerm1 [], oTerm2 [], oTerm3 [], [.str s], [.str [44]], [.int .i64 0]], [], []⟩ R) →
      ∃ r, lim cfg (.fn 110) [.ptr 0 0, .ptr 3 0, .ptr 1 0, .ptr 2 0] ⟨[oTerm0 s [], oTerm1 [], oTerm2 [], oTerm3 []], [], []⟩ = some r ∧ R r := by
    intro R h
    rw [l110]
    have key : Goes cfg a110 [.c c110] (initEnv [.ptr 0 0, .ptr 3 0, .ptr 1 0, .ptr 2 0]) ⟨[oTerm0 s [], oTerm1 [], oTerm2 [], oTerm3 []], [], []⟩ R := by
      exact goG 60 []  trivial  (.effY (show Does cfg (AOp.call (Opd.c (AV.func (103 : FuncId) [])) [Opd.c (AV.str s), Opd.c (AV.str [(44 : UInt8)])]) { boxes := [oTerm0 s [], oTerm1 [], oTerm2 [], oTerm3 []], toks := [], loops := [] : Heap } (AV.func (136 : FuncId) [AV.ptr (5 : Nat) (0 : Nat), AV.ptr (4 : Nat) (0 : Nat), AV.ptr (6 : Nat) (0 : Nat)]) { boxes := [oTerm0 s [], oTerm1 [], oTerm2 [], oTerm3 [], [AV.str s], [AV.str [(44 : UInt8)]], [AV.int IntKind.i64 (0 : Int)]], toks := [], loops := [] : Heap } from hd) <| .cutQ kr110_0 [(0, AV.ptr (0 : Nat) (0 : Nat)), (1, AV.ptr (3 : Nat) (0 : Nat)), (2, AV.ptr (1 : Nat) (0 : Nat)), (3, AV.ptr (2 : Nat) (0 : Nat)), (6, AV.func (136 : Nat) [AV.ptr (5 : Nat) (0 : Nat), AV.ptr (4 : Nat) (0 : Nat), AV.ptr (6 : Nat) (0 : Nat)])] ({ boxes := [[AV.str s], [AV.func (92 : Nat) []], [AV.func (95 : Nat) []], [AV.sl SK.full []], [AV.str s], [AV.str [(44 : UInt8)]], [AV.int IntKind.i64 (0 : Int)]], toks := [], loops := [] : Heap }) (fun T hT => (h T hT))) (by kernel_rfl)
    exact key
  cases hf : foldE (collect pf) [] (parts 44 s) with
  | none =>
    obtain ⟨r, h1, h2⟩ := clo (fun r => r.1 = .pan (stopV 2)) (fun T hT => by
      obtain ⟨H', e⟩ := (rgTerm s pf hp hpn s hl T hT).2 hf
      exact ⟨_, e, rfl⟩)
    obtain ⟨x, H'⟩ := r
    simp only at h2
    subst h2
    exact ⟨H', by rw [lim_try rfl, h1]; rfl⟩
  | some l =>
    simp only
    have hg := hck l
    by_cases hc : ck l = 0
    · rw [if_pos hc]
      rw [hc] at hg
      obtain ⟨r, h1, h2⟩ := clo (fun r => ∃ last, r = (.ret (.tuple []), ⟨[oTerm0 s l, oTerm1 l, oTerm2 l, oTerm3 l, [.str last], [.str [44]], [.int .i64 0]], tkR encM l, []⟩)) (fun T hT => by
        obtain ⟨last, e⟩ := (rgTerm s pf hp hpn s hl T hT).1 l hf
        have key : Goes cfg a110 kr110_0.tail T ⟨[oTerm0 s l, oTerm1 l, oTerm2 l, oTerm3 l, [.str last], [.str [44]], [.int .i64 0]], tkR encM l, []⟩ (fun r => r = (.ret (.tuple []), ⟨[oTerm0 s l, oTerm1 l, oTerm2 l, oTerm3 l, [.str last], [.str [44]], [.int .i64 0]], tkR encM l, []⟩)) := by
          exact goG 60 _  hT  (.callG ([AV.sl (skF l) (List.map encM l)]) (AV.int IntKind.i64 (0 : Int)) (show Gives cfg (95 : FuncId) [AV.sl SK.sh (List.map encM l)] (AV.int IntKind.i64 (0 : Int)) from hg) Shuts.p ⟨rfl, rfl⟩ <| .callG ([AV.int IntKind.i64 (0 : Int)]) (AV.tuple []) (show Gives cfg (76 : FuncId) [AV.int IntKind.i64 (0 : Int)] (AV.tuple []) from stop_ok) ⟨rfl, rfl⟩ ⟨rfl, rfl⟩ <| .fin ((ARes.ret (AV.tuple []), { boxes := [[AV.str s], [AV.func (92 : Nat) []], [AV.func (95 : Nat) []], [AV.sl (skF l) (List.map encM l)], [AV.str last], [AV.str [(44 : UInt8)]], [AV.int IntKind.i64 (0 : Int)]], toks := tkR encM l, loops := [] : Heap })) rfl) (by kernel_rfl)
        obtain ⟨r, k1, k2⟩ := key
        exact ⟨r, e.trans k1, last, k2⟩)
      obtain ⟨last, rfl⟩ := h2
      exact ⟨last, by rw [lim_try rfl, h1]; rfl⟩
    · rw [if_neg hc]
      obtain ⟨r, h1, h2⟩ := clo (fun r => r.1 = .pan (stopV (ck l))) (fun T hT => by
        obtain ⟨last, e⟩ := (rgTerm s pf hp hpn s hl T hT).1 l hf
        have hst := stop_pan hc
        have key : Goes cfg a110 kr110_0.tail T ⟨[oTerm0 s l, oTerm1 l, oTerm2 l, oTerm3 l, [.str last], [.str [44]], [.int .i64 0]], tkR encM l, []⟩ (fun r => r.1 = .pan (stopV (ck l))) := by
          exact goG 60 _  hT  (.callG ([AV.sl (skF l) (List.map encM l)]) (AV.int IntKind.i64 (ck l)) (show Gives cfg (95 : FuncId) [AV.sl SK.sh (List.map encM l)] (AV.int IntKind.i64 (ck l)) from hg) Shuts.p ⟨rfl, rfl⟩ <| .callP ([AV.int IntKind.i64 (ck l)]) ({ boxes := [[AV.str s], [AV.func (92 : Nat) []], [AV.func (95 : Nat) []], [AV.sl (skF l) (List.map encM l)], [AV.str last], [AV.str [(44 : UInt8)]], [AV.int IntKind.i64 (0 : Int)]], toks := tkR encM l, loops := [] : Heap }) (show Pans cfg (76 : FuncId) [AV.int IntKind.i64 (ck l)] (stopV (ck l)) from hst) ⟨rfl, rfl⟩ rfl rfl) (by kernel_rfl)
        obtain ⟨r, k1, k2⟩ := key
        exact ⟨r, e.trans k1, k2⟩)
      obtain ⟨x, H'⟩ := r
      simp only at h2
      subst h2
      exact ⟨H', by rw [lim_try rfl, h1]; rfl⟩
theorem partsTerm (pf : List UInt8 → Option Term) (ck : List Term → Int) (hp : ∀ p x, p.length ≤ 1000 → pf p = some x → Gives cfg 92 [.str p] (encM x)) (hpn : ∀ p, p.length ≤ 1000 → p ≠ [] → pf p = none → Pans cfg 92 [.str p] (stopV 2))
    (hck : ∀ l : List Term, Gives cfg 95 [.sl .sh (l.map encM)] (.int .i64 (ck l))) (s : List UInt8) (hl : s.length ≤ 1000) :
    Gives cfg 91 [.str s, .func 92 [], .func 95 []] (.tuple [rowF encM (parsed pf ck s).1, .int .i64 (parsed pf ck s).2]) := by
  refine Gives.run (l91 _ _) ?_
  by_cases hs : s = [45]
  · subst hs
    exact goG 60 []  trivial  (.tt <| .fin ((ARes.ret (AV.tuple [AV.sl SK.full [], AV.int IntKind.i64 (0 : Int)]), { boxes := [[AV.str [(45 : UInt8)]], [AV.func (92 : Nat) []], [AV.func (95 : Nat) []]], toks := [], loops := [] : Heap })) rfl) (by kernel_rfl)
  · have ht := tryTerm pf ck hp hpn hck s hl
    simp only [parsed, if_neg hs]
    cases hf : foldE (collect pf) [] (parts 44 s) with
    | none =>
      simp only [hf] at ht ⊢
      obtain ⟨H', ht⟩ := ht
      have hd := does_callE (xs := [.func 110 [.ptr 0 0, .ptr 3 0, .ptr 1 0, .ptr 2 0]]) (caps := []) ht rfl rfl
      generalize trunc _ _ _ H' = H2 at hd
      exact goG 60 []  trivial  (.no (show (s == [(45 : UInt8)]) = false from Bool.eq_false_iff.2 (show ¬ ((s == [(45 : UInt8)]) = true) from (by simpa using hs))) <| .effY (show Does cfg (AOp.call (Opd.c (AV.func (101 : FuncId) [])) (List.map Opd.c [AV.func (110 : FuncId) [AV.ptr (0 : Nat) (0 : Nat), AV.ptr (3 : Nat) (0 : Nat), AV.ptr (1 : Nat) (0 : Nat), AV.ptr (2 : Nat) (0 : Nat)]])) { boxes := [oTerm0 s [], oTerm1 [], oTerm2 [], oTerm3 []], toks := [], loops := [] : Heap } (shutA (AV.int IntKind.i64 (2 : Int))) H2 from hd) <| .tt <| .fin ((ARes.ret (AV.tuple [AV.sl SK.full [], AV.int IntKind.i64 (2 : Int)]), H2)) rfl) (by kernel_rfl)
    | some l =>
      simp only [hf] at ht ⊢
      by_cases hc : ck l = 0
      · rw [if_pos hc] at ht
        simp only [if_pos hc]
        obtain ⟨last, ht⟩ := ht
        have hd : Does cfg (.call (.c (.func 101 [])) [.c (.func 110 [.ptr 0 0, .ptr 3 0, .ptr 1 0, .ptr 2 0])]) ⟨[oTerm0 s [], oTerm1 [], oTerm2 [], oTerm3 []], [], []⟩ (.int .i64 0) ⟨[oTerm0 s l, oTerm1 l, oTerm2 l, oTerm3 l], tkR encM l, []⟩ := by
          have hd := does_callE (xs := [.func 110 [.ptr 0 0, .ptr 3 0, .ptr 1 0, .ptr 2 0]]) (caps := []) ht rfl rfl
          refine Eq.mp ?_ hd
          congr 1
          cases l <;> rfl
        exact goG 60 []  trivial  (.no (show (s == [(45 : UInt8)]) = false from Bool.eq_false_iff.2 (show ¬ ((s == [(45 : UInt8)]) = true) from (by simpa using hs))) <| .effY (show Does cfg (AOp.call (Opd.c (AV.func (101 : FuncId) [])) [Opd.c (AV.func (110 : FuncId) [AV.ptr (0 : Nat) (0 : Nat), AV.ptr (3 : Nat) (0 : Nat), AV.ptr (1 : Nat) (0 : Nat), AV.ptr (2 : Nat) (0 : Nat)])]) { boxes := [oTerm0 s [], oTerm1 [], oTerm2 [], oTerm3 []], toks := [], loops := [] : Heap } (AV.int IntKind.i64 (0 : Int)) { boxes := [oTerm0 s l, oTerm1 l, oTerm2 l, oTerm3 l], toks := tkR encM l, loops := [] : Heap } from hd) <| .ff <| .fin ((ARes.ret (AV.tuple [AV.sl (skF l) (List.map encM l), AV.int IntKind.i64 (0 : Int)]), { boxes := [[AV.str s], [AV.func (92 : Nat) []], [AV.func (95 : Nat) []], [AV.sl (skF l) (List.map encM l)]], toks := tkR encM l, loops := [] : Heap })) rfl) (by kernel_rfl)
      · rw [if_neg hc] at ht
        simp only [if_neg hc]
        obtain ⟨H', ht⟩ := ht
        have hd := does_callE (xs := [.func 110 [.ptr 0 0, .ptr 3 0, .ptr 1 0, .ptr 2 0]]) (caps := []) ht rfl rfl
        generalize trunc _ _ _ H' = H2 at hd
        exact goG 60 []  trivial  (.no (show (s == [(45 : UInt8)]) = false from Bool.eq_false_iff.2 (show ¬ ((s == [(45 : UInt8)]) = true) from (by simpa using hs))) <| .effY (show Does cfg (AOp.call (Opd.c (AV.func (101 : FuncId) [])) (List.map Opd.c [AV.func (110 : FuncId) [AV.ptr (0 : Nat) (0 : Nat), AV.ptr (3 : Nat) (0 : Nat), AV.ptr (1 : Nat) (0 : Nat), AV.ptr (2 : Nat) (0 : Nat)]])) { boxes := [oTerm0 s [], oTerm1 [], oTerm2 [], oTerm3 []], toks := [], loops := [] : Heap } (shutA (AV.int IntKind.i64 (ck l))) H2 from hd) <| .yes (show (ck l != (0 : Int)) = true from (by simpa using hc)) <| .fin ((ARes.ret (AV.tuple [AV.sl SK.full [], AV.int IntKind.i64 (ck l)]), H2)) rfl) (by kernel_rfl)
end Go.Aa.T

set_option linter.unusedVariables false
set_option linter.unusedSimpArgs false
set_option maxRecDepth 100000
namespace Go.Aa.T
open Go.Aa Go.Proofs

section
variable {H : Heap} {k : Nat} {p : Taint → Bool}
end


end Go.Aa.T

set_option linter.unusedVariables false
set_option linter.unusedSimpArgs false
set_option maxRecDepth 100000
namespace Go.Aa.T
open Go.Aa Go.Proofs
theorem contains_yes (a : List UInt8) (c : UInt8) (h : c ∈ a) : Gives cfg 75 [.str a, .str [c]] (.bool true) := by
  obtain ⟨x, y, hc⟩ : ∃ x y, cutAt c a = some (x, y) := by
    cases hc : cutAt c a with
    | none => exact absurd h (cutAt_none hc)
    | some p => exact ⟨p.1, p.2, rfl⟩
  obtain ⟨rfl, hx⟩ := cutAt_some hc
  have hi : Gives cfg 105 [.str (x ++ c :: y), .str [c]] (.int .i64 (x.length : Nat)) := by
    have := index1 105 (x ++ c :: y) c rfl rfl
    rwa [ib_at hx] at this
  refine Gives.run (l75 _ _) ?_
  exact goG 60 []  trivial  (.callG ([AV.str (x ++ c :: y), AV.str [c]]) (AV.int IntKind.i64 (↑x.length : Int)) (show Gives cfg (105 : FuncId) [AV.str (x ++ c :: y), AV.str [c]] (AV.int IntKind.i64 (↑x.length : Int)) from hi) ⟨rfl, rfl⟩ ⟨rfl, rfl⟩ <| .fin ((ARes.ret (AV.bool (decide ((0 : Int) ≤ (↑x.length : Int)))), { boxes := [], toks := [], loops := [] : Heap })) rfl) (by kernel_rfl)

def partP (w : List UInt8) : Option Pair := match cutAt 58 w with
  | none => none
  | some (a, b) => if 58 ∈ b then none else some ⟨a, b⟩
def nSigns (w : List UInt8) : Nat := Lib.countByte w 58 + Lib.countByte w 33
def partM (w : List UInt8) : Option Term :=
  if nSigns w > 1 ∨ (nSigns w > 0 ∧ w.head? = some 45) then none
  else if w.head? = some 45 then some ⟨4, w.tail, []⟩
  else match cutAt 58 w with
  | some (a, b) => some ⟨1, a, b⟩
  | none => match cutAt 33 w with
    | some (a, b) => some ⟨2, a, b⟩
    | none => some ⟨3, w, []⟩
theorem stop2 : Pans cfg 76 [.int .i64 2] (stopV 2) := stop_pan (by decide)
theorem cut_len {w a b : List UInt8} {c : UInt8} (h : cutAt c w = some (a, b)) : w.length = a.length + 1 + b.length := by
  rw [(cutAt_some h).1]; simp; omega
theorem partP_run (w : List UInt8) (hl : w.length ≤ 1000) : (∀ x, partP w = some x → Gives cfg 89 [.str w] (encP x)) ∧ (partP w = none → Pans cfg 89 [.str w] (stopV 2)) := by
  cases hc : cutAt 58 w with
  | none =>
    have h := cut_miss w 58 (cutAt_none hc)
    refine ⟨fun x hx => by simp [partP, hc] at hx, fun _ => ?_⟩
    refine Pans.run (l89 _ _) ?_
    exact goG 60 []  trivial  (.callG ([AV.str w, AV.str [(58 : UInt8)]]) (AV.tuple [AV.str w, AV.str [], AV.bool false]) (show Gives cfg (74 : FuncId) [AV.str w, AV.str [(58 : UInt8)]] (AV.tuple [AV.str w, AV.str [], AV.bool false]) from h) ⟨rfl, rfl⟩ ⟨rfl, rfl⟩ <| .tt <| .tt <| .callP ([AV.int IntKind.i64 (2 : Int)]) ({ boxes := [[AV.str [], AV.str []]], toks := [], loops := [] : Heap }) (show Pans cfg (76 : FuncId) [AV.int IntKind.i64 (2 : Int)] (stopV (2 : Int)) from stop2) ⟨rfl, rfl⟩ rfl rfl) (by kernel_rfl)
  | some p =>
    obtain ⟨a, b⟩ := p
    obtain ⟨rfl, hn⟩ := cutAt_some hc
    have hlen := cut_len hc
    have h := cut_hit a b 58 hn (by omega)
    by_cases hb : 58 ∈ b
    · have h2 := contains_yes b 58 hb
      refine ⟨fun x hx => by simp [partP, hc, hb] at hx, fun _ => ?_⟩
      refine Pans.run (l89 _ _) ?_
      exact goG 60 []  trivial  (.callG ([AV.str (a ++ (58 : UInt8) :: b), AV.str [(58 : UInt8)]]) (AV.tuple [AV.str a, AV.str b, AV.bool true]) (show Gives cfg (74 : FuncId) [AV.str (a ++ (58 : UInt8) :: b), AV.str [(58 : UInt8)]] (AV.tuple [AV.str a, AV.str b, AV.bool true]) from h) ⟨rfl, rfl⟩ ⟨rfl, rfl⟩ <| .ff <| .callG ([AV.str b, AV.str [(58 : UInt8)]]) (AV.bool true) (show Gives cfg (75 : FuncId) [AV.str b, AV.str [(58 : UInt8)]] (AV.bool true) from h2) ⟨rfl, rfl⟩ ⟨rfl, rfl⟩ <| .tt <| .callP ([AV.int IntKind.i64 (2 : Int)]) ({ boxes := [[AV.str [], AV.str []]], toks := [], loops := [] : Heap }) (show Pans cfg (76 : FuncId) [AV.int IntKind.i64 (2 : Int)] (stopV (2 : Int)) from stop2) ⟨rfl, rfl⟩ rfl rfl) (by kernel_rfl)
    · have h2 := contains_no b 58 hb
      refine ⟨fun x hx => ?_, fun hx => by simp [partP, hc, hb] at hx⟩
      have e : x = ⟨a, b⟩ := by simpa [partP, hc, hb] using hx.symm
      subst e
      refine Gives.run (l89 _ _) ?_
      exact goG 60 []  trivial  (.callG ([AV.str (a ++ (58 : UInt8) :: b), AV.str [(58 : UInt8)]]) (AV.tuple [AV.str a, AV.str b, AV.bool true]) (show Gives cfg (74 : FuncId) [AV.str (a ++ (58 : UInt8) :: b), AV.str [(58 : UInt8)]] (AV.tuple [AV.str a, AV.str b, AV.bool true]) from h) ⟨rfl, rfl⟩ ⟨rfl, rfl⟩ <| .ff <| .callG ([AV.str b, AV.str [(58 : UInt8)]]) (AV.bool false) (show Gives cfg (75 : FuncId) [AV.str b, AV.str [(58 : UInt8)]] (AV.bool false) from h2) ⟨rfl, rfl⟩ ⟨rfl, rfl⟩ <| .ff <| .fin ((ARes.ret (AV.agg [AV.str a, AV.str b]), { boxes := [[AV.str a, AV.str b]], toks := [], loops := [] : Heap })) rfl) (by kernel_rfl)
theorem partM_run (w : List UInt8) (hl : w.length ≤ 1000) : (∀ x, partM w = some x → Gives cfg 92 [.str w] (encM x)) ∧ (partM w = none → Pans cfg 92 [.str w] (stopV 2)) := by
  have hs := signs_any w (nSigns w) rfl hl
  by_cases hh : w.head? = some 45
  · obtain ⟨r, rfl⟩ : ∃ r, w = 45 :: r := by
      cases w with
      | nil => cases hh
      | cons b r => simp only [List.head?_cons, Option.some.injEq] at hh; exact ⟨r, by rw [hh]⟩
    have hp := prefix_hit r 45 (by simp at hl; omega)
    by_cases hn : nSigns (45 :: r) > 0
    · refine ⟨fun x hx => by simp [partM, hn] at hx, fun _ => ?_⟩
      refine Pans.run (l92 _ _) ?_
      exact goG 60 []  trivial  (.callG ([AV.str ((45 : UInt8) :: r), AV.str [(45 : UInt8)]]) (AV.tuple [AV.str r, AV.bool true]) (show Gives cfg (93 : FuncId) [AV.str ((45 : UInt8) :: r), AV.str [(45 : UInt8)]] (AV.tuple [AV.str r, AV.bool true]) from hp) ⟨rfl, rfl⟩ ⟨rfl, rfl⟩ <| .callG ([AV.str ((45 : UInt8) :: r)]) (AV.int IntKind.i64 (↑(nSigns ((45 : UInt8) :: r)) : Int)) (show Gives cfg (94 : FuncId) [AV.str ((45 : UInt8) :: r)] (AV.int IntKind.i64 (↑(nSigns ((45 : UInt8) :: r)) : Int)) from hs) ⟨rfl, rfl⟩ ⟨rfl, rfl⟩ <| .split ((1 : Int) < (↑(nSigns ((45 : UInt8) :: r)) : Int)) (fun h1 => .yes (show (decide ((1 : Int) < (↑(nSigns ((45 : UInt8) :: r)) : Int))) = true from decide_eq_true (show (1 : Int) < (↑(nSigns ((45 : UInt8) :: r)) : Int) from h1)) <| .tt <| .callP ([AV.int IntKind.i64 (2 : Int)]) ({ boxes := [[AV.int IntKind.i64 (0 : Int), AV.str [], AV.str []]], toks := [], loops := [] : Heap }) (show Pans cfg (76 : FuncId) [AV.int IntKind.i64 (2 : Int)] (stopV (2 : Int)) from stop2) ⟨rfl, rfl⟩ rfl rfl) (fun h1 => .no (show (decide ((1 : Int) < (↑(nSigns ((45 : UInt8) :: r)) : Int))) = false from decide_eq_false (show ¬ ((1 : Int) < (↑(nSigns ((45 : UInt8) :: r)) : Int)) from h1)) <| .yes (show (decide ((0 : Int) < (↑(nSigns ((45 : UInt8) :: r)) : Int))) = true from decide_eq_true (show (0 : Int) < (↑(nSigns ((45 : UInt8) :: r)) : Int) from (by omega))) <| .tt <| .callP ([AV.int IntKind.i64 (2 : Int)]) ({ boxes := [[AV.int IntKind.i64 (0 : Int), AV.str [], AV.str []]], toks := [], loops := [] : Heap }) (show Pans cfg (76 : FuncId) [AV.int IntKind.i64 (2 : Int)] (stopV (2 : Int)) from stop2) ⟨rfl, rfl⟩ rfl rfl)) (by kernel_rfl)
    · refine ⟨fun x hx => ?_, fun hx => by simp [partM, hn, show ¬ 1 < nSigns (45 :: r) by omega] at hx⟩
      have e : x = ⟨4, r, []⟩ := by simpa [partM, hn, show ¬ 1 < nSigns (45 :: r) by omega] using hx.symm
      subst e
      refine Gives.run (l92 _ _) ?_
      exact goG 60 []  trivial  (.callG ([AV.str ((45 : UInt8) :: r), AV.str [(45 : UInt8)]]) (AV.tuple [AV.str r, AV.bool true]) (show Gives cfg (93 : FuncId) [AV.str ((45 : UInt8) :: r), AV.str [(45 : UInt8)]] (AV.tuple [AV.str r, AV.bool true]) from hp) ⟨rfl, rfl⟩ ⟨rfl, rfl⟩ <| .callG ([AV.str ((45 : UInt8) :: r)]) (AV.int IntKind.i64 (↑(nSigns ((45 : UInt8) :: r)) : Int)) (show Gives cfg (94 : FuncId) [AV.str ((45 : UInt8) :: r)] (AV.int IntKind.i64 (↑(nSigns ((45 : UInt8) :: r)) : Int)) from hs) ⟨rfl, rfl⟩ ⟨rfl, rfl⟩ <| .no (show (decide ((1 : Int) < (↑(nSigns ((45 : UInt8) :: r)) : Int))) = false from decide_eq_false (show ¬ ((1 : Int) < (↑(nSigns ((45 : UInt8) :: r)) : Int)) from (by omega))) <| .no (show (decide ((0 : Int) < (↑(nSigns ((45 : UInt8) :: r)) : Int))) = false from decide_eq_false (show ¬ ((0 : Int) < (↑(nSigns ((45 : UInt8) :: r)) : Int)) from (by omega))) <| .ff <| .tt <| .fin ((ARes.ret (AV.agg [AV.int IntKind.i64 (4 : Int), AV.str r, AV.str []]), { boxes := [[AV.int IntKind.i64 (4 : Int), AV.str r, AV.str []]], toks := [], loops := [] : Heap })) rfl) (by kernel_rfl)
  · have hp := prefix_miss w 45 hh hl
    by_cases hn : nSigns w > 1
    · refine ⟨fun x hx => by simp [partM, hn] at hx, fun _ => ?_⟩
      refine Pans.run (l92 _ _) ?_
      exact goG 60 []  trivial  (.callG ([AV.str w, AV.str [(45 : UInt8)]]) (AV.tuple [AV.str w, AV.bool false]) (show Gives cfg (93 : FuncId) [AV.str w, AV.str [(45 : UInt8)]] (AV.tuple [AV.str w, AV.bool false]) from hp) ⟨rfl, rfl⟩ ⟨rfl, rfl⟩ <| .callG ([AV.str w]) (AV.int IntKind.i64 (↑(nSigns w) : Int)) (show Gives cfg (94 : FuncId) [AV.str w] (AV.int IntKind.i64 (↑(nSigns w) : Int)) from hs) ⟨rfl, rfl⟩ ⟨rfl, rfl⟩ <| .yes (show (decide ((1 : Int) < (↑(nSigns w) : Int))) = true from decide_eq_true (show (1 : Int) < (↑(nSigns w) : Int) from (by omega))) <| .tt <| .callP ([AV.int IntKind.i64 (2 : Int)]) ({ boxes := [[AV.int IntKind.i64 (0 : Int), AV.str [], AV.str []]], toks := [], loops := [] : Heap }) (show Pans cfg (76 : FuncId) [AV.int IntKind.i64 (2 : Int)] (stopV (2 : Int)) from stop2) ⟨rfl, rfl⟩ rfl rfl) (by kernel_rfl)
    · cases hc : cutAt 58 w with
      | some p =>
        obtain ⟨a, b⟩ := p
        refine ⟨fun x hx => ?_, fun hx => by simp [partM, hn, hh, hc] at hx⟩
        have e : x = ⟨1, a, b⟩ := by simpa [partM, hn, hh, hc] using hx.symm
        subst e
        have hlen := cut_len hc
        obtain ⟨rfl, hm⟩ := cutAt_some hc
        have h := cut_hit a b 58 hm (by omega)
        refine Gives.run (l92 _ _) ?_
        exact goG 60 []  trivial  (.callG ([AV.str (a ++ (58 : UInt8) :: b), AV.str [(45 : UInt8)]]) (AV.tuple [AV.str (a ++ (58 : UInt8) :: b), AV.bool false]) (show Gives cfg (93 : FuncId) [AV.str (a ++ (58 : UInt8) :: b), AV.str [(45 : UInt8)]] (AV.tuple [AV.str (a ++ (58 : UInt8) :: b), AV.bool false]) from hp) ⟨rfl, rfl⟩ ⟨rfl, rfl⟩ <| .callG ([AV.str (a ++ (58 : UInt8) :: b)]) (AV.int IntKind.i64 (↑(nSigns (a ++ (58 : UInt8) :: b)) : Int)) (show Gives cfg (94 : FuncId) [AV.str (a ++ (58 : UInt8) :: b)] (AV.int IntKind.i64 (↑(nSigns (a ++ (58 : UInt8) :: b)) : Int)) from hs) ⟨rfl, rfl⟩ ⟨rfl, rfl⟩ <| .no (show (decide ((1 : Int) < (↑(nSigns (a ++ (58 : UInt8) :: b)) : Int))) = false from decide_eq_false (show ¬ ((1 : Int) < (↑(nSigns (a ++ (58 : UInt8) :: b)) : Int)) from (by omega))) <| .split ((0 : Int) < (↑(nSigns (a ++ (58 : UInt8) :: b)) : Int)) (fun h1 => .yes (show (decide ((0 : Int) < (↑(nSigns (a ++ (58 : UInt8) :: b)) : Int))) = true from decide_eq_true (show (0 : Int) < (↑(nSigns (a ++ (58 : UInt8) :: b)) : Int) from h1)) <| .ff <| .ff <| .callG ([AV.str (a ++ (58 : UInt8) :: b), AV.str [(58 : UInt8)]]) (AV.tuple [AV.str a, AV.str b, AV.bool true]) (show Gives cfg (74 : FuncId) [AV.str (a ++ (58 : UInt8) :: b), AV.str [(58 : UInt8)]] (AV.tuple [AV.str a, AV.str b, AV.bool true]) from h) ⟨rfl, rfl⟩ ⟨rfl, rfl⟩ <| .tt <| .fin ((ARes.ret (AV.agg [AV.int IntKind.i64 (1 : Int), AV.str a, AV.str b]), { boxes := [[AV.int IntKind.i64 (1 : Int), AV.str a, AV.str b]], toks := [], loops := [] : Heap })) rfl) (fun h1 => .no (show (decide ((0 : Int) < (↑(nSigns (a ++ (58 : UInt8) :: b)) : Int))) = false from decide_eq_false (show ¬ ((0 : Int) < (↑(nSigns (a ++ (58 : UInt8) :: b)) : Int)) from h1)) <| .ff <| .ff <| .callG ([AV.str (a ++ (58 : UInt8) :: b), AV.str [(58 : UInt8)]]) (AV.tuple [AV.str a, AV.str b, AV.bool true]) (show Gives cfg (74 : FuncId) [AV.str (a ++ (58 : UInt8) :: b), AV.str [(58 : UInt8)]] (AV.tuple [AV.str a, AV.str b, AV.bool true]) from h) ⟨rfl, rfl⟩ ⟨rfl, rfl⟩ <| .tt <| .fin ((ARes.ret (AV.agg [AV.int IntKind.i64 (1 : Int), AV.str a, AV.str b]), { boxes := [[AV.int IntKind.i64 (1 : Int), AV.str a, AV.str b]], toks := [], loops := [] : Heap })) rfl)) (by kernel_rfl)
      | none =>
        have h := cut_miss w 58 (cutAt_none hc)
        cases hc2 : cutAt 33 w with
        | some p =>
          obtain ⟨a, b⟩ := p
          refine ⟨fun x hx => ?_, fun hx => by simp [partM, hn, hh, hc, hc2] at hx⟩
          have e : x = ⟨2, a, b⟩ := by simpa [partM, hn, hh, hc, hc2] using hx.symm
          subst e
          have hlen := cut_len hc2
          obtain ⟨rfl, hm⟩ := cutAt_some hc2
          have h2 := cut_hit a b 33 hm (by omega)
          refine Gives.run (l92 _ _) ?_
          exact goG 60 []  trivial  (.callG ([AV.str (a ++ (33 : UInt8) :: b), AV.str [(45 : UInt8)]]) (AV.tuple [AV.str (a ++ (33 : UInt8) :: b), AV.bool false]) (show Gives cfg (93 : FuncId) [AV.str (a ++ (33 : UInt8) :: b), AV.str [(45 : UInt8)]] (AV.tuple [AV.str (a ++ (33 : UInt8) :: b), AV.bool false]) from hp) ⟨rfl, rfl⟩ ⟨rfl, rfl⟩ <| .callG ([AV.str (a ++ (33 : UInt8) :: b)]) (AV.int IntKind.i64 (↑(nSigns (a ++ (33 : UInt8) :: b)) : Int)) (show Gives cfg (94 : FuncId) [AV.str (a ++ (33 : UInt8) :: b)] (AV.int IntKind.i64 (↑(nSigns (a ++ (33 : UInt8) :: b)) : Int)) from hs) ⟨rfl, rfl⟩ ⟨rfl, rfl⟩ <| .no (show (decide ((1 : Int) < (↑(nSigns (a ++ (33 : UInt8) :: b)) : Int))) = false from decide_eq_false (show ¬ ((1 : Int) < (↑(nSigns (a ++ (33 : UInt8) :: b)) : Int)) from (by omega))) <| .split ((0 : Int) < (↑(nSigns (a ++ (33 : UInt8) :: b)) : Int)) (fun h1 => .yes (show (decide ((0 : Int) < (↑(nSigns (a ++ (33 : UInt8) :: b)) : Int))) = true from decide_eq_true (show (0 : Int) < (↑(nSigns (a ++ (33 : UInt8) :: b)) : Int) from h1)) <| .ff <| .ff <| .callG ([AV.str (a ++ (33 : UInt8) :: b), AV.str [(58 : UInt8)]]) (AV.tuple [AV.str (a ++ (33 : UInt8) :: b), AV.str [], AV.bool false]) (show Gives cfg (74 : FuncId) [AV.str (a ++ (33 : UInt8) :: b), AV.str [(58 : UInt8)]] (AV.tuple [AV.str (a ++ (33 : UInt8) :: b), AV.str [], AV.bool false]) from h) ⟨rfl, rfl⟩ ⟨rfl, rfl⟩ <| .ff <| .callG ([AV.str (a ++ (33 : UInt8) :: b), AV.str [(33 : UInt8)]]) (AV.tuple [AV.str a, AV.str b, AV.bool true]) (show Gives cfg (74 : FuncId) [AV.str (a ++ (33 : UInt8) :: b), AV.str [(33 : UInt8)]] (AV.tuple [AV.str a, AV.str b, AV.bool true]) from h2) ⟨rfl, rfl⟩ ⟨rfl, rfl⟩ <| .tt <| .fin ((ARes.ret (AV.agg [AV.int IntKind.i64 (2 : Int), AV.str a, AV.str b]), { boxes := [[AV.int IntKind.i64 (2 : Int), AV.str a, AV.str b]], toks := [], loops := [] : Heap })) rfl) (fun h1 => .no (show (decide ((0 : Int) < (↑(nSigns (a ++ (33 : UInt8) :: b)) : Int))) = false from decide_eq_false (show ¬ ((0 : Int) < (↑(nSigns (a ++ (33 : UInt8) :: b)) : Int)) from h1)) <| .ff <| .ff <| .callG ([AV.str (a ++ (33 : UInt8) :: b), AV.str [(58 : UInt8)]]) (AV.tuple [AV.str (a ++ (33 : UInt8) :: b), AV.str [], AV.bool false]) (show Gives cfg (74 : FuncId) [AV.str (a ++ (33 : UInt8) :: b), AV.str [(58 : UInt8)]] (AV.tuple [AV.str (a ++ (33 : UInt8) :: b), AV.str [], AV.bool false]) from h) ⟨rfl, rfl⟩ ⟨rfl, rfl⟩ <| .ff <| .callG ([AV.str (a ++ (33 : UInt8) :: b), AV.str [(33 : UInt8)]]) (AV.tuple [AV.str a, AV.str b, AV.bool true]) (show Gives cfg (74 : FuncId) [AV.str (a ++ (33 : UInt8) :: b), AV.str [(33 : UInt8)]] (AV.tuple [AV.str a, AV.str b, AV.bool true]) from h2) ⟨rfl, rfl⟩ ⟨rfl, rfl⟩ <| .tt <| .fin ((ARes.ret (AV.agg [AV.int IntKind.i64 (2 : Int), AV.str a, AV.str b]), { boxes := [[AV.int IntKind.i64 (2 : Int), AV.str a, AV.str b]], toks := [], loops := [] : Heap })) rfl)) (by kernel_rfl)
        | none =>
          refine ⟨fun x hx => ?_, fun hx => by simp [partM, hn, hh, hc, hc2] at hx⟩
          have e : x = ⟨3, w, []⟩ := by simpa [partM, hn, hh, hc, hc2] using hx.symm
          subst e
          have h2 := cut_miss w 33 (cutAt_none hc2)
          refine Gives.run (l92 _ _) ?_
          exact goG 60 []  trivial  (.callG ([AV.str w, AV.str [(45 : UInt8)]]) (AV.tuple [AV.str w, AV.bool false]) (show Gives cfg (93 : FuncId) [AV.str w, AV.str [(45 : UInt8)]] (AV.tuple [AV.str w, AV.bool false]) from hp) ⟨rfl, rfl⟩ ⟨rfl, rfl⟩ <| .callG ([AV.str w]) (AV.int IntKind.i64 (↑(nSigns w) : Int)) (show Gives cfg (94 : FuncId) [AV.str w] (AV.int IntKind.i64 (↑(nSigns w) : Int)) from hs) ⟨rfl, rfl⟩ ⟨rfl, rfl⟩ <| .no (show (decide ((1 : Int) < (↑(nSigns w) : Int))) = false from decide_eq_false (show ¬ ((1 : Int) < (↑(nSigns w) : Int)) from (by omega))) <| .split ((0 : Int) < (↑(nSigns w) : Int)) (fun h1 => .yes (show (decide ((0 : Int) < (↑(nSigns w) : Int))) = true from decide_eq_true (show (0 : Int) < (↑(nSigns w) : Int) from h1)) <| .ff <| .ff <| .callG ([AV.str w, AV.str [(58 : UInt8)]]) (AV.tuple [AV.str w, AV.str [], AV.bool false]) (show Gives cfg (74 : FuncId) [AV.str w, AV.str [(58 : UInt8)]] (AV.tuple [AV.str w, AV.str [], AV.bool false]) from h) ⟨rfl, rfl⟩ ⟨rfl, rfl⟩ <| .ff <| .callG ([AV.str w, AV.str [(33 : UInt8)]]) (AV.tuple [AV.str w, AV.str [], AV.bool false]) (show Gives cfg (74 : FuncId) [AV.str w, AV.str [(33 : UInt8)]] (AV.tuple [AV.str w, AV.str [], AV.bool false]) from h2) ⟨rfl, rfl⟩ ⟨rfl, rfl⟩ <| .ff <| .fin ((ARes.ret (AV.agg [AV.int IntKind.i64 (3 : Int), AV.str w, AV.str []]), { boxes := [[AV.int IntKind.i64 (3 : Int), AV.str w, AV.str []]], toks := [], loops := [] : Heap })) rfl) (fun h1 => .no (show (decide ((0 : Int) < (↑(nSigns w) : Int))) = false from decide_eq_false (show ¬ ((0 : Int) < (↑(nSigns w) : Int)) from h1)) <| .ff <| .ff <| .callG ([AV.str w, AV.str [(58 : UInt8)]]) (AV.tuple [AV.str w, AV.str [], AV.bool false]) (show Gives cfg (74 : FuncId) [AV.str w, AV.str [(58 : UInt8)]] (AV.tuple [AV.str w, AV.str [], AV.bool false]) from h) ⟨rfl, rfl⟩ ⟨rfl, rfl⟩ <| .ff <| .callG ([AV.str w, AV.str [(33 : UInt8)]]) (AV.tuple [AV.str w, AV.str [], AV.bool false]) (show Gives cfg (74 : FuncId) [AV.str w, AV.str [(33 : UInt8)]] (AV.tuple [AV.str w, AV.str [], AV.bool false]) from h2) ⟨rfl, rfl⟩ ⟨rfl, rfl⟩ <| .ff <| .fin ((ARes.ret (AV.agg [AV.int IntKind.i64 (3 : Int), AV.str w, AV.str []]), { boxes := [[AV.int IntKind.i64 (3 : Int), AV.str w, AV.str []]], toks := [], loops := [] : Heap })) rfl)) (by kernel_rfl)

theorem ckS90 (l : List Pair) : Gives cfg 90 [.sl .sh (l.map encP)] (.int .i64 (ckS l)) := by
  refine Gives.run (l90 _ _) ?_
  exact goG 60 []  trivial  (.callG ([AV.sl SK.sh (List.map encP l)]) (AV.int IntKind.i64 (ckS l)) (show Gives cfg (45 : FuncId) [AV.sl SK.sh (List.map encP l)] (AV.int IntKind.i64 (ckS l)) from ckS_any _) ⟨rfl, rfl⟩ ⟨rfl, rfl⟩ <| .fin ((ARes.ret (AV.int IntKind.i64 (ckS l)), { boxes := [], toks := [], loops := [] : Heap })) rfl) (by kernel_rfl)
theorem ckM95 (l : List Term) : Gives cfg 95 [.sl .sh (l.map encM)] (.int .i64 (ckM l)) := by
  refine Gives.run (l95 _ _) ?_
  exact goG 60 []  trivial  (.callG ([AV.sl SK.sh (List.map encM l)]) (AV.int IntKind.i64 (ckM l)) (show Gives cfg (46 : FuncId) [AV.sl SK.sh (List.map encM l)] (AV.int IntKind.i64 (ckM l)) from ckM_any _) ⟨rfl, rfl⟩ ⟨rfl, rfl⟩ <| .fin ((ARes.ret (AV.int IntKind.i64 (ckM l)), { boxes := [], toks := [], loops := [] : Heap })) rfl) (by kernel_rfl)
theorem parseP (s : List UInt8) (hl : s.length ≤ 1000) : Gives cfg 55 [.str s] (.tuple [.sl .sh ((parsed partP ckS s).1.map encP), .int .i64 (parsed partP ckS s).2]) := by
  have h := partsPair partP ckS (fun p x h1 h2 => (partP_run p h1).1 x h2) (fun p h1 _ h2 => (partP_run p h1).2 h2) ckS90 s hl
  refine Gives.run (l55 _ _) ?_
  exact goG 60 []  trivial  (.callG ([AV.str s, AV.func (89 : Nat) [], AV.func (90 : Nat) []]) (AV.tuple [AV.sl SK.sh (List.map encP (parsed partP ckS s).fst), AV.int IntKind.i64 (parsed partP ckS s).snd]) (show Gives cfg (88 : FuncId) [AV.str s, AV.func (89 : FuncId) [], AV.func (90 : FuncId) []] (AV.tuple [rowF encP (parsed partP ckS s).fst, AV.int IntKind.i64 (parsed partP ckS s).snd]) from h) ⟨rfl, rfl⟩ Res.p <| .fin ((ARes.ret (AV.tuple [AV.sl SK.sh (List.map encP (parsed partP ckS s).fst), AV.int IntKind.i64 (parsed partP ckS s).snd]), { boxes := [], toks := [], loops := [] : Heap })) rfl) (by kernel_rfl)
theorem parseM (s : List UInt8) (hl : s.length ≤ 1000) : Gives cfg 56 [.str s] (.tuple [.sl .sh ((parsed partM ckM s).1.map encM), .int .i64 (parsed partM ckM s).2]) := by
  have h := partsTerm partM ckM (fun p x h1 h2 => (partM_run p h1).1 x h2) (fun p h1 _ h2 => (partM_run p h1).2 h2) ckM95 s hl
  refine Gives.run (l56 _ _) ?_
  exact goG 60 []  trivial  (.callG ([AV.str s, AV.func (92 : Nat) [], AV.func (95 : Nat) []]) (AV.tuple [AV.sl SK.sh (List.map encM (parsed partM ckM s).fst), AV.int IntKind.i64 (parsed partM ckM s).snd]) (show Gives cfg (91 : FuncId) [AV.str s, AV.func (92 : FuncId) [], AV.func (95 : FuncId) []] (AV.tuple [rowF encM (parsed partM ckM s).fst, AV.int IntKind.i64 (parsed partM ckM s).snd]) from h) ⟨rfl, rfl⟩ Res.p <| .fin ((ARes.ret (AV.tuple [AV.sl SK.sh (List.map encM (parsed partM ckM s).fst), AV.int IntKind.i64 (parsed partM ckM s).snd]), { boxes := [], toks := [], loops := [] : Heap })) rfl) (by kernel_rfl)

theorem get2_loop (s : List Pair) (k : List UInt8) (hn : s.length < 9223372036854775807) : ∀ (post : List Pair) (i : Nat) (hd : s.drop i = post) (T : Env) (hT : Has T [(0, .sl .sh (s.map encP)), (1, .str k), (6, .int .i64 i)]),
    Goes cfg a48 k48_0 T Heap.nil (IsRet (getV (getP post k))) := by
  intro post
  induction post with
  | nil =>
    intro i hd T hT
    have hge := drop_ge hd
    exact goG 60 _  hT  (.len (show lenA false (AV.sl SK.sh (List.map encP s)) = some (AV.int IntKind.i64 (↑s.length : Int)) from len_map _) <| .no (show (decide ((↑i : Int) < (↑s.length : Int))) = false from decide_eq_false (show ¬ ((↑i : Int) < (↑s.length : Int)) from (by omega))) <| .fin ((ARes.ret (AV.tuple [AV.str [], AV.bool false]), { boxes := [], toks := [], loops := [] : Heap })) rfl) (by kernel_rfl)
  | cons x post ih =>
    intro i hd T hT
    have hlt := drop_lt hd
    have hnx := drop_next hd
    exact goG 60 _  hT  (.len (show lenA false (AV.sl SK.sh (List.map encP s)) = some (AV.int IntKind.i64 (↑s.length : Int)) from len_map _) <| .yes (show (decide ((↑i : Int) < (↑s.length : Int))) = true from decide_eq_true (show (↑i : Int) < (↑s.length : Int) from (by omega))) <| .idx (show idxA (2 : Nat) (AV.sl SK.sh (List.map encP s)) (AV.int IntKind.i64 (↑i : Int)) = some (AV.ref (encP x).cells) from idx_row hd (by rfl)) <| .split ((x.key == k) = true) (fun h1 => .yes (show (x.key == k) = true from h1) <| .idx (show idxA (2 : Nat) (AV.sl SK.sh (List.map encP s)) (AV.int IntKind.i64 (↑i : Int)) = some (AV.ref (encP x).cells) from idx_row hd (by rfl)) <| .fin ((ARes.ret (AV.tuple [AV.str x.val, AV.bool true]), { boxes := [], toks := [], loops := [] : Heap })) (by simp only [IsRet]; grind [getP, getV])) (fun h1 => .no (show (x.key == k) = false from Bool.eq_false_iff.2 (show ¬ ((x.key == k) = true) from h1)) <| .bin (show binA BinOp.add (AV.int IntKind.i64 (↑i : Int)) (AV.int IntKind.i64 (1 : Int)) = some (AV.int IntKind.i64 (↑(i + (1 : Nat)) : Int)) from inc_i (by omega)) <| .cutQ k48_0 [(0, AV.sl SK.sh (List.map encP s)), (1, AV.str k), (6, AV.int IntKind.i64 (↑(i + (1 : Nat)) : Int))] ({ boxes := [], toks := [], loops := [] : Heap }) (fun T hT => (ih (i + (1 : Nat)) hnx T hT).to (by grind [getP, getV])))) (by kernel_rfl)
theorem get2 (s : List Pair) (k : List UInt8) (hn : s.length < 9223372036854775807) : Gives cfg 48 [.sl .sh (s.map encP), .str k] (getV (getP s k)) := by
  refine Gives.run (l48 _ _) ?_
  have h := get2_loop s k hn s 0 rfl
  exact goG 60 []  trivial  (.cutQ k48_0 [(0, AV.sl SK.sh (List.map encP s)), (1, AV.str k), (6, AV.int IntKind.i64 (0 : Int))] ({ boxes := [], toks := [], loops := [] : Heap }) (fun T hT => (h T hT))) (by kernel_rfl)
theorem match2_loop (s : List Pair) (l : List Term) (hs : s.length < 9223372036854775807) (hn : l.length < 9223372036854775807) : ∀ (post : List Term) (i : Nat) (hd : l.drop i = post) (T : Env)
    (hT : Has T [(0, .sl .sh (l.map encM)), (1, .sl .sh (s.map encP)), (5, .int .i64 i)]),
    Goes cfg a50 k50_0 T Heap.nil (IsRet (.bool (matchB s post))) := by
  intro post
  induction post with
  | nil =>
    intro i hd T hT
    have hge := drop_ge hd
    exact goG 60 _  hT  (.len (show lenA false (AV.sl SK.sh (List.map encM l)) = some (AV.int IntKind.i64 (↑l.length : Int)) from len_map _) <| .no (show (decide ((↑i : Int) < (↑l.length : Int))) = false from decide_eq_false (show ¬ ((↑i : Int) < (↑l.length : Int)) from (by omega))) <| .fin ((ARes.ret (AV.bool true), { boxes := [], toks := [], loops := [] : Heap })) rfl) (by kernel_rfl)
  | cons x post ih =>
    intro i hd T hT
    have hlt := drop_lt hd
    have hnx := drop_next hd
    have e : matchB s (x :: post) = (holdsB s x && matchB s post) := rfl
    cases hg : getP s x.key with
    | none =>
      have hgg : Gives cfg 48 [.sl .sh (s.map encP), .str x.key] (.tuple [.str [], .bool false]) := by
        have := get2 s x.key hs
        rwa [hg] at this
      exact goG 120 _  hT  (.len (show lenA false (AV.sl SK.sh (List.map encM l)) = some (AV.int IntKind.i64 (↑l.length : Int)) from len_map _) <| .yes (show (decide ((↑i : Int) < (↑l.length : Int))) = true from decide_eq_true (show (↑i : Int) < (↑l.length : Int) from (by omega))) <| .idx (show idxA (3 : Nat) (AV.sl SK.sh (List.map encM l)) (AV.int IntKind.i64 (↑i : Int)) = some (AV.ref (encM x).cells) from idx_row hd (by rfl)) <| .callG ([AV.sl SK.sh (List.map encP s), AV.str x.key]) (AV.tuple [AV.str [], AV.bool false]) (show Gives cfg (48 : FuncId) [AV.sl SK.sh (List.map encP s), AV.str x.key] (AV.tuple [AV.str [], AV.bool false]) from hgg) ⟨rfl, rfl⟩ ⟨rfl, rfl⟩ <| .idx (show idxA (3 : Nat) (AV.sl SK.sh (List.map encM l)) (AV.int IntKind.i64 (↑i : Int)) = some (AV.ref (encM x).cells) from idx_row hd (by rfl)) <| .split ((x.op == (1 : Int)) = true) (fun h1 => .yes (show (x.op == (1 : Int)) = true from h1) <| .ff <| .tt <| .fin ((ARes.ret (AV.bool false), { boxes := [], toks := [], loops := [] : Heap })) (by simp only [IsRet]; grind [holdsB])) (fun h1 => .no (show (x.op == (1 : Int)) = false from Bool.eq_false_iff.2 (show ¬ ((x.op == (1 : Int)) = true) from h1)) <| .split ((x.op == (2 : Int)) = true) (fun h2 => .yes (show (x.op == (2 : Int)) = true from h2) <| .tt <| .ff <| .bin (show binA BinOp.add (AV.int IntKind.i64 (↑i : Int)) (AV.int IntKind.i64 (1 : Int)) = some (AV.int IntKind.i64 (↑(i + (1 : Nat)) : Int)) from inc_i (by omega)) <| .cutQ k50_0 [(0, AV.sl SK.sh (List.map encM l)), (1, AV.sl SK.sh (List.map encP s)), (5, AV.int IntKind.i64 (↑(i + (1 : Nat)) : Int))] ({ boxes := [], toks := [], loops := [] : Heap }) (fun T hT => (ih (i + (1 : Nat)) hnx T hT).to (by grind [holdsB]))) (fun h2 => .no (show (x.op == (2 : Int)) = false from Bool.eq_false_iff.2 (show ¬ ((x.op == (2 : Int)) = true) from h2)) <| .split ((x.op == (3 : Int)) = true) (fun h3 => .yes (show (x.op == (3 : Int)) = true from h3) <| .tt <| .fin ((ARes.ret (AV.bool false), { boxes := [], toks := [], loops := [] : Heap })) (by simp only [IsRet]; grind [holdsB])) (fun h3 => .no (show (x.op == (3 : Int)) = false from Bool.eq_false_iff.2 (show ¬ ((x.op == (3 : Int)) = true) from h3)) <| .split ((x.op == (4 : Int)) = true) (fun h4 => .yes (show (x.op == (4 : Int)) = true from h4) <| .ff <| .bin (show binA BinOp.add (AV.int IntKind.i64 (↑i : Int)) (AV.int IntKind.i64 (1 : Int)) = some (AV.int IntKind.i64 (↑(i + (1 : Nat)) : Int)) from inc_i (by omega)) <| .cutQ k50_0 [(0, AV.sl SK.sh (List.map encM l)), (1, AV.sl SK.sh (List.map encP s)), (5, AV.int IntKind.i64 (↑(i + (1 : Nat)) : Int))] ({ boxes := [], toks := [], loops := [] : Heap }) (fun T hT => (ih (i + (1 : Nat)) hnx T hT).to (by grind [holdsB]))) (fun h4 => .no (show (x.op == (4 : Int)) = false from Bool.eq_false_iff.2 (show ¬ ((x.op == (4 : Int)) = true) from h4)) <| .tt <| .fin ((ARes.ret (AV.bool false), { boxes := [], toks := [], loops := [] : Heap })) (by simp only [IsRet]; grind [holdsB])))))) (by kernel_rfl)
    | some v =>
      have hgg : Gives cfg 48 [.sl .sh (s.map encP), .str x.key] (.tuple [.str v, .bool true]) := by
        have := get2 s x.key hs
        rwa [hg] at this
      exact goG 120 _  hT  (.len (show lenA false (AV.sl SK.sh (List.map encM l)) = some (AV.int IntKind.i64 (↑l.length : Int)) from len_map _) <| .yes (show (decide ((↑i : Int) < (↑l.length : Int))) = true from decide_eq_true (show (↑i : Int) < (↑l.length : Int) from (by omega))) <| .idx (show idxA (3 : Nat) (AV.sl SK.sh (List.map encM l)) (AV.int IntKind.i64 (↑i : Int)) = some (AV.ref (encM x).cells) from idx_row hd (by rfl)) <| .callG ([AV.sl SK.sh (List.map encP s), AV.str x.key]) (AV.tuple [AV.str v, AV.bool true]) (show Gives cfg (48 : FuncId) [AV.sl SK.sh (List.map encP s), AV.str x.key] (AV.tuple [AV.str v, AV.bool true]) from hgg) ⟨rfl, rfl⟩ ⟨rfl, rfl⟩ <| .idx (show idxA (3 : Nat) (AV.sl SK.sh (List.map encM l)) (AV.int IntKind.i64 (↑i : Int)) = some (AV.ref (encM x).cells) from idx_row hd (by rfl)) <| .split ((x.op == (1 : Int)) = true) (fun h1 => .yes (show (x.op == (1 : Int)) = true from h1) <| .tt <| .idx (show idxA (3 : Nat) (AV.sl SK.sh (List.map encM l)) (AV.int IntKind.i64 (↑i : Int)) = some (AV.ref (encM x).cells) from idx_row hd (by rfl)) <| .split ((v == x.val) = true) (fun h2 => .no (show (!v == x.val) = false from by have hh : (v == x.val) = true := h2; simp [hh]) <| .bin (show binA BinOp.add (AV.int IntKind.i64 (↑i : Int)) (AV.int IntKind.i64 (1 : Int)) = some (AV.int IntKind.i64 (↑(i + (1 : Nat)) : Int)) from inc_i (by omega)) <| .cutQ k50_0 [(0, AV.sl SK.sh (List.map encM l)), (1, AV.sl SK.sh (List.map encP s)), (5, AV.int IntKind.i64 (↑(i + (1 : Nat)) : Int))] ({ boxes := [], toks := [], loops := [] : Heap }) (fun T hT => (ih (i + (1 : Nat)) hnx T hT).to (by grind [holdsB]))) (fun h2 => .yes (show (!v == x.val) = true from by have hh : ¬ ((v == x.val) = true) := h2; simp [hh]) <| .fin ((ARes.ret (AV.bool false), { boxes := [], toks := [], loops := [] : Heap })) (by simp only [IsRet]; grind [holdsB]))) (fun h1 => .no (show (x.op == (1 : Int)) = false from Bool.eq_false_iff.2 (show ¬ ((x.op == (1 : Int)) = true) from h1)) <| .split ((x.op == (2 : Int)) = true) (fun h2 => .yes (show (x.op == (2 : Int)) = true from h2) <| .ff <| .idx (show idxA (3 : Nat) (AV.sl SK.sh (List.map encM l)) (AV.int IntKind.i64 (↑i : Int)) = some (AV.ref (encM x).cells) from idx_row hd (by rfl)) <| .split ((v == x.val) = true) (fun h3 => .yes (show (!!v == x.val) = true from by have hh : (v == x.val) = true := h3; simp [hh]) <| .fin ((ARes.ret (AV.bool false), { boxes := [], toks := [], loops := [] : Heap })) (by simp only [IsRet]; grind [holdsB])) (fun h3 => .no (show (!!v == x.val) = false from by have hh : ¬ ((v == x.val) = true) := h3; simp [hh]) <| .bin (show binA BinOp.add (AV.int IntKind.i64 (↑i : Int)) (AV.int IntKind.i64 (1 : Int)) = some (AV.int IntKind.i64 (↑(i + (1 : Nat)) : Int)) from inc_i (by omega)) <| .cutQ k50_0 [(0, AV.sl SK.sh (List.map encM l)), (1, AV.sl SK.sh (List.map encP s)), (5, AV.int IntKind.i64 (↑(i + (1 : Nat)) : Int))] ({ boxes := [], toks := [], loops := [] : Heap }) (fun T hT => (ih (i + (1 : Nat)) hnx T hT).to (by grind [holdsB])))) (fun h2 => .no (show (x.op == (2 : Int)) = false from Bool.eq_false_iff.2 (show ¬ ((x.op == (2 : Int)) = true) from h2)) <| .split ((x.op == (3 : Int)) = true) (fun h3 => .yes (show (x.op == (3 : Int)) = true from h3) <| .ff <| .bin (show binA BinOp.add (AV.int IntKind.i64 (↑i : Int)) (AV.int IntKind.i64 (1 : Int)) = some (AV.int IntKind.i64 (↑(i + (1 : Nat)) : Int)) from inc_i (by omega)) <| .cutQ k50_0 [(0, AV.sl SK.sh (List.map encM l)), (1, AV.sl SK.sh (List.map encP s)), (5, AV.int IntKind.i64 (↑(i + (1 : Nat)) : Int))] ({ boxes := [], toks := [], loops := [] : Heap }) (fun T hT => (ih (i + (1 : Nat)) hnx T hT).to (by grind [holdsB]))) (fun h3 => .no (show (x.op == (3 : Int)) = false from Bool.eq_false_iff.2 (show ¬ ((x.op == (3 : Int)) = true) from h3)) <| .split ((x.op == (4 : Int)) = true) (fun h4 => .yes (show (x.op == (4 : Int)) = true from h4) <| .tt <| .fin ((ARes.ret (AV.bool false), { boxes := [], toks := [], loops := [] : Heap })) (by simp only [IsRet]; grind [holdsB])) (fun h4 => .no (show (x.op == (4 : Int)) = false from Bool.eq_false_iff.2 (show ¬ ((x.op == (4 : Int)) = true) from h4)) <| .tt <| .fin ((ARes.ret (AV.bool false), { boxes := [], toks := [], loops := [] : Heap })) (by simp only [IsRet]; grind [holdsB])))))) (by kernel_rfl)
theorem match2 (s : List Pair) (l : List Term) (hs : s.length < 9223372036854775807) (hn : l.length < 9223372036854775807) : Gives cfg 50 [.sl .sh (l.map encM), .sl .sh (s.map encP)] (.bool (matchB s l)) := by
  refine Gives.run (l50 _ _) ?_
  have h := match2_loop s l hs hn l 0 rfl
  exact goG 60 []  trivial  (.cutQ k50_0 [(0, AV.sl SK.sh (List.map encM l)), (1, AV.sl SK.sh (List.map encP s)), (5, AV.int IntKind.i64 (0 : Int))] ({ boxes := [], toks := [], loops := [] : Heap }) (fun T hT => (h T hT))) (by kernel_rfl)
theorem sameP_loop (l : List Pair) (hn : l.length < 9223372036854775807) : ∀ (post : List Pair) (i : Nat) (hd : l.drop i = post) (T : Env) (hT : Has T [(0, .sl .sh (l.map encP)), (1, .sl .sh (l.map encP)), (5, .int .i64 i)]),
    Goes cfg a57 k57_0 T Heap.nil (IsRet (.bool true)) := by
  intro post
  induction post with
  | nil =>
    intro i hd T hT
    have hge := drop_ge hd
    exact goG 60 _  hT  (.len (show lenA false (AV.sl SK.sh (List.map encP l)) = some (AV.int IntKind.i64 (↑l.length : Int)) from len_map _) <| .no (show (decide ((↑i : Int) < (↑l.length : Int))) = false from decide_eq_false (show ¬ ((↑i : Int) < (↑l.length : Int)) from (by omega))) <| .fin ((ARes.ret (AV.bool true), { boxes := [], toks := [], loops := [] : Heap })) rfl) (by kernel_rfl)
  | cons x post ih =>
    intro i hd T hT
    have hlt := drop_lt hd
    have hnx := drop_next hd
    exact goG 60 _  hT  (.len (show lenA false (AV.sl SK.sh (List.map encP l)) = some (AV.int IntKind.i64 (↑l.length : Int)) from len_map _) <| .yes (show (decide ((↑i : Int) < (↑l.length : Int))) = true from decide_eq_true (show (↑i : Int) < (↑l.length : Int) from (by omega))) <| .idx (show idxA (2 : Nat) (AV.sl SK.sh (List.map encP l)) (AV.int IntKind.i64 (↑i : Int)) = some (AV.ref (encP x).cells) from idx_row hd (by rfl)) <| .idx (show idxA (2 : Nat) (AV.sl SK.sh (List.map encP l)) (AV.int IntKind.i64 (↑i : Int)) = some (AV.ref (encP x).cells) from idx_row hd (by rfl)) <| .no (show (if true = true then !(x.key == x.key && (x.val == x.val && true)) else x.key == x.key && (x.val == x.val && true)) = false from Bool.eq_false_iff.2 (show ¬ ((if true = true then !(x.key == x.key && (x.val == x.val && true)) else x.key == x.key && (x.val == x.val && true)) = true) from (by simp))) <| .bin (show binA BinOp.add (AV.int IntKind.i64 (↑i : Int)) (AV.int IntKind.i64 (1 : Int)) = some (AV.int IntKind.i64 (↑(i + (1 : Nat)) : Int)) from inc_i (by omega)) <| .cutQ k57_0 [(0, AV.sl SK.sh (List.map encP l)), (1, AV.sl SK.sh (List.map encP l)), (5, AV.int IntKind.i64 (↑(i + (1 : Nat)) : Int))] ({ boxes := [], toks := [], loops := [] : Heap }) (fun T hT => (ih (i + (1 : Nat)) hnx T hT))) (by kernel_rfl)
theorem sameP (l : List Pair) (hn : l.length < 9223372036854775807) : Gives cfg 57 [.sl .sh (l.map encP), .sl .sh (l.map encP)] (.bool true) := by
  refine Gives.run (l57 _ _) ?_
  have h := sameP_loop l hn l 0 rfl
  exact goG 60 []  trivial  (.len (show lenA false (AV.sl SK.sh (List.map encP l)) = some (AV.int IntKind.i64 (↑l.length : Int)) from len_map _) <| .len (show lenA false (AV.sl SK.sh (List.map encP l)) = some (AV.int IntKind.i64 (↑l.length : Int)) from len_map _) <| .no (show ((↑l.length : Int) != (↑l.length : Int)) = false from Bool.eq_false_iff.2 (show ¬ (((↑l.length : Int) != (↑l.length : Int)) = true) from (by simp))) <| .cutQ k57_0 [(0, AV.sl SK.sh (List.map encP l)), (1, AV.sl SK.sh (List.map encP l)), (5, AV.int IntKind.i64 (0 : Int))] ({ boxes := [], toks := [], loops := [] : Heap }) (fun T hT => (h T hT))) (by kernel_rfl)
theorem sameM_loop (l : List Term) (hn : l.length < 9223372036854775807) : ∀ (post : List Term) (i : Nat) (hd : l.drop i = post) (T : Env) (hT : Has T [(0, .sl .sh (l.map encM)), (1, .sl .sh (l.map encM)), (5, .int .i64 i)]),
    Goes cfg a58 k58_0 T Heap.nil (IsRet (.bool true)) := by
  intro post
  induction post with
  | nil =>
    intro i hd T hT
    have hge := drop_ge hd
    exact goG 60 _  hT  (.len (show lenA false (AV.sl SK.sh (List.map encM l)) = some (AV.int IntKind.i64 (↑l.length : Int)) from len_map _) <| .no (show (decide ((↑i : Int) < (↑l.length : Int))) = false from decide_eq_false (show ¬ ((↑i : Int) < (↑l.length : Int)) from (by omega))) <| .fin ((ARes.ret (AV.bool true), { boxes := [], toks := [], loops := [] : Heap })) rfl) (by kernel_rfl)
  | cons x post ih =>
    intro i hd T hT
    have hlt := drop_lt hd
    have hnx := drop_next hd
    exact goG 60 _  hT  (.len (show lenA false (AV.sl SK.sh (List.map encM l)) = some (AV.int IntKind.i64 (↑l.length : Int)) from len_map _) <| .yes (show (decide ((↑i : Int) < (↑l.length : Int))) = true from decide_eq_true (show (↑i : Int) < (↑l.length : Int) from (by omega))) <| .idx (show idxA (3 : Nat) (AV.sl SK.sh (List.map encM l)) (AV.int IntKind.i64 (↑i : Int)) = some (AV.ref (encM x).cells) from idx_row hd (by rfl)) <| .idx (show idxA (3 : Nat) (AV.sl SK.sh (List.map encM l)) (AV.int IntKind.i64 (↑i : Int)) = some (AV.ref (encM x).cells) from idx_row hd (by rfl)) <| .no (show (if true = true then !(x.op == x.op && (x.key == x.key && (x.val == x.val && true))) else x.op == x.op && (x.key == x.key && (x.val == x.val && true))) = false from Bool.eq_false_iff.2 (show ¬ ((if true = true then !(x.op == x.op && (x.key == x.key && (x.val == x.val && true))) else x.op == x.op && (x.key == x.key && (x.val == x.val && true))) = true) from (by simp))) <| .bin (show binA BinOp.add (AV.int IntKind.i64 (↑i : Int)) (AV.int IntKind.i64 (1 : Int)) = some (AV.int IntKind.i64 (↑(i + (1 : Nat)) : Int)) from inc_i (by omega)) <| .cutQ k58_0 [(0, AV.sl SK.sh (List.map encM l)), (1, AV.sl SK.sh (List.map encM l)), (5, AV.int IntKind.i64 (↑(i + (1 : Nat)) : Int))] ({ boxes := [], toks := [], loops := [] : Heap }) (fun T hT => (ih (i + (1 : Nat)) hnx T hT))) (by kernel_rfl)
theorem sameM (l : List Term) (hn : l.length < 9223372036854775807) : Gives cfg 58 [.sl .sh (l.map encM), .sl .sh (l.map encM)] (.bool true) := by
  refine Gives.run (l58 _ _) ?_
  have h := sameM_loop l hn l 0 rfl
  exact goG 60 []  trivial  (.len (show lenA false (AV.sl SK.sh (List.map encM l)) = some (AV.int IntKind.i64 (↑l.length : Int)) from len_map _) <| .len (show lenA false (AV.sl SK.sh (List.map encM l)) = some (AV.int IntKind.i64 (↑l.length : Int)) from len_map _) <| .no (show ((↑l.length : Int) != (↑l.length : Int)) = false from Bool.eq_false_iff.2 (show ¬ (((↑l.length : Int) != (↑l.length : Int)) = true) from (by simp))) <| .cutQ k58_0 [(0, AV.sl SK.sh (List.map encM l)), (1, AV.sl SK.sh (List.map encM l)), (5, AV.int IntKind.i64 (0 : Int))] ({ boxes := [], toks := [], loops := [] : Heap }) (fun T hT => (h T hT))) (by kernel_rfl)
end Go.Aa.T

set_option linter.unusedVariables false
set_option linter.unusedSimpArgs false
set_option maxRecDepth 100000
namespace Go.Aa.T
open Go.Aa Go.Proofs
theorem cutAt_hit {c : UInt8} {b : List UInt8} : ∀ {a : List UInt8}, c ∉ a → cutAt c (a ++ c :: b) = some (a, b)
  | [], _ => by simp [cutAt]
  | x :: a, h => by
    simp only [List.mem_cons, not_or] at h
    have hx : ¬ x = c := fun e => h.1 e.symm
    simp only [List.cons_append, cutAt, if_neg hx, cutAt_hit h.2, Option.map_some]
theorem cutAt_miss {c : UInt8} : ∀ {a : List UInt8}, c ∉ a → cutAt c a = none
  | [], _ => rfl
  | x :: a, h => by
    simp only [List.mem_cons, not_or] at h
    have hx : ¬ x = c := fun e => h.1 e.symm
    simp only [cutAt, if_neg hx, cutAt_miss h.2, Option.map_none]
theorem tail_cons (y : List UInt8) (r : List (List UInt8)) : Lib.joinTail [44] (y :: r) = 44 :: (y ++ Lib.joinTail [44] r) := by simp [Lib.joinTail]
theorem parts_tail : ∀ (r : List (List UInt8)) (x : List UInt8), (44 : UInt8) ∉ x → (∀ y ∈ r, (44 : UInt8) ∉ y) → parts 44 (x ++ Lib.joinTail [44] r) = x :: r
  | [], x, hx, _ => by simp only [Lib.joinTail, List.map_nil, List.flatten_nil, List.append_nil]; exact parts_none hx
  | y :: r, x, hx, hr => by
    rw [tail_cons, parts_some hx, parts_tail r y (hr y (by simp)) (fun z hz => hr z (by simp [hz]))]
theorem parts_join {x : List UInt8} {r : List (List UInt8)} (h : ∀ y ∈ x :: r, (44 : UInt8) ∉ y) : parts 44 (Lib.join (x :: r) [44]) = x :: r := by
  rw [Lib.join_cons]
  exact parts_tail r x (h x (by simp)) (fun y hy => h y (by simp [hy]))
section
variable {X : Type} {pf : List UInt8 → Option X} {text : X → List UInt8} {ck : List X → Int}
theorem collect_text (acc l : List X) (h : ∀ x ∈ l, text x ≠ [] ∧ pf (text x) = some x) : foldE (collect pf) acc (l.map text) = some (acc ++ l) := by
  induction l generalizing acc with
  | nil => simp [foldE]
  | cons x l ih =>
    obtain ⟨h1, h2⟩ := h x (by simp)
    simp only [List.map_cons, foldE, collect, if_neg h1, h2, Option.map_some]
    rw [ih _ (fun y hy => h y (by simp [hy]))]
    simp
theorem told_read (l : List X) (hck : ck l = 0) (h : ∀ x ∈ l, text x ≠ [] ∧ (44 : UInt8) ∉ text x ∧ text x ≠ [45] ∧ pf (text x) = some x) : parsed pf ck (textOf text l) = (l, 0) := by
  cases l with
  | nil => rfl
  | cons x l =>
    have e : textOf text (x :: l) = Lib.join ((x :: l).map text) [44] := rfl
    rw [e]
    have hp : parts 44 (Lib.join ((x :: l).map text) [44]) = (x :: l).map text := parts_join (fun y hy => by
      have hy' : y ∈ (x :: l).map text := hy
      obtain ⟨z, hz, rfl⟩ := List.mem_map.1 hy'
      exact (h z hz).2.1)
    have hne : ¬ Lib.join ((x :: l).map text) [44] = [45] := fun e => by
      rw [e] at hp
      have e2 : parts 44 [45] = [[45]] := rfl
      rw [e2] at hp
      simp only [List.map_cons, List.cons.injEq] at hp
      exact (h x (by simp)).2.2.1 hp.1.symm
    unfold parsed
    rw [if_neg hne, hp, collect_text [] (x :: l) (fun y hy => ⟨(h y hy).1, (h y hy).2.2.2⟩)]
    simp [hck]
end

theorem ckSl_good (l : List Pair) : ∀ (post : List Pair) (i : Nat), ckSl l i post = 0 → ∀ x ∈ post, goodP x = true
  | [], _, _ => by simp
  | x :: post, i, h => by
    unfold ckSl at h
    split at h
    · rename_i hg
      split at h
      · cases h
      · intro y hy
        rcases List.mem_cons.1 hy with rfl | hy
        · exact hg
        · exact ckSl_good l post _ h y hy
    · cases h
theorem ckS_good {l : List Pair} (h : ckS l = 0) : ∀ x ∈ l, goodP x = true := by
  unfold ckS at h
  split at h
  · exact ckSl_good l l 0 h
  · cases h
theorem ckMl_good : ∀ (post : List Term), ckMl post = 0 → ∀ x ∈ post, goodM x = true
  | [], _ => by simp
  | x :: post, h => by
    unfold ckMl at h
    split at h
    · rename_i ho
      split at h
      · rename_i hg
        intro y hy
        rcases List.mem_cons.1 hy with rfl | hy
        · simp only [goodM, Bool.and_eq_true, decide_eq_true_eq] at hg ⊢
          exact ⟨ho, hg⟩
        · exact ckMl_good post h y hy
      · cases h
    · cases h
theorem ckM_good {l : List Term} (h : ckM l = 0) : ∀ x ∈ l, goodM x = true := by
  unfold ckM at h
  split at h
  · exact ckMl_good l h
  · cases h
theorem two58 {a b : List UInt8} (h : (a ++ 58 :: b : List UInt8) = [45]) : False := by
  cases a with
  | nil => simp at h
  | cons x a => cases a <;> simp at h
theorem pText_read {l : List Pair} (h : ckS l = 0) : parsed partP ckS (textOf pText l) = (l, 0) := by
  refine told_read l h fun x hx => ?_
  have hg := ckS_good h x hx
  obtain ⟨h1, h2⟩ := pText_ok x hg
  simp only [goodP, Bool.and_eq_true] at hg
  have e : pText x = x.key ++ 58 :: x.val := by simp [pText]
  refine ⟨h1, h2, fun e2 => two58 (e ▸ e2), ?_⟩
  rw [e]
  unfold partP
  rw [cutAt_hit (name_no hg.1 rfl)]
  simp only
  rw [if_neg (name_no hg.2 rfl)]
theorem signs_key {s : List UInt8} (h : isName s = true) : Lib.countByte s 58 = 0 ∧ Lib.countByte s 33 = 0 := ⟨count_no (name_no h rfl), count_no (name_no h rfl)⟩
theorem count_app (a b : List UInt8) (c : UInt8) : Lib.countByte (a ++ b) c = Lib.countByte a c + Lib.countByte b c := List.count_append
theorem count_one (c d : UInt8) (a : List UInt8) : Lib.countByte (d :: a) c = Lib.countByte a c + if d == c then 1 else 0 := List.count_cons
theorem mText_read {l : List Term} (h : ckM l = 0) : parsed partM ckM (textOf mText l) = (l, 0) := by
  refine told_read l h fun x hx => ?_
  have hg := ckM_good h x hx
  obtain ⟨h1, h2⟩ := mText_ok x hg
  simp only [goodM, Bool.and_eq_true, decide_eq_true_eq] at hg
  obtain ⟨⟨g1, g4⟩, hk, hv⟩ := hg
  obtain ⟨c1, c2⟩ := signs_key hk
  have k58 := name_no hk (c := 58) rfl
  have k33 := name_no hk (c := 33) rfl
  have k45 := name_no hk (c := 45) rfl
  by_cases o1 : x.op = 1
  · have hv' : isName x.val = true := by simpa [valOk, o1] using hv
    obtain ⟨d1, d2⟩ := signs_key hv'
    have e : mText x = x.key ++ 58 :: x.val := by simp [mText, o1]
    refine ⟨h1, h2, fun e2 => two58 (e ▸ e2), ?_⟩
    rw [e]
    have hn : nSigns (x.key ++ 58 :: x.val) = 1 := by simp [nSigns, count_app, count_one, c1, c2, d1, d2]
    have hh := head_no hk (58 :: x.val) (c := 45) rfl
    unfold partM
    rw [hn, if_neg (fun hq => hq.elim (fun h => absurd h (by decide)) (fun h => hh h.2)), if_neg hh, cutAt_hit k58]
    simp [← o1]
  · by_cases o2 : x.op = 2
    · have hv' : isName x.val = true := by simpa [valOk, o2] using hv
      obtain ⟨d1, d2⟩ := signs_key hv'
      have e : mText x = x.key ++ 33 :: x.val := by simp [mText, o2]
      refine ⟨h1, h2, fun e2 => ?_, ?_⟩
      · rw [e] at e2
        have : (33 : UInt8) ∈ ([45] : List UInt8) := by rw [← e2]; simp
        simp at this
      rw [e]
      have hn : nSigns (x.key ++ 33 :: x.val) = 1 := by simp [nSigns, count_app, count_one, c1, c2, d1, d2]
      have hh := head_no hk (33 :: x.val) (c := 45) rfl
      unfold partM
      rw [hn, if_neg (fun hq => hq.elim (fun h => absurd h (by decide)) (fun h => hh h.2)), if_neg hh, cutAt_miss (by simp [k58, name_no hv' (c := 58) rfl]), cutAt_hit k33]
      simp [← o2]
    · have hv' : x.val = [] := by
        have : ¬ x.op ≤ 2 := by omega
        simpa [valOk, this] using hv
      by_cases o3 : x.op = 3
      · have e : mText x = x.key := by simp [mText, o3]
        refine ⟨h1, h2, fun e2 => k45 (by rw [← e, e2]; simp), ?_⟩
        rw [e]
        have hn : nSigns x.key = 0 := by simp [nSigns, c1, c2]
        have hh : x.key.head? ≠ some 45 := by simpa using head_no hk [] (c := 45) rfl
        unfold partM
        rw [hn, if_neg (by simp), if_neg hh, cutAt_miss k58, cutAt_miss k33]
        have ex : x = ⟨3, x.key, []⟩ := by
          obtain ⟨o, k, v⟩ := x
          simp only at o3 hv'
          subst o3 hv'
          rfl
        simp only
        exact congrArg some ex.symm
      · have o4 : x.op = 4 := by omega
        have e : mText x = 45 :: x.key := by simp [mText, o4]
        refine ⟨h1, h2, fun e2 => name_ne hk (by rw [e] at e2; simpa using e2), ?_⟩
        rw [e]
        have hn : nSigns (45 :: x.key) = 0 := by simp [nSigns, count_one, c1, c2]
        unfold partM
        rw [hn, if_neg (by simp), if_pos (by simp)]
        have ex : x = ⟨4, x.key, []⟩ := by
          obtain ⟨o, k, v⟩ := x
          simp only at o4 hv'
          subst o4 hv'
          rfl
        exact congrArg some ex.symm
theorem textOf_len {X : Type} (f : X → List UInt8) (l : List X) (hn : l.length ≤ 8) (h : ∀ x ∈ l, (f x).length ≤ 103) : (textOf f l).length ≤ 1000 := by
  unfold textOf
  split
  · simp
  · cases l with
    | nil => simp [Lib.join_nil]
    | cons x r =>
      rw [List.map_cons, Lib.join_cons, List.length_append]
      have h1 := h x (by simp)
      have h2 := tail_len (r.map f) (fun s hs => by
        obtain ⟨y, hy, rfl⟩ := List.mem_map.1 hs
        exact h y (by simp [hy]))
      simp only [List.length_map, List.length_cons] at h2 hn
      omega
end Go.Aa.T

set_option linter.unusedVariables false
set_option linter.unusedSimpArgs false
set_option maxRecDepth 100000
namespace Go.Aa.T
open Go.Aa Go.Proofs
theorem goodP_len {l : List Pair} (h : ckS l = 0) : (textOf pText l).length ≤ 1000 := by
  refine textOf_len pText l ?_ fun x hx => ?_
  · unfold ckS at h; split at h <;> first | assumption | cases h
  · have hg := ckS_good h x hx
    simp only [goodP, Bool.and_eq_true] at hg
    exact pText_len x (by have := name_len hg.1; omega) (by have := name_len hg.2; omega)
theorem goodM_len {l : List Term} (h : ckM l = 0) : (textOf mText l).length ≤ 1000 := by
  refine textOf_len mText l ?_ fun x hx => ?_
  · unfold ckM at h; split at h <;> first | assumption | cases h
  · have hg := ckM_good h x hx
    simp only [goodM, Bool.and_eq_true, decide_eq_true_eq] at hg
    refine mText_len x (by have := name_len hg.2.1; omega) ?_
    have := hg.2.2
    unfold valOk at this
    split at this
    · have := name_len this; omega
    · have : x.val = [] := by simpa using this
      rw [this]; simp
theorem labelAny (s : List Pair) (l : List Term) (k : List UInt8) : Gives cfg 8 [.sl .sh (s.map encP), .sl .sh (l.map encM), .str k] (.bool true) := by
  refine Gives.run (l8 _ _) ?_
  have hp1 : ∀ (e : ckS s = 0), Gives cfg 55 [.str (textOf pText s)] (.tuple [.sl .sh (s.map encP), .int .i64 0]) := fun e => by
    have p1 := parseP (textOf pText s) (goodP_len e)
    rw [pText_read e] at p1
    exact p1
  have hp2 : ∀ (e : ckM l = 0), Gives cfg 56 [.str (textOf mText l)] (.tuple [.sl .sh (l.map encM), .int .i64 0]) := fun e => by
    have p1 := parseM (textOf mText l) (goodM_len e)
    rw [mText_read e] at p1
    exact p1
  have ho : ∀ (e : ckM l = 0), ∀ x ∈ l, 1 ≤ x.op ∧ x.op ≤ 4 := fun e x hx => by
    have hg := ckM_good e x hx
    simp only [goodM, Bool.and_eq_true, decide_eq_true_eq] at hg
    exact hg.1
  exact goG 120 []  trivial  (.callG ([]) (AV.bool true) (Gives.of (show lim cfg (Key.fn (38 : FuncId)) [] Heap.nil = some (ARes.ret (AV.bool true), Classical.choose known_ret38) from known4')) ⟨rfl, rfl⟩ ⟨rfl, rfl⟩ <| .ff <| .callG ([AV.sl SK.sh (List.map encP s)]) (AV.bool (fewP s)) (show Gives cfg (39 : FuncId) [AV.sl SK.sh (List.map encP s)] (AV.bool (fewP s)) from fewP_any _) ⟨rfl, rfl⟩ ⟨rfl, rfl⟩ <| .split (fewP s = true) (fun h1 => .no (show (!fewP s) = false from by have hh : fewP s = true := h1; simp [hh]) <| .callG ([AV.sl SK.sh (List.map encM l)]) (AV.bool (fewM l)) (show Gives cfg (40 : FuncId) [AV.sl SK.sh (List.map encM l)] (AV.bool (fewM l)) from fewM_any _) ⟨rfl, rfl⟩ ⟨rfl, rfl⟩ <| .split (fewM l = true) (fun h2 => .no (show (!fewM l) = false from by have hh : fewM l = true := h2; simp [hh]) <| .len (show lenA true (AV.str k) = some (AV.int IntKind.i64 (↑k.length : Int)) from len_str _) <| .split ((50 : Int) < (↑k.length : Int)) (fun h3 => .yes (show (decide ((50 : Int) < (↑k.length : Int))) = true from decide_eq_true (show (50 : Int) < (↑k.length : Int) from h3)) <| .fin ((ARes.ret (AV.bool true), { boxes := [], toks := [], loops := [] : Heap })) rfl) (fun h3 => .no (show (decide ((50 : Int) < (↑k.length : Int))) = false from decide_eq_false (show ¬ ((50 : Int) < (↑k.length : Int)) from h3)) <| .callG ([AV.sl SK.sh (List.map encP s)]) (AV.sl SK.sh (List.map encP s)) (show Gives cfg (41 : FuncId) [AV.sl SK.sh (List.map encP s)] (rowS Heap.nil (List.map encP s)) from ofP_any _ (by exact fewP_len (by assumption))) ⟨rfl, rfl⟩ Res.p <| .callG ([AV.sl SK.sh (List.map encM l)]) (AV.sl SK.sh (List.map encM l)) (show Gives cfg (42 : FuncId) [AV.sl SK.sh (List.map encM l)] (rowS Heap.nil (List.map encM l)) from ofM_any _ (by exact fewM_len (by assumption))) ⟨rfl, rfl⟩ Res.p <| .callG ([AV.sl SK.sh (List.map encP s)]) (AV.int IntKind.i64 (ckS s)) (show Gives cfg (43 : FuncId) [AV.sl SK.sh (List.map encP s)] (AV.int IntKind.i64 (ckS s)) from ckS_ref _) ⟨rfl, rfl⟩ ⟨rfl, rfl⟩ <| .callG ([AV.sl SK.sh (List.map encM l)]) (AV.int IntKind.i64 (ckM l)) (show Gives cfg (44 : FuncId) [AV.sl SK.sh (List.map encM l)] (AV.int IntKind.i64 (ckM l)) from ckM_ref _) ⟨rfl, rfl⟩ ⟨rfl, rfl⟩ <| .callG ([AV.sl SK.sh (List.map encP s)]) (AV.int IntKind.i64 (ckS s)) (show Gives cfg (45 : FuncId) [AV.sl SK.sh (List.map encP s)] (AV.int IntKind.i64 (ckS s)) from ckS_any _) ⟨rfl, rfl⟩ ⟨rfl, rfl⟩ <| .no (show (ckS s != ckS s) = false from Bool.eq_false_iff.2 (show ¬ ((ckS s != ckS s) = true) from (by simp))) <| .callG ([AV.sl SK.sh (List.map encM l)]) (AV.int IntKind.i64 (ckM l)) (show Gives cfg (46 : FuncId) [AV.sl SK.sh (List.map encM l)] (AV.int IntKind.i64 (ckM l)) from ckM_any _) ⟨rfl, rfl⟩ ⟨rfl, rfl⟩ <| .no (show (ckM l != ckM l) = false from Bool.eq_false_iff.2 (show ¬ ((ckM l != ckM l) = true) from (by simp))) <| .split ((ckS s != (0 : Int)) = true) (fun h4 => .yes (show (ckS s != (0 : Int)) = true from h4) <| .tt <| .fin ((ARes.ret (AV.bool true), { boxes := [], toks := [], loops := [] : Heap })) rfl) (fun h4 => .no (show (ckS s != (0 : Int)) = false from Bool.eq_false_iff.2 (show ¬ ((ckS s != (0 : Int)) = true) from h4)) <| .split ((ckM l != (0 : Int)) = true) (fun h5 => .yes (show (ckM l != (0 : Int)) = true from h5) <| .fin ((ARes.ret (AV.bool true), { boxes := [], toks := [], loops := [] : Heap })) rfl) (fun h5 => .no (show (ckM l != (0 : Int)) = false from Bool.eq_false_iff.2 (show ¬ ((ckM l != (0 : Int)) = true) from h5)) <| .callG ([AV.sl SK.sh (List.map encP s), AV.str k]) (AV.tuple [AV.str ((getP s k).getD []), AV.bool (getP s k).isSome]) (show Gives cfg (47 : FuncId) [AV.sl SK.sh (List.map encP s), AV.str k] (getV (getP s k)) from get_any _ _ (by have := fewP_len (by assumption); omega)) ⟨rfl, rfl⟩ ⟨rfl, rfl⟩ <| .callG ([AV.sl SK.sh (List.map encP s), AV.str k]) (AV.tuple [AV.str ((getP s k).getD []), AV.bool (getP s k).isSome]) (show Gives cfg (48 : FuncId) [AV.sl SK.sh (List.map encP s), AV.str k] (getV (getP s k)) from get2 _ _ (by have := fewP_len (by assumption); omega)) ⟨rfl, rfl⟩ ⟨rfl, rfl⟩ <| .no (show (!(getP s k).getD [] == (getP s k).getD []) = false from by have hh : ((getP s k).getD [] == (getP s k).getD []) = true := (by simp); simp [hh]) <| .no (show (if true = true then !(getP s k).isSome == (getP s k).isSome else (getP s k).isSome == (getP s k).isSome) = false from Bool.eq_false_iff.2 (show ¬ ((if true = true then !(getP s k).isSome == (getP s k).isSome else (getP s k).isSome == (getP s k).isSome) = true) from (by simp))) <| .callG ([AV.sl SK.sh (List.map encM l), AV.sl SK.sh (List.map encP s)]) (AV.bool (matchB s l)) (show Gives cfg (49 : FuncId) [AV.sl SK.sh (List.map encM l), AV.sl SK.sh (List.map encP s)] (AV.bool (matchB s l)) from match_any _ _ (by have := fewP_len (by assumption); omega) (by have := fewM_len (by assumption); omega)) ⟨rfl, rfl⟩ ⟨rfl, rfl⟩ <| .callG ([AV.sl SK.sh (List.map encM l), AV.sl SK.sh (List.map encP s)]) (AV.bool (matchB s l)) (show Gives cfg (50 : FuncId) [AV.sl SK.sh (List.map encM l), AV.sl SK.sh (List.map encP s)] (AV.bool (matchB s l)) from match2 _ _ (by have := fewP_len (by assumption); omega) (by have := fewM_len (by assumption); omega)) ⟨rfl, rfl⟩ ⟨rfl, rfl⟩ <| .no (show (if true = true then !matchB s l == matchB s l else matchB s l == matchB s l) = false from Bool.eq_false_iff.2 (show ¬ ((if true = true then !matchB s l == matchB s l else matchB s l == matchB s l) = true) from (by simp))) <| .callG ([AV.sl SK.sh (List.map encP s)]) (AV.str (textOf pText s)) (show Gives cfg (51 : FuncId) [AV.sl SK.sh (List.map encP s)] (AV.str (textOf pText s)) from pText_any _ h1) ⟨rfl, rfl⟩ ⟨rfl, rfl⟩ <| .callG ([AV.sl SK.sh (List.map encP s)]) (AV.str (textOf pText s)) (show Gives cfg (52 : FuncId) [AV.sl SK.sh (List.map encP s)] (AV.str (textOf pText s)) from pText_ref _ h1) ⟨rfl, rfl⟩ ⟨rfl, rfl⟩ <| .no (show (!textOf pText s == textOf pText s) = false from by have hh : (textOf pText s == textOf pText s) = true := (by simp); simp [hh]) <| .callG ([AV.sl SK.sh (List.map encM l)]) (AV.str (textOf mText l)) (show Gives cfg (53 : FuncId) [AV.sl SK.sh (List.map encM l)] (AV.str (textOf mText l)) from mText_any _ h2) ⟨rfl, rfl⟩ ⟨rfl, rfl⟩ <| .callG ([AV.sl SK.sh (List.map encM l)]) (AV.str (textOf mText l)) (show Gives cfg (54 : FuncId) [AV.sl SK.sh (List.map encM l)] (AV.str (textOf mText l)) from mText_ref _ h2 (by simp_all)) ⟨rfl, rfl⟩ ⟨rfl, rfl⟩ <| .no (show (!textOf mText l == textOf mText l) = false from by have hh : (textOf mText l == textOf mText l) = true := (by simp); simp [hh]) <| .callG ([AV.sl SK.sh (List.map encP s)]) (AV.str (textOf pText s)) (show Gives cfg (51 : FuncId) [AV.sl SK.sh (List.map encP s)] (AV.str (textOf pText s)) from pText_any _ h1) ⟨rfl, rfl⟩ ⟨rfl, rfl⟩ <| .callG ([AV.str (textOf pText s)]) (AV.tuple [AV.sl SK.sh (List.map encP s), AV.int IntKind.i64 (0 : Int)]) (show Gives cfg (55 : FuncId) [AV.str (textOf pText s)] (AV.tuple [AV.sl SK.sh (List.map encP s), AV.int IntKind.i64 (0 : Int)]) from hp1 (by simp_all)) ⟨rfl, rfl⟩ ⟨rfl, rfl⟩ <| .callG ([AV.sl SK.sh (List.map encM l)]) (AV.str (textOf mText l)) (show Gives cfg (53 : FuncId) [AV.sl SK.sh (List.map encM l)] (AV.str (textOf mText l)) from mText_any _ h2) ⟨rfl, rfl⟩ ⟨rfl, rfl⟩ <| .callG ([AV.str (textOf mText l)]) (AV.tuple [AV.sl SK.sh (List.map encM l), AV.int IntKind.i64 (0 : Int)]) (show Gives cfg (56 : FuncId) [AV.str (textOf mText l)] (AV.tuple [AV.sl SK.sh (List.map encM l), AV.int IntKind.i64 (0 : Int)]) from hp2 (by simp_all)) ⟨rfl, rfl⟩ ⟨rfl, rfl⟩ <| .bin (show binA BinOp.add (AV.int IntKind.i64 (0 : Int)) (AV.int IntKind.i64 (0 : Int)) = some (AV.int IntKind.i64 ((0 : Int) + (0 : Int))) from addI (by have := fewP_len (by assumption); omega) (by have := fewP_len (by assumption); omega)) <| .tt <| .callG ([AV.sl SK.sh (List.map encP s)]) (AV.sl SK.sh (List.map encP s)) (show Gives cfg (41 : FuncId) [AV.sl SK.sh (List.map encP s)] (rowS Heap.nil (List.map encP s)) from ofP_any _ (by exact fewP_len (by assumption))) ⟨rfl, rfl⟩ Res.p <| .callG ([AV.sl SK.sh (List.map encP s), AV.sl SK.sh (List.map encP s)]) (AV.bool true) (show Gives cfg (57 : FuncId) [AV.sl SK.sh (List.map encP s), AV.sl SK.sh (List.map encP s)] (AV.bool true) from sameP _ (by have := fewP_len (by assumption); omega)) ⟨rfl, rfl⟩ ⟨rfl, rfl⟩ <| .tt <| .callG ([AV.sl SK.sh (List.map encM l)]) (AV.sl SK.sh (List.map encM l)) (show Gives cfg (42 : FuncId) [AV.sl SK.sh (List.map encM l)] (rowS Heap.nil (List.map encM l)) from ofM_any _ (by exact fewM_len (by assumption))) ⟨rfl, rfl⟩ Res.p <| .callG ([AV.sl SK.sh (List.map encM l), AV.sl SK.sh (List.map encM l)]) (AV.bool true) (show Gives cfg (58 : FuncId) [AV.sl SK.sh (List.map encM l), AV.sl SK.sh (List.map encM l)] (AV.bool true) from sameM _ (by have := fewM_len (by assumption); omega)) ⟨rfl, rfl⟩ ⟨rfl, rfl⟩ <| .fin ((ARes.ret (AV.bool true), { boxes := [], toks := [], loops := [] : Heap })) rfl)))) (fun h2 => .yes (show (!fewM l) = true from by have hh : ¬ (fewM l = true) := h2; simp [hh]) <| .tt <| .fin ((ARes.ret (AV.bool true), { boxes := [], toks := [], loops := [] : Heap })) rfl)) (fun h1 => .yes (show (!fewP s) = true from by have hh : ¬ (fewP s = true) := h1; simp [hh]) <| .tt <| .tt <| .fin ((ARes.ret (AV.bool true), { boxes := [], toks := [], loops := [] : Heap })) rfl)) (by kernel_rfl)
end Go.Aa.T

set_option linter.unusedVariables false
set_option linter.unusedSimpArgs false
set_option maxRecDepth 100000
namespace Go.Aa.T
open Go.Aa Go.Proofs
theorem law8 (xs : List AV) (h : TyAll Tryd.prog 5 [70, 72, 9] xs) (hz : SzAll Tryd.prog [70, 72, 9] xs) : ∃ H', lim cfg (.fn 8) xs Heap.nil = some (.ret (.bool true), H') := by
  obtain ⟨x, y, z, rfl, hx, hy, hz'⟩ := tyall_3 h
  obtain ⟨s, rfl⟩ := tySet hx
  obtain ⟨l, rfl⟩ := tySel hy
  obtain ⟨k, rfl, -⟩ := tyv_string Tryd.underlying9 hz'
  exact (labelAny s l k).ret
end Go.Aa.T
