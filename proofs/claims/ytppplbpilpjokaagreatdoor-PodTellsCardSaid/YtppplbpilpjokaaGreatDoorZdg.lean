/-
  WHAT THE LAW LEANS ON, part 7 of 7: a machine of values and its soundness; the functions of the law upon it; what they come to.
-/
import Derived.Test.YtppplbpilpjokaaGreatDoorZdf
import Derived.Lib.ItoaLen
import Derived.JoinedOf
import Derived.Test.YtppplbpilpjokaaGreatDoorRows
import Derived.Stop.LaidErr

set_option linter.unusedVariables false
set_option linter.unusedSimpArgs false
set_option maxRecDepth 100000
namespace Go.Aa.T
open Go.Aa Go.Proofs
def lText (x : Tol) : List UInt8 := if x.any then (if x.key = [] then [42] else x.key) else (if x.key = [] then [42] else x.key) ++ [58] ++ x.val
def pText (x : Pair) : List UInt8 := x.key ++ [58] ++ x.val
def mText (x : Term) : List UInt8 := if x.op = 1 then x.key ++ [58] ++ x.val else if x.op = 2 then x.key ++ [33] ++ x.val else if x.op = 4 then [45] ++ x.key else x.key
def textOf {α : Type} (f : α → List UInt8) (l : List α) : List UInt8 := if l.isEmpty then [45] else Lib.join (l.map f) [44]
theorem tail_len : ∀ (r : List (List UInt8)), (∀ s ∈ r, s.length ≤ 103) → (Lib.joinTail [44] r).length ≤ r.length * 104
  | [], _ => by simp [Lib.joinTail]
  | s :: r, h => by
    have h1 := h s (by simp)
    have h2 := tail_len r (fun y hy => h y (by simp [hy]))
    simp only [Lib.joinTail, List.map_cons, List.flatten_cons, List.length_append, List.length_cons, List.length_nil] at h2 ⊢
    omega
theorem join_len (ss : List (List UInt8)) (h : ∀ s ∈ ss, s.length ≤ 103) (hn : ss.length ≤ 20) : (Lib.join ss [44]).length ≤ 3000 := by
  cases ss with
  | nil => simp [Lib.join_nil]
  | cons x r =>
    rw [Lib.join_cons, List.length_append]
    have h1 := h x (by simp)
    have h2 := tail_len r (fun y hy => h y (by simp [hy]))
    simp only [List.length_cons] at hn
    omega
theorem strsA_map (ss : List (List UInt8)) : strsA (ss.map AV.str) = some ss := by
  induction ss with
  | nil => rfl
  | cons s ss ih => simp [strsA, ih]
theorem join_any (ss : List (List UInt8)) (h1 : ss.length ≤ 140737488355328) (h2 : (Lib.join ss [44]).length ≤ 140737488355328) : Gives cfg 101 [.sl .sh (ss.map AV.str), .str [44]] (.str (Lib.join ss [44])) := by
  refine Gives.of (H' := Heap.nil) ?_
  rw [lim_ext (g := joinE) rfl rfl]
  have : joinE [.sl .sh (ss.map AV.str), .str [44]] Heap.nil = some (.str (Lib.join ss [44]), Heap.nil) := by
    simp only [joinE, strsA_map]
    exact if_pos ⟨h1, h2⟩
  rw [this]; rfl
theorem lenSt {l : List (List UInt8)} : lenOk 1 (l.map AV.str) = true := lenOk_map fun _ => rfl



theorem lText_len (x : Tol) (hk : x.key.length ≤ 50) (hv : x.val.length ≤ 50) : (lText x).length ≤ 103 := by
  unfold lText
  repeat' split
  all_goals (try simp)
  all_goals omega
theorem lText_one (x : Tol) (hk : x.key.length ≤ 50) (hv : x.val.length ≤ 50) : Gives cfg 179 [encL x] (.str (lText x)) := by
  refine Gives.run (l179 _ _) ?_
  exact goG 60 []  trivial  (.split (x.key = []) (fun g1 => .yes (show (x.key == []) = true from beq_iff_eq.2 (show x.key = [] from g1)) <| .split (x.any = true) (fun g2 => .yes (show (x.any) = true from g2) <| .fin ((ARes.ret (AV.str [(42 : UInt8)]), Heap.mk [[AV.str x.key, AV.str x.val, AV.bool x.any]] [] [])) (by simp [IsRet, lText, *])) (fun g2 => .no (show (x.any) = false from Bool.eq_false_iff.2 (show ¬ (x.any = true) from g2)) <| .bin (show binA BinOp.add (AV.str [(42 : UInt8)]) (AV.str [(58 : UInt8)]) = some (AV.str [(42 : UInt8), (58 : UInt8)]) from rfl) <| .bin (show binA BinOp.add (AV.str [(42 : UInt8), (58 : UInt8)]) (AV.str x.val) = some (AV.str ([(42 : UInt8), (58 : UInt8)] ++ x.val)) from str_add (by simp; omega)) <| .fin ((ARes.ret (AV.str ((42 : UInt8) :: (58 : UInt8) :: x.val)), Heap.mk [[AV.str x.key, AV.str x.val, AV.bool x.any]] [] [])) (by simp [IsRet, lText, *]))) (fun g1 => .no (show (x.key == []) = false from beq_eq_false_iff_ne.2 (show ¬ (x.key = []) from g1)) <| .split (x.any = true) (fun g2 => .yes (show (x.any) = true from g2) <| .fin ((ARes.ret (AV.str x.key), Heap.mk [[AV.str x.key, AV.str x.val, AV.bool x.any]] [] [])) (by simp [IsRet, lText, *])) (fun g2 => .no (show (x.any) = false from Bool.eq_false_iff.2 (show ¬ (x.any = true) from g2)) <| .bin (show binA BinOp.add (AV.str x.key) (AV.str [(58 : UInt8)]) = some (AV.str (x.key ++ [(58 : UInt8)])) from str_add (by simp; omega)) <| .bin (show binA BinOp.add (AV.str (x.key ++ [(58 : UInt8)])) (AV.str x.val) = some (AV.str (x.key ++ [(58 : UInt8)] ++ x.val)) from str_add (by simp; omega)) <| .fin ((ARes.ret (AV.str (x.key ++ [(58 : UInt8)] ++ x.val)), Heap.mk [[AV.str x.key, AV.str x.val, AV.bool x.any]] [] [])) (by simp [IsRet, lText, *])))) (by kernel_rfl)
theorem lText_loop (l : List Tol) (hn : l.length ≤ 20) (hf : ∀ x ∈ l, x.key.length ≤ 50 ∧ x.val.length ≤ 50) (hj : (Lib.join (l.map lText) [44]).length ≤ 3000) : ∀ (post : List Tol) (i : Nat) (acc : List (List UInt8)) (bs : List (List AV)) (hd : l.drop i = post) (ha : acc.length = i) (hall : acc ++ post.map lText = l.map lText) (T : Env)
    (hT : Has T [(1, .func 179 []), (5, rowS Heap.nil (acc.map AV.str)), (11, .sl .sh (l.map encL)), (12, .int .i64 l.length), (13, .int .i64 i)]),
    Goes cfg a178 k178_0 T (rowH ⟨bs, [], []⟩ (acc.map AV.str)) (IsRet (.str (Lib.join (l.map lText) [44]))) := by
  intro post
  induction post with
  | nil =>
    intro i acc bs hd ha hall T hT
    have hge := drop_ge hd
    have e : acc = l.map lText := by simpa using hall
    subst e
    exact goG 60 _  hT  (.no (show (decide ((↑i : Int) < (↑l.length : Int))) = false from decide_eq_false (show ¬ ((↑i : Int) < (↑l.length : Int)) from (by simp; omega))) <| .callG ([rowS Heap.nil (List.map AV.str (List.map lText l)), AV.str [(44 : UInt8)]]) (AV.str (Lib.join (List.map lText l) [(44 : UInt8)])) (show Gives cfg (101 : FuncId) [AV.sl SK.sh (List.map AV.str (List.map lText l)), AV.str [(44 : UInt8)]] (AV.str (Lib.join (List.map lText l) [(44 : UInt8)])) from join_any _ (by simp; omega) (by omega)) Shuts.p ⟨rfl, rfl⟩ <| .fin ((ARes.ret (AV.str (Lib.join (List.map lText l) [(44 : UInt8)])), rowH (Heap.mk bs [] []) (List.map AV.str (List.map lText l)))) rfl) (by kernel_rfl)
  | cons x post ih =>
    intro i acc bs hd ha hall T hT
    have hlt := drop_lt hd
    have hnx := drop_next hd
    obtain ⟨hk, hv⟩ := hf x (drop_mem hd)
    have hall2 : (acc ++ [lText x]) ++ post.map lText = l.map lText := by rw [← hall]; simp
    exact goG 60 _  hT  (.yes (show (decide ((↑i : Int) < (↑l.length : Int))) = true from decide_eq_true (show (↑i : Int) < (↑l.length : Int) from (by simp; omega))) <| .idx (show idxA (3 : Nat) (AV.sl SK.sh (List.map encL l)) (AV.int IntKind.i64 (↑i : Int)) = some (AV.ref (encL x).cells) from idx_row hd (by rfl)) <| .load (row_load (ys := List.map AV.str acc) (show loadA true (3 : Nat) (Heap.mk bs [] []) (AV.ref [AV.str x.key, AV.str x.val, AV.bool x.any]) = some (AV.agg [AV.str x.key, AV.str x.val, AV.bool x.any]) from rfl)) <| .boxR (AV.agg [AV.str [], AV.str [], AV.bool false]) (Heap.mk bs [] []) (List.map AV.str acc) rfl <| .store (row_store (ys := List.map AV.str acc) (show storeA (3 : Nat) (Heap.mk (bs ++ [[AV.str [], AV.str [], AV.bool false]]) [] []) (AV.ptr (Heap.mk bs [] []).boxes.length (0 : Nat)) (AV.agg [AV.str x.key, AV.str x.val, AV.bool x.any]) = some (Heap.mk (bs ++ [[AV.str x.key, AV.str x.val, AV.bool x.any]]) [] []) from store_box2 (cs := [AV.str [], AV.str [], AV.bool false]) (cs' := [AV.str x.key, AV.str x.val, AV.bool x.any]) (by simp [List.set_append]) rfl (by simp [List.set_append]))) <| .load (row_load (ys := List.map AV.str acc) (show loadA true (3 : Nat) (Heap.mk (bs ++ [[AV.str x.key, AV.str x.val, AV.bool x.any]]) [] []) (AV.ptr (Heap.mk bs [] []).boxes.length (0 : Nat)) = some (AV.agg [AV.str x.key, AV.str x.val, AV.bool x.any]) from load_box (cs := [AV.str x.key, AV.str x.val, AV.bool x.any]) (by simp [List.set_append]) rfl)) <| .callG ([AV.agg [AV.str x.key, AV.str x.val, AV.bool x.any]]) (AV.str (lText x)) (show Gives cfg (179 : FuncId) [encL x] (AV.str (lText x)) from lText_one _ hk hv) ⟨rfl, rfl⟩ ⟨rfl, rfl⟩ <| .append (show appendA (1 : Nat) (16 : Nat) (rowH (Heap.mk (bs ++ [[AV.str x.key, AV.str x.val, AV.bool x.any]]) [] []) (List.map AV.str acc)) (rowS Heap.nil (List.map AV.str acc)) (AV.sl SK.full [AV.str (lText x)]) = some ((rowS Heap.nil (List.map AV.str (acc ++ [lText x])), rowH (Heap.mk (bs ++ [[AV.str x.key, AV.str x.val, AV.bool x.any]]) [] []) (List.map AV.str (acc ++ [lText x])))) from row_append_B (by simp; omega) (by exact lenSt) (by rfl) (by rfl)) <| .bin (show binA BinOp.add (AV.int IntKind.i64 (↑i : Int)) (AV.int IntKind.i64 (1 : Int)) = some (AV.int IntKind.i64 (↑(i + (1 : Nat)) : Int)) from inc_i (by omega)) <| .cutQ k178_0 [(1, AV.func (179 : FuncId) []), (5, rowS Heap.nil (List.map AV.str (acc ++ [lText x]))), (11, AV.sl SK.sh (List.map encL l)), (12, AV.int IntKind.i64 (↑l.length : Int)), (13, AV.int IntKind.i64 (↑(i + (1 : Nat)) : Int))] (rowH (Heap.mk (bs ++ [[AV.str x.key, AV.str x.val, AV.bool x.any]]) [] []) (List.map AV.str (acc ++ [lText x]))) (fun T hT => (ih (i + (1 : Nat)) (acc ++ [lText x]) (bs ++ [[AV.str x.key, AV.str x.val, AV.bool x.any]]) hnx (by simp; omega) hall2 T hT))) (by kernel_rfl)
theorem lText_any (l : List Tol) (hf : fewL l = true) : Gives cfg 130 [.sl .sh (l.map encL)] (.str (textOf lText l)) := by
  have hn := fewL_len hf
  have hf2 : ∀ x ∈ l, x.key.length ≤ 50 ∧ x.val.length ≤ 50 := by
    simp only [fewL, few, Bool.and_eq_true, List.all_eq_true, decide_eq_true_eq] at hf
    exact hf.2
  have hj : (Lib.join (l.map lText) [44]).length ≤ 3000 := join_len _ (by
    intro s hs
    obtain ⟨x, hx, rfl⟩ := List.mem_map.1 hs
    exact lText_len x (hf2 x hx).1 (hf2 x hx).2) (by simpa using hn)
  have hjoin : Gives cfg 178 [.sl .sh (l.map encL), .func 179 []] (.str (textOf lText l)) := by
    refine Gives.run (l178 _ _) ?_
    have h := lText_loop l hn hf2 hj l 0 [] [] rfl rfl rfl
    by_cases hl : l = []
    · subst hl
      exact goG 60 []  trivial  (.len (show lenA false (AV.sl SK.sh []) = some (AV.int IntKind.i64 (↑[].length : Int)) from len_sl _ _) <| .tt <| .fin ((ARes.ret (AV.str [(45 : UInt8)]), Heap.mk [] [] [])) rfl) (by kernel_rfl)
    · have hp : 0 < l.length := List.length_pos_iff.2 hl
      have e : textOf lText l = Lib.join (l.map lText) [44] := by simp [textOf, hl]
      rw [e]
      exact goG 60 []  trivial  (.len (show lenA false (AV.sl SK.sh (List.map encL l)) = some (AV.int IntKind.i64 (↑l.length : Int)) from len_map _) <| .no (show ((↑l.length : Int) == (0 : Int)) = false from beq_eq_false_iff_ne.2 (show ¬ ((↑l.length : Int) = (0 : Int)) from (by omega))) <| .len (show lenA false (AV.sl SK.sh (List.map encL l)) = some (AV.int IntKind.i64 (↑l.length : Int)) from len_map _) <| .cutQ k178_0 [(1, AV.func (179 : FuncId) []), (5, AV.sl SK.full []), (11, AV.sl SK.sh (List.map encL l)), (12, AV.int IntKind.i64 (↑l.length : Int)), (13, AV.int IntKind.i64 (0 : Int))] (Heap.mk [] [] []) (fun T hT => (h T hT))) (by kernel_rfl)
  refine Gives.run (l130 _ _) ?_
  exact goG 60 []  trivial  (.callG ([AV.sl SK.sh (List.map encL l), AV.func (179 : FuncId) []]) (AV.str (textOf lText l)) (show Gives cfg (178 : FuncId) [AV.sl SK.sh (List.map encL l), AV.func (179 : FuncId) []] (AV.str (textOf lText l)) from hjoin) ⟨rfl, rfl⟩ ⟨rfl, rfl⟩ <| .fin ((ARes.ret (AV.str (textOf lText l)), Heap.mk [] [] [])) rfl) (by kernel_rfl)

theorem pText_len (x : Pair) (hk : x.key.length ≤ 50) (hv : x.val.length ≤ 50) : (pText x).length ≤ 103 := by
  unfold pText
  repeat' split
  all_goals (try simp)
  all_goals omega
theorem pText_one (x : Pair) (hk : x.key.length ≤ 50) (hv : x.val.length ≤ 50) : Gives cfg 165 [encP x] (.str (pText x)) := by
  refine Gives.run (l165 _ _) ?_
  exact goG 60 []  trivial  (.bin (show binA BinOp.add (AV.str x.key) (AV.str [(58 : UInt8)]) = some (AV.str (x.key ++ [(58 : UInt8)])) from str_add (by simp; omega)) <| .bin (show binA BinOp.add (AV.str (x.key ++ [(58 : UInt8)])) (AV.str x.val) = some (AV.str (x.key ++ [(58 : UInt8)] ++ x.val)) from str_add (by simp; omega)) <| .fin ((ARes.ret (AV.str (x.key ++ [(58 : UInt8)] ++ x.val)), Heap.mk [[AV.str x.key, AV.str x.val]] [] [])) rfl) (by kernel_rfl)
theorem pText_loop (l : List Pair) (hn : l.length ≤ 20) (hf : ∀ x ∈ l, x.key.length ≤ 50 ∧ x.val.length ≤ 50) (hj : (Lib.join (l.map pText) [44]).length ≤ 3000) : ∀ (post : List Pair) (i : Nat) (acc : List (List UInt8)) (bs : List (List AV)) (hd : l.drop i = post) (ha : acc.length = i) (hall : acc ++ post.map pText = l.map pText) (T : Env)
    (hT : Has T [(1, .func 165 []), (5, rowS Heap.nil (acc.map AV.str)), (11, .sl .sh (l.map encP)), (12, .int .i64 l.length), (13, .int .i64 i)]),
    Goes cfg a164 k164_0 T (rowH ⟨bs, [], []⟩ (acc.map AV.str)) (IsRet (.str (Lib.join (l.map pText) [44]))) := by
  intro post
  induction post with
  | nil =>
    intro i acc bs hd ha hall T hT
    have hge := drop_ge hd
    have e : acc = l.map pText := by simpa using hall
    subst e
    exact goG 60 _  hT  (.no (show (decide ((↑i : Int) < (↑l.length : Int))) = false from decide_eq_false (show ¬ ((↑i : Int) < (↑l.length : Int)) from (by simp; omega))) <| .callG ([rowS Heap.nil (List.map AV.str (List.map pText l)), AV.str [(44 : UInt8)]]) (AV.str (Lib.join (List.map pText l) [(44 : UInt8)])) (show Gives cfg (101 : FuncId) [AV.sl SK.sh (List.map AV.str (List.map pText l)), AV.str [(44 : UInt8)]] (AV.str (Lib.join (List.map pText l) [(44 : UInt8)])) from join_any _ (by simp; omega) (by omega)) Shuts.p ⟨rfl, rfl⟩ <| .fin ((ARes.ret (AV.str (Lib.join (List.map pText l) [(44 : UInt8)])), rowH (Heap.mk bs [] []) (List.map AV.str (List.map pText l)))) rfl) (by kernel_rfl)
  | cons x post ih =>
    intro i acc bs hd ha hall T hT
    have hlt := drop_lt hd
    have hnx := drop_next hd
    obtain ⟨hk, hv⟩ := hf x (drop_mem hd)
    have hall2 : (acc ++ [pText x]) ++ post.map pText = l.map pText := by rw [← hall]; simp
    exact goG 60 _  hT  (.yes (show (decide ((↑i : Int) < (↑l.length : Int))) = true from decide_eq_true (show (↑i : Int) < (↑l.length : Int) from (by simp; omega))) <| .idx (show idxA (2 : Nat) (AV.sl SK.sh (List.map encP l)) (AV.int IntKind.i64 (↑i : Int)) = some (AV.ref (encP x).cells) from idx_row hd (by rfl)) <| .load (row_load (ys := List.map AV.str acc) (show loadA true (2 : Nat) (Heap.mk bs [] []) (AV.ref [AV.str x.key, AV.str x.val]) = some (AV.agg [AV.str x.key, AV.str x.val]) from rfl)) <| .boxR (AV.agg [AV.str [], AV.str []]) (Heap.mk bs [] []) (List.map AV.str acc) rfl <| .store (row_store (ys := List.map AV.str acc) (show storeA (2 : Nat) (Heap.mk (bs ++ [[AV.str [], AV.str []]]) [] []) (AV.ptr (Heap.mk bs [] []).boxes.length (0 : Nat)) (AV.agg [AV.str x.key, AV.str x.val]) = some (Heap.mk (bs ++ [[AV.str x.key, AV.str x.val]]) [] []) from store_box2 (cs := [AV.str [], AV.str []]) (cs' := [AV.str x.key, AV.str x.val]) (by simp [List.set_append]) rfl (by simp [List.set_append]))) <| .load (row_load (ys := List.map AV.str acc) (show loadA true (2 : Nat) (Heap.mk (bs ++ [[AV.str x.key, AV.str x.val]]) [] []) (AV.ptr (Heap.mk bs [] []).boxes.length (0 : Nat)) = some (AV.agg [AV.str x.key, AV.str x.val]) from load_box (cs := [AV.str x.key, AV.str x.val]) (by simp [List.set_append]) rfl)) <| .callG ([AV.agg [AV.str x.key, AV.str x.val]]) (AV.str (pText x)) (show Gives cfg (165 : FuncId) [encP x] (AV.str (pText x)) from pText_one _ hk hv) ⟨rfl, rfl⟩ ⟨rfl, rfl⟩ <| .append (show appendA (1 : Nat) (16 : Nat) (rowH (Heap.mk (bs ++ [[AV.str x.key, AV.str x.val]]) [] []) (List.map AV.str acc)) (rowS Heap.nil (List.map AV.str acc)) (AV.sl SK.full [AV.str (pText x)]) = some ((rowS Heap.nil (List.map AV.str (acc ++ [pText x])), rowH (Heap.mk (bs ++ [[AV.str x.key, AV.str x.val]]) [] []) (List.map AV.str (acc ++ [pText x])))) from row_append_B (by simp; omega) (by exact lenSt) (by rfl) (by rfl)) <| .bin (show binA BinOp.add (AV.int IntKind.i64 (↑i : Int)) (AV.int IntKind.i64 (1 : Int)) = some (AV.int IntKind.i64 (↑(i + (1 : Nat)) : Int)) from inc_i (by omega)) <| .cutQ k164_0 [(1, AV.func (165 : FuncId) []), (5, rowS Heap.nil (List.map AV.str (acc ++ [pText x]))), (11, AV.sl SK.sh (List.map encP l)), (12, AV.int IntKind.i64 (↑l.length : Int)), (13, AV.int IntKind.i64 (↑(i + (1 : Nat)) : Int))] (rowH (Heap.mk (bs ++ [[AV.str x.key, AV.str x.val]]) [] []) (List.map AV.str (acc ++ [pText x]))) (fun T hT => (ih (i + (1 : Nat)) (acc ++ [pText x]) (bs ++ [[AV.str x.key, AV.str x.val]]) hnx (by simp; omega) hall2 T hT))) (by kernel_rfl)
theorem pText_any (l : List Pair) (hf : fewP l = true) : Gives cfg 103 [.sl .sh (l.map encP)] (.str (textOf pText l)) := by
  have hn := fewP_len hf
  have hf2 : ∀ x ∈ l, x.key.length ≤ 50 ∧ x.val.length ≤ 50 := by
    simp only [fewP, few, Bool.and_eq_true, List.all_eq_true, decide_eq_true_eq] at hf
    exact hf.2
  have hj : (Lib.join (l.map pText) [44]).length ≤ 3000 := join_len _ (by
    intro s hs
    obtain ⟨x, hx, rfl⟩ := List.mem_map.1 hs
    exact pText_len x (hf2 x hx).1 (hf2 x hx).2) (by simpa using hn)
  have hjoin : Gives cfg 164 [.sl .sh (l.map encP), .func 165 []] (.str (textOf pText l)) := by
    refine Gives.run (l164 _ _) ?_
    have h := pText_loop l hn hf2 hj l 0 [] [] rfl rfl rfl
    by_cases hl : l = []
    · subst hl
      exact goG 60 []  trivial  (.len (show lenA false (AV.sl SK.sh []) = some (AV.int IntKind.i64 (↑[].length : Int)) from len_sl _ _) <| .tt <| .fin ((ARes.ret (AV.str [(45 : UInt8)]), Heap.mk [] [] [])) rfl) (by kernel_rfl)
    · have hp : 0 < l.length := List.length_pos_iff.2 hl
      have e : textOf pText l = Lib.join (l.map pText) [44] := by simp [textOf, hl]
      rw [e]
      exact goG 60 []  trivial  (.len (show lenA false (AV.sl SK.sh (List.map encP l)) = some (AV.int IntKind.i64 (↑l.length : Int)) from len_map _) <| .no (show ((↑l.length : Int) == (0 : Int)) = false from beq_eq_false_iff_ne.2 (show ¬ ((↑l.length : Int) = (0 : Int)) from (by omega))) <| .len (show lenA false (AV.sl SK.sh (List.map encP l)) = some (AV.int IntKind.i64 (↑l.length : Int)) from len_map _) <| .cutQ k164_0 [(1, AV.func (165 : FuncId) []), (5, AV.sl SK.full []), (11, AV.sl SK.sh (List.map encP l)), (12, AV.int IntKind.i64 (↑l.length : Int)), (13, AV.int IntKind.i64 (0 : Int))] (Heap.mk [] [] []) (fun T hT => (h T hT))) (by kernel_rfl)
  refine Gives.run (l103 _ _) ?_
  exact goG 60 []  trivial  (.callG ([AV.sl SK.sh (List.map encP l), AV.func (165 : FuncId) []]) (AV.str (textOf pText l)) (show Gives cfg (164 : FuncId) [AV.sl SK.sh (List.map encP l), AV.func (165 : FuncId) []] (AV.str (textOf pText l)) from hjoin) ⟨rfl, rfl⟩ ⟨rfl, rfl⟩ <| .fin ((ARes.ret (AV.str (textOf pText l)), Heap.mk [] [] [])) rfl) (by kernel_rfl)

theorem mText_len (x : Term) (hk : x.key.length ≤ 50) (hv : x.val.length ≤ 50) : (mText x).length ≤ 103 := by
  unfold mText
  repeat' split
  all_goals (try simp)
  all_goals omega
theorem mText_one (x : Term) (hk : x.key.length ≤ 50) (hv : x.val.length ≤ 50) : Gives cfg 140 [encM x] (.str (mText x)) := by
  refine Gives.run (l140 _ _) ?_
  exact goG 60 []  trivial  (.split (x.op = (1 : Int)) (fun g1 => .yes (show (x.op == (1 : Int)) = true from beq_iff_eq.2 (show x.op = (1 : Int) from g1)) <| .bin (show binA BinOp.add (AV.str x.key) (AV.str [(58 : UInt8)]) = some (AV.str (x.key ++ [(58 : UInt8)])) from str_add (by simp; omega)) <| .bin (show binA BinOp.add (AV.str (x.key ++ [(58 : UInt8)])) (AV.str x.val) = some (AV.str (x.key ++ [(58 : UInt8)] ++ x.val)) from str_add (by simp; omega)) <| .fin ((ARes.ret (AV.str (x.key ++ [(58 : UInt8)] ++ x.val)), Heap.mk [[AV.int IntKind.i64 x.op, AV.str x.key, AV.str x.val]] [] [])) (by simp [IsRet, mText, *])) (fun g1 => .no (show (x.op == (1 : Int)) = false from beq_eq_false_iff_ne.2 (show ¬ (x.op = (1 : Int)) from g1)) <| .split (x.op = (2 : Int)) (fun g2 => .yes (show (x.op == (2 : Int)) = true from beq_iff_eq.2 (show x.op = (2 : Int) from g2)) <| .bin (show binA BinOp.add (AV.str x.key) (AV.str [(33 : UInt8)]) = some (AV.str (x.key ++ [(33 : UInt8)])) from str_add (by simp; omega)) <| .bin (show binA BinOp.add (AV.str (x.key ++ [(33 : UInt8)])) (AV.str x.val) = some (AV.str (x.key ++ [(33 : UInt8)] ++ x.val)) from str_add (by simp; omega)) <| .fin ((ARes.ret (AV.str (x.key ++ [(33 : UInt8)] ++ x.val)), Heap.mk [[AV.int IntKind.i64 x.op, AV.str x.key, AV.str x.val]] [] [])) (by simp [IsRet, mText, *])) (fun g2 => .no (show (x.op == (2 : Int)) = false from beq_eq_false_iff_ne.2 (show ¬ (x.op = (2 : Int)) from g2)) <| .split (x.op = (4 : Int)) (fun g3 => .yes (show (x.op == (4 : Int)) = true from beq_iff_eq.2 (show x.op = (4 : Int) from g3)) <| .bin (show binA BinOp.add (AV.str [(45 : UInt8)]) (AV.str x.key) = some (AV.str ([(45 : UInt8)] ++ x.key)) from str_add (by simp; omega)) <| .fin ((ARes.ret (AV.str ((45 : UInt8) :: x.key)), Heap.mk [[AV.int IntKind.i64 x.op, AV.str x.key, AV.str x.val]] [] [])) (by simp [IsRet, mText, *])) (fun g3 => .no (show (x.op == (4 : Int)) = false from beq_eq_false_iff_ne.2 (show ¬ (x.op = (4 : Int)) from g3)) <| .fin ((ARes.ret (AV.str x.key), Heap.mk [[AV.int IntKind.i64 x.op, AV.str x.key, AV.str x.val]] [] [])) (by simp [IsRet, mText, *]))))) (by kernel_rfl)
theorem mText_loop (l : List Term) (hn : l.length ≤ 20) (hf : ∀ x ∈ l, x.key.length ≤ 50 ∧ x.val.length ≤ 50) (hj : (Lib.join (l.map mText) [44]).length ≤ 3000) : ∀ (post : List Term) (i : Nat) (acc : List (List UInt8)) (bs : List (List AV)) (hd : l.drop i = post) (ha : acc.length = i) (hall : acc ++ post.map mText = l.map mText) (T : Env)
    (hT : Has T [(1, .func 140 []), (5, rowS Heap.nil (acc.map AV.str)), (11, .sl .sh (l.map encM)), (12, .int .i64 l.length), (13, .int .i64 i)]),
    Goes cfg a139 k139_0 T (rowH ⟨bs, [], []⟩ (acc.map AV.str)) (IsRet (.str (Lib.join (l.map mText) [44]))) := by
  intro post
  induction post with
  | nil =>
    intro i acc bs hd ha hall T hT
    have hge := drop_ge hd
    have e : acc = l.map mText := by simpa using hall
    subst e
    exact goG 60 _  hT  (.no (show (decide ((↑i : Int) < (↑l.length : Int))) = false from decide_eq_false (show ¬ ((↑i : Int) < (↑l.length : Int)) from (by simp; omega))) <| .callG ([rowS Heap.nil (List.map AV.str (List.map mText l)), AV.str [(44 : UInt8)]]) (AV.str (Lib.join (List.map mText l) [(44 : UInt8)])) (show Gives cfg (101 : FuncId) [AV.sl SK.sh (List.map AV.str (List.map mText l)), AV.str [(44 : UInt8)]] (AV.str (Lib.join (List.map mText l) [(44 : UInt8)])) from join_any _ (by simp; omega) (by omega)) Shuts.p ⟨rfl, rfl⟩ <| .fin ((ARes.ret (AV.str (Lib.join (List.map mText l) [(44 : UInt8)])), rowH (Heap.mk bs [] []) (List.map AV.str (List.map mText l)))) rfl) (by kernel_rfl)
  | cons x post ih =>
    intro i acc bs hd ha hall T hT
    have hlt := drop_lt hd
    have hnx := drop_next hd
    obtain ⟨hk, hv⟩ := hf x (drop_mem hd)
    have hall2 : (acc ++ [mText x]) ++ post.map mText = l.map mText := by rw [← hall]; simp
    exact goG 60 _  hT  (.yes (show (decide ((↑i : Int) < (↑l.length : Int))) = true from decide_eq_true (show (↑i : Int) < (↑l.length : Int) from (by simp; omega))) <| .idx (show idxA (3 : Nat) (AV.sl SK.sh (List.map encM l)) (AV.int IntKind.i64 (↑i : Int)) = some (AV.ref (encM x).cells) from idx_row hd (by rfl)) <| .load (row_load (ys := List.map AV.str acc) (show loadA true (3 : Nat) (Heap.mk bs [] []) (AV.ref [AV.int IntKind.i64 x.op, AV.str x.key, AV.str x.val]) = some (AV.agg [AV.int IntKind.i64 x.op, AV.str x.key, AV.str x.val]) from rfl)) <| .boxR (AV.agg [AV.int IntKind.i64 (0 : Int), AV.str [], AV.str []]) (Heap.mk bs [] []) (List.map AV.str acc) rfl <| .store (row_store (ys := List.map AV.str acc) (show storeA (3 : Nat) (Heap.mk (bs ++ [[AV.int IntKind.i64 (0 : Int), AV.str [], AV.str []]]) [] []) (AV.ptr (Heap.mk bs [] []).boxes.length (0 : Nat)) (AV.agg [AV.int IntKind.i64 x.op, AV.str x.key, AV.str x.val]) = some (Heap.mk (bs ++ [[AV.int IntKind.i64 x.op, AV.str x.key, AV.str x.val]]) [] []) from store_box2 (cs := [AV.int IntKind.i64 (0 : Int), AV.str [], AV.str []]) (cs' := [AV.int IntKind.i64 x.op, AV.str x.key, AV.str x.val]) (by simp [List.set_append]) rfl (by simp [List.set_append]))) <| .load (row_load (ys := List.map AV.str acc) (show loadA true (3 : Nat) (Heap.mk (bs ++ [[AV.int IntKind.i64 x.op, AV.str x.key, AV.str x.val]]) [] []) (AV.ptr (Heap.mk bs [] []).boxes.length (0 : Nat)) = some (AV.agg [AV.int IntKind.i64 x.op, AV.str x.key, AV.str x.val]) from load_box (cs := [AV.int IntKind.i64 x.op, AV.str x.key, AV.str x.val]) (by simp [List.set_append]) rfl)) <| .callG ([AV.agg [AV.int IntKind.i64 x.op, AV.str x.key, AV.str x.val]]) (AV.str (mText x)) (show Gives cfg (140 : FuncId) [encM x] (AV.str (mText x)) from mText_one _ hk hv) ⟨rfl, rfl⟩ ⟨rfl, rfl⟩ <| .append (show appendA (1 : Nat) (16 : Nat) (rowH (Heap.mk (bs ++ [[AV.int IntKind.i64 x.op, AV.str x.key, AV.str x.val]]) [] []) (List.map AV.str acc)) (rowS Heap.nil (List.map AV.str acc)) (AV.sl SK.full [AV.str (mText x)]) = some ((rowS Heap.nil (List.map AV.str (acc ++ [mText x])), rowH (Heap.mk (bs ++ [[AV.int IntKind.i64 x.op, AV.str x.key, AV.str x.val]]) [] []) (List.map AV.str (acc ++ [mText x])))) from row_append_B (by simp; omega) (by exact lenSt) (by rfl) (by rfl)) <| .bin (show binA BinOp.add (AV.int IntKind.i64 (↑i : Int)) (AV.int IntKind.i64 (1 : Int)) = some (AV.int IntKind.i64 (↑(i + (1 : Nat)) : Int)) from inc_i (by omega)) <| .cutQ k139_0 [(1, AV.func (140 : FuncId) []), (5, rowS Heap.nil (List.map AV.str (acc ++ [mText x]))), (11, AV.sl SK.sh (List.map encM l)), (12, AV.int IntKind.i64 (↑l.length : Int)), (13, AV.int IntKind.i64 (↑(i + (1 : Nat)) : Int))] (rowH (Heap.mk (bs ++ [[AV.int IntKind.i64 x.op, AV.str x.key, AV.str x.val]]) [] []) (List.map AV.str (acc ++ [mText x]))) (fun T hT => (ih (i + (1 : Nat)) (acc ++ [mText x]) (bs ++ [[AV.int IntKind.i64 x.op, AV.str x.key, AV.str x.val]]) hnx (by simp; omega) hall2 T hT))) (by kernel_rfl)
theorem mText_any (l : List Term) (hf : fewM l = true) : Gives cfg 68 [.sl .sh (l.map encM)] (.str (textOf mText l)) := by
  have hn := fewM_len hf
  have hf2 : ∀ x ∈ l, x.key.length ≤ 50 ∧ x.val.length ≤ 50 := by
    simp only [fewM, few, Bool.and_eq_true, List.all_eq_true, decide_eq_true_eq] at hf
    exact hf.2
  have hj : (Lib.join (l.map mText) [44]).length ≤ 3000 := join_len _ (by
    intro s hs
    obtain ⟨x, hx, rfl⟩ := List.mem_map.1 hs
    exact mText_len x (hf2 x hx).1 (hf2 x hx).2) (by simpa using hn)
  have hjoin : Gives cfg 139 [.sl .sh (l.map encM), .func 140 []] (.str (textOf mText l)) := by
    refine Gives.run (l139 _ _) ?_
    have h := mText_loop l hn hf2 hj l 0 [] [] rfl rfl rfl
    by_cases hl : l = []
    · subst hl
      exact goG 60 []  trivial  (.len (show lenA false (AV.sl SK.sh []) = some (AV.int IntKind.i64 (↑[].length : Int)) from len_sl _ _) <| .tt <| .fin ((ARes.ret (AV.str [(45 : UInt8)]), Heap.mk [] [] [])) rfl) (by kernel_rfl)
    · have hp : 0 < l.length := List.length_pos_iff.2 hl
      have e : textOf mText l = Lib.join (l.map mText) [44] := by simp [textOf, hl]
      rw [e]
      exact goG 60 []  trivial  (.len (show lenA false (AV.sl SK.sh (List.map encM l)) = some (AV.int IntKind.i64 (↑l.length : Int)) from len_map _) <| .no (show ((↑l.length : Int) == (0 : Int)) = false from beq_eq_false_iff_ne.2 (show ¬ ((↑l.length : Int) = (0 : Int)) from (by omega))) <| .len (show lenA false (AV.sl SK.sh (List.map encM l)) = some (AV.int IntKind.i64 (↑l.length : Int)) from len_map _) <| .cutQ k139_0 [(1, AV.func (140 : FuncId) []), (5, AV.sl SK.full []), (11, AV.sl SK.sh (List.map encM l)), (12, AV.int IntKind.i64 (↑l.length : Int)), (13, AV.int IntKind.i64 (0 : Int))] (Heap.mk [] [] []) (fun T hT => (h T hT))) (by kernel_rfl)
  refine Gives.run (l68 _ _) ?_
  exact goG 60 []  trivial  (.callG ([AV.sl SK.sh (List.map encM l), AV.func (140 : FuncId) []]) (AV.str (textOf mText l)) (show Gives cfg (139 : FuncId) [AV.sl SK.sh (List.map encM l), AV.func (140 : FuncId) []] (AV.str (textOf mText l)) from hjoin) ⟨rfl, rfl⟩ ⟨rfl, rfl⟩ <| .fin ((ARes.ret (AV.str (textOf mText l)), Heap.mk [] [] [])) rfl) (by kernel_rfl)
end Go.Aa.T

set_option linter.unusedVariables false
set_option linter.unusedSimpArgs false
set_option maxRecDepth 100000
namespace Go.Aa.T
open Go.Aa Go.Proofs


theorem name_no {s : List UInt8} (h : isName s = true) {c : UInt8} (hc : nameCh c = false) : c ∉ s := by
  intro hm
  simp only [isName, Bool.and_eq_true, List.all_eq_true] at h
  rw [h.2 c hm] at hc; cases hc
theorem name_ne {s : List UInt8} (h : isName s = true) : s ≠ [] := by
  rintro rfl
  simp [isName] at h
theorem name_len {s : List UInt8} (h : isName s = true) : s.length ≤ 12 := by
  simp only [isName, Bool.and_eq_true, decide_eq_true_eq] at h
  exact h.1.2

end Go.Aa.T

set_option linter.unusedVariables false
set_option linter.unusedSimpArgs false
set_option maxRecDepth 100000
namespace Go.Aa.T
open Go.Aa Go.Proofs
def starK (x : Tol) : List UInt8 := if x.key = [] then [42] else x.key
theorem star_no (x : Tol) (h : okL x = true) {c : UInt8} (hc : nameCh c = false) (h2 : c ≠ 42) : c ∉ starK x := by
  unfold starK
  split
  · simp [h2]
  · rename_i hk
    simp only [okL, Bool.and_eq_true, Bool.or_eq_true, decide_eq_true_eq, hk, false_or] at h
    exact name_no h.1 hc
theorem star_len (x : Tol) (h : okL x = true) : (starK x).length ≤ 12 ∧ starK x ≠ [] := by
  unfold starK
  split
  · simp
  · rename_i hk
    simp only [okL, Bool.and_eq_true, Bool.or_eq_true, decide_eq_true_eq, hk, false_or] at h
    exact ⟨name_len h.1, hk⟩
theorem star_back (x : Tol) (h : okL x = true) : (if starK x = [42] then [] else starK x) = x.key := by
  unfold starK
  by_cases hk : x.key = []
  · simp [hk]
  · simp only [okL, Bool.and_eq_true, Bool.or_eq_true, decide_eq_true_eq, hk, false_or] at h
    have : x.key ≠ [42] := fun e => absurd (name_no h.1 (c := 42) rfl) (by rw [e]; simp)
    simp [hk, this]
def goodM (x : Term) : Bool := decide (1 ≤ x.op ∧ x.op ≤ 4) && (isName x.key && valOk x)
theorem count_no {c : UInt8} {s : List UInt8} (h : c ∉ s) : Lib.countByte s c = 0 := List.count_eq_zero.2 h
theorem head_no {s : List UInt8} (h : isName s = true) (r : List UInt8) {c : UInt8} (hc : nameCh c = false) : (s ++ r).head? ≠ some c := by
  cases s with
  | nil => exact absurd rfl (name_ne h)
  | cons b s =>
    simp only [List.cons_append, List.head?_cons, ne_eq, Option.some.injEq]
    rintro rfl
    exact absurd (List.mem_cons_self) (name_no h hc)

theorem pText_ok (x : Pair) (h : goodP x = true) : pText x ≠ [] ∧ (44 : UInt8) ∉ pText x := by
  simp only [goodP, Bool.and_eq_true] at h
  simp [pText, name_no h.1 (c := 44) rfl, name_no h.2 (c := 44) rfl]
theorem lText_ok (x : Tol) (h : okL x = true) : lText x ≠ [] ∧ (44 : UInt8) ∉ lText x := by
  have h1 := star_no x h (c := 44) rfl (by decide)
  have h2 := (star_len x h).2
  unfold starK at h1 h2
  cases hh : x.any with
  | true => simp only [lText, hh, if_true]; exact ⟨h2, h1⟩
  | false =>
    have hv : isName x.val = true := by simp only [okL, hh, Bool.and_eq_true, Bool.false_eq_true, if_false] at h; exact h.2
    simp only [lText, hh, Bool.false_eq_true, if_false, List.append_assoc]
    refine ⟨by simp, ?_⟩
    simp only [List.mem_append, not_or]
    exact ⟨h1, by simp, name_no hv rfl⟩
theorem mText_ok (x : Term) (h : goodM x = true) : mText x ≠ [] ∧ (44 : UInt8) ∉ mText x := by
  simp only [goodM, Bool.and_eq_true, decide_eq_true_eq] at h
  obtain ⟨⟨h1, h4⟩, hk, hv⟩ := h
  have k := name_no hk (c := 44) rfl
  have kn := name_ne hk
  have v : x.op ≤ 2 → (44 : UInt8) ∉ x.val := fun ho => by
    simp only [valOk, ho, if_true] at hv
    exact name_no hv rfl
  unfold mText
  split
  · rename_i o; simp [k, v (by omega)]
  · split
    · rename_i o; simp [k, v (by omega)]
    · split
      · simp [k]
      · exact ⟨kn, k⟩
end Go.Aa.T

set_option linter.unusedVariables false
set_option linter.unusedSimpArgs false
set_option maxRecDepth 100000
namespace Go.Aa.T
open Go.Aa Go.Proofs
def cutAt (c : UInt8) : List UInt8 → Option (List UInt8 × List UInt8)
  | [] => none
  | b :: r => if b = c then some ([], r) else (cutAt c r).map fun p => (b :: p.1, p.2)
def parts (c : UInt8) : List UInt8 → List (List UInt8)
  | [] => [[]]
  | b :: r => if b = c then [] :: parts c r else match parts c r with
    | [] => [[b]]
    | x :: xs => (b :: x) :: xs
theorem parts_none {c : UInt8} : ∀ {w : List UInt8}, c ∉ w → parts c w = [w]
  | [], _ => rfl
  | b :: r, h => by
    simp only [List.mem_cons, not_or] at h
    have hb : ¬ b = c := fun e => h.1 e.symm
    simp only [parts, if_neg hb, parts_none h.2]
theorem parts_some {c : UInt8} {b : List UInt8} : ∀ {a : List UInt8}, c ∉ a → parts c (a ++ c :: b) = a :: parts c b
  | [], _ => by simp [parts]
  | x :: a, h => by
    simp only [List.mem_cons, not_or] at h
    have hb : ¬ x = c := fun e => h.1 e.symm
    simp only [List.cons_append, parts, if_neg hb, parts_some h.2]
def foldE {α : Type} (f : α → List UInt8 → Option α) (a : α) : List (List UInt8) → Option α
  | [] => some a
  | p :: ps => match f a p with
    | some a' => foldE f a' ps
    | none => none
section
variable {α : Type} (o0 o1 o2 o3 : α → List AV) (tk : α → List Nat) (rc : LRec) (v : AV) (I : α → Nat → Prop)
def hS (a : α) (rest : List UInt8) : Heap := ⟨[o0 a, o1 a, o2 a, o3 a, [.str rest], [.str [44]], [.int .i64 0]], tk a, [rc]⟩
def hB (a : α) (rest : List UInt8) : Heap := ⟨[o0 a, o1 a, o2 a, o3 a, [.str rest], [.str [44]], [.int .i64 0]], tk a, [{ rc with busy := true }]⟩
end
end Go.Aa.T

set_option linter.unusedVariables false
set_option linter.unusedSimpArgs false
set_option maxRecDepth 100000
namespace Go.Aa.T
open Go.Aa Go.Proofs
def collect {X : Type} (pf : List UInt8 → Option X) (acc : List X) (p : List UInt8) : Option (List X) := if p = [] then none else (pf p).map fun x => acc ++ [x]
def parsed {X : Type} (pf : List UInt8 → Option X) (ck : List X → Int) (s : List UInt8) : List X × Int :=
  if s = [45] then ([], 0) else match foldE (collect pf) [] (parts 44 s) with
  | none => ([], 2)
  | some l => if ck l = 0 then (l, 0) else ([], ck l)
def skF {X : Type} : List X → SK
  | [] => .full
  | _ :: _ => .own 0
instance {X : Type} (l : List X) (xs : List AV) : Shut (.sl (skF l) xs) (.sl .sh xs) := ⟨by cases l <;> exact ⟨rfl, rfl⟩⟩
section
variable {X : Type} (enc : X → AV)
def tkR (acc : List X) : List Nat := (rowH Heap.nil (acc.map enc)).toks
def rowF (l : List X) : AV := .sl (skF l) (l.map enc)
instance (l : List X) : Shut (rowF enc l) (.sl .sh (l.map enc)) := ⟨by cases l <;> exact ⟨rfl, rfl⟩⟩
theorem rowF_eq (l : List X) : rowF enc l = rowS Heap.nil (l.map enc) := by cases l <;> rfl
theorem row_append_T {x : X} {es bytes : Nat} {bs : List (List AV)} {ls : List LRec} {ys : List X} (h : ((ys.map enc).length + 1) * bytes ≤ 140737488355328) (hl : lenOk es (ys.map enc) = true) (hv : cellsN es (enc x) = true) (hd : dataOk [enc x] = true) :
    appendA es bytes ⟨bs, tkR enc ys, ls⟩ (rowF enc ys) (.sl .full [enc x]) = some (rowF enc (ys ++ [x]), ⟨bs, tkR enc (ys ++ [x]), ls⟩) := by
  rw [rowF_eq, rowF_eq]
  have hh := row_append_map (f := enc) (x := x) (H := Heap.nil) h hl hv hd
  cases ys with
  | nil =>
    simp only [rowS, rowH, List.map_nil, List.nil_append, List.map_cons, tkR, Heap.nil] at hh ⊢
    simp only [appendA] at hh ⊢
    split at hh
    · rename_i hc; rw [if_pos hc]; rfl
    · cases hh
  | cons y ys =>
    simp only [rowS, rowH, List.cons_append, List.map_cons, tkR, Heap.nil] at hh ⊢
    simp only [appendA] at hh ⊢
    split at hh
    · rename_i hc
      rw [if_pos hc]
      split at hh
      · rename_i hc2
        rw [if_pos hc2]
        simp only [Option.some.injEq, Prod.mk.injEq, Heap.mk.injEq, true_and, and_true] at hh ⊢
        exact hh
      · cases hh
    · cases hh
end

section
variable (s0 : List UInt8)
end

section
variable (s0 : List UInt8)
end

section
variable (s0 : List UInt8)
end

section
variable (s0 : List UInt8)
end
end Go.Aa.T

set_option linter.unusedVariables false
set_option linter.unusedSimpArgs false
set_option maxRecDepth 100000
namespace Go.Aa.T
open Go.Aa Go.Proofs

section
variable {H : Heap} {k : Nat} {p : Taint → Bool}
end


end Go.Aa.T

set_option linter.unusedVariables false
set_option linter.unusedSimpArgs false
set_option maxRecDepth 100000
namespace Go.Aa.T
open Go.Aa Go.Proofs

def partP (w : List UInt8) : Option Pair := match cutAt 58 w with
  | none => none
  | some (a, b) => if 58 ∈ b then none else some ⟨a, b⟩
def partL (w : List UInt8) : Option Tol := match cutAt 58 w with
  | none => if w = [] then none else some ⟨if w = [42] then [] else w, [], true⟩
  | some (a, b) => if a = [] ∨ 58 ∈ b then none else some ⟨if a = [42] then [] else a, b, false⟩
def nSigns (w : List UInt8) : Nat := Lib.countByte w 58 + Lib.countByte w 33
def partM (w : List UInt8) : Option Term :=
  if nSigns w > 1 ∨ (nSigns w > 0 ∧ w.head? = some 45) then none
  else if w.head? = some 45 then some ⟨4, w.tail, []⟩
  else match cutAt 58 w with
  | some (a, b) => some ⟨1, a, b⟩
  | none => match cutAt 33 w with
    | some (a, b) => some ⟨2, a, b⟩
    | none => some ⟨3, w, []⟩


end Go.Aa.T

set_option linter.unusedVariables false
set_option linter.unusedSimpArgs false
set_option maxRecDepth 100000
namespace Go.Aa.T
open Go.Aa Go.Proofs
theorem cutAt_hit {c : UInt8} {b : List UInt8} : ∀ {a : List UInt8}, c ∉ a → cutAt c (a ++ c :: b) = some (a, b)
  | [], _ => by simp [cutAt]
  | x :: a, h => by
    simp only [List.mem_cons, not_or] at h
    have hx : ¬ x = c := fun e => h.1 e.symm
    simp only [List.cons_append, cutAt, if_neg hx, cutAt_hit h.2, Option.map_some]
theorem cutAt_miss {c : UInt8} : ∀ {a : List UInt8}, c ∉ a → cutAt c a = none
  | [], _ => rfl
  | x :: a, h => by
    simp only [List.mem_cons, not_or] at h
    have hx : ¬ x = c := fun e => h.1 e.symm
    simp only [cutAt, if_neg hx, cutAt_miss h.2, Option.map_none]
theorem tail_cons (y : List UInt8) (r : List (List UInt8)) : Lib.joinTail [44] (y :: r) = 44 :: (y ++ Lib.joinTail [44] r) := by simp [Lib.joinTail]
theorem parts_tail : ∀ (r : List (List UInt8)) (x : List UInt8), (44 : UInt8) ∉ x → (∀ y ∈ r, (44 : UInt8) ∉ y) → parts 44 (x ++ Lib.joinTail [44] r) = x :: r
  | [], x, hx, _ => by simp only [Lib.joinTail, List.map_nil, List.flatten_nil, List.append_nil]; exact parts_none hx
  | y :: r, x, hx, hr => by
    rw [tail_cons, parts_some hx, parts_tail r y (hr y (by simp)) (fun z hz => hr z (by simp [hz]))]
theorem parts_join {x : List UInt8} {r : List (List UInt8)} (h : ∀ y ∈ x :: r, (44 : UInt8) ∉ y) : parts 44 (Lib.join (x :: r) [44]) = x :: r := by
  rw [Lib.join_cons]
  exact parts_tail r x (h x (by simp)) (fun y hy => h y (by simp [hy]))
section
variable {X : Type} {pf : List UInt8 → Option X} {text : X → List UInt8} {ck : List X → Int}
theorem collect_text (acc l : List X) (h : ∀ x ∈ l, text x ≠ [] ∧ pf (text x) = some x) : foldE (collect pf) acc (l.map text) = some (acc ++ l) := by
  induction l generalizing acc with
  | nil => simp [foldE]
  | cons x l ih =>
    obtain ⟨h1, h2⟩ := h x (by simp)
    simp only [List.map_cons, foldE, collect, if_neg h1, h2, Option.map_some]
    rw [ih _ (fun y hy => h y (by simp [hy]))]
    simp
theorem told_read (l : List X) (hck : ck l = 0) (h : ∀ x ∈ l, text x ≠ [] ∧ (44 : UInt8) ∉ text x ∧ text x ≠ [45] ∧ pf (text x) = some x) : parsed pf ck (textOf text l) = (l, 0) := by
  cases l with
  | nil => rfl
  | cons x l =>
    have e : textOf text (x :: l) = Lib.join ((x :: l).map text) [44] := rfl
    rw [e]
    have hp : parts 44 (Lib.join ((x :: l).map text) [44]) = (x :: l).map text := parts_join (fun y hy => by
      have hy' : y ∈ (x :: l).map text := hy
      obtain ⟨z, hz, rfl⟩ := List.mem_map.1 hy'
      exact (h z hz).2.1)
    have hne : ¬ Lib.join ((x :: l).map text) [44] = [45] := fun e => by
      rw [e] at hp
      have e2 : parts 44 [45] = [[45]] := rfl
      rw [e2] at hp
      simp only [List.map_cons, List.cons.injEq] at hp
      exact (h x (by simp)).2.2.1 hp.1.symm
    unfold parsed
    rw [if_neg hne, hp, collect_text [] (x :: l) (fun y hy => ⟨(h y hy).1, (h y hy).2.2.2⟩)]
    simp [hck]
end

theorem ckL_good {l : List Tol} (h : ckL l = 0) : ∀ x ∈ l, okL x = true := by
  unfold ckL at h
  split at h
  · split at h
    · rename_i ha; exact List.all_eq_true.1 ha
    · cases h
  · cases h
theorem ckSl_good (l : List Pair) : ∀ (post : List Pair) (i : Nat), ckSl l i post = 0 → ∀ x ∈ post, goodP x = true
  | [], _, _ => by simp
  | x :: post, i, h => by
    unfold ckSl at h
    split at h
    · rename_i hg
      split at h
      · cases h
      · intro y hy
        rcases List.mem_cons.1 hy with rfl | hy
        · exact hg
        · exact ckSl_good l post _ h y hy
    · cases h
theorem ckS_good {l : List Pair} (h : ckS l = 0) : ∀ x ∈ l, goodP x = true := by
  unfold ckS at h
  split at h
  · exact ckSl_good l l 0 h
  · cases h
theorem ckMl_good : ∀ (post : List Term), ckMl post = 0 → ∀ x ∈ post, goodM x = true
  | [], _ => by simp
  | x :: post, h => by
    unfold ckMl at h
    split at h
    · rename_i ho
      split at h
      · rename_i hg
        intro y hy
        rcases List.mem_cons.1 hy with rfl | hy
        · simp only [goodM, Bool.and_eq_true, decide_eq_true_eq] at hg ⊢
          exact ⟨ho, hg⟩
        · exact ckMl_good post h y hy
      · cases h
    · cases h
theorem ckM_good {l : List Term} (h : ckM l = 0) : ∀ x ∈ l, goodM x = true := by
  unfold ckM at h
  split at h
  · exact ckMl_good l h
  · cases h
theorem two58 {a b : List UInt8} (h : (a ++ 58 :: b : List UInt8) = [45]) : False := by
  cases a with
  | nil => simp at h
  | cons x a => cases a <;> simp at h
theorem lText_read {l : List Tol} (h : ckL l = 0) : parsed partL ckL (textOf lText l) = (l, 0) := by
  refine told_read l h fun x hx => ?_
  have hg := ckL_good h x hx
  obtain ⟨h1, h2⟩ := lText_ok x hg
  have h58 := star_no x hg (c := 58) rfl (by decide)
  have h45 := star_no x hg (c := 45) rfl (by decide)
  have hb := star_back x hg
  have hl := (star_len x hg).2
  cases hh : x.any with
  | true =>
    have hv : x.val = [] := by simp only [okL, hh, Bool.and_eq_true, if_true, decide_eq_true_eq] at hg; exact hg.2
    have e : lText x = starK x := by simp [lText, hh, starK]
    refine ⟨h1, h2, fun e2 => h45 (by rw [← e, e2]; simp), ?_⟩
    rw [e]
    unfold partL
    rw [cutAt_miss h58]
    simp only
    rw [if_neg hl, hb]
    simp [← hh, ← hv]
  | false =>
    have hv : isName x.val = true := by simp only [okL, hh, Bool.and_eq_true, Bool.false_eq_true, if_false] at hg; exact hg.2
    have e : lText x = starK x ++ 58 :: x.val := by simp [lText, hh, starK]
    refine ⟨h1, h2, fun e2 => two58 (e ▸ e2), ?_⟩
    rw [e]
    unfold partL
    rw [cutAt_hit h58]
    simp only
    rw [if_neg (by simp [hl, name_no hv (c := 58) rfl]), hb]
    simp [← hh]
theorem pText_read {l : List Pair} (h : ckS l = 0) : parsed partP ckS (textOf pText l) = (l, 0) := by
  refine told_read l h fun x hx => ?_
  have hg := ckS_good h x hx
  obtain ⟨h1, h2⟩ := pText_ok x hg
  simp only [goodP, Bool.and_eq_true] at hg
  have e : pText x = x.key ++ 58 :: x.val := by simp [pText]
  refine ⟨h1, h2, fun e2 => two58 (e ▸ e2), ?_⟩
  rw [e]
  unfold partP
  rw [cutAt_hit (name_no hg.1 rfl)]
  simp only
  rw [if_neg (name_no hg.2 rfl)]
theorem signs_key {s : List UInt8} (h : isName s = true) : Lib.countByte s 58 = 0 ∧ Lib.countByte s 33 = 0 := ⟨count_no (name_no h rfl), count_no (name_no h rfl)⟩
theorem count_app (a b : List UInt8) (c : UInt8) : Lib.countByte (a ++ b) c = Lib.countByte a c + Lib.countByte b c := List.count_append
theorem count_one (c d : UInt8) (a : List UInt8) : Lib.countByte (d :: a) c = Lib.countByte a c + if d == c then 1 else 0 := List.count_cons
theorem mText_read {l : List Term} (h : ckM l = 0) : parsed partM ckM (textOf mText l) = (l, 0) := by
  refine told_read l h fun x hx => ?_
  have hg := ckM_good h x hx
  obtain ⟨h1, h2⟩ := mText_ok x hg
  simp only [goodM, Bool.and_eq_true, decide_eq_true_eq] at hg
  obtain ⟨⟨g1, g4⟩, hk, hv⟩ := hg
  obtain ⟨c1, c2⟩ := signs_key hk
  have k58 := name_no hk (c := 58) rfl
  have k33 := name_no hk (c := 33) rfl
  have k45 := name_no hk (c := 45) rfl
  by_cases o1 : x.op = 1
  · have hv' : isName x.val = true := by simpa [valOk, o1] using hv
    obtain ⟨d1, d2⟩ := signs_key hv'
    have e : mText x = x.key ++ 58 :: x.val := by simp [mText, o1]
    refine ⟨h1, h2, fun e2 => two58 (e ▸ e2), ?_⟩
    rw [e]
    have hn : nSigns (x.key ++ 58 :: x.val) = 1 := by simp [nSigns, count_app, count_one, c1, c2, d1, d2]
    have hh := head_no hk (58 :: x.val) (c := 45) rfl
    unfold partM
    rw [hn, if_neg (fun hq => hq.elim (fun h => absurd h (by decide)) (fun h => hh h.2)), if_neg hh, cutAt_hit k58]
    simp [← o1]
  · by_cases o2 : x.op = 2
    · have hv' : isName x.val = true := by simpa [valOk, o2] using hv
      obtain ⟨d1, d2⟩ := signs_key hv'
      have e : mText x = x.key ++ 33 :: x.val := by simp [mText, o2]
      refine ⟨h1, h2, fun e2 => ?_, ?_⟩
      · rw [e] at e2
        have : (33 : UInt8) ∈ ([45] : List UInt8) := by rw [← e2]; simp
        simp at this
      rw [e]
      have hn : nSigns (x.key ++ 33 :: x.val) = 1 := by simp [nSigns, count_app, count_one, c1, c2, d1, d2]
      have hh := head_no hk (33 :: x.val) (c := 45) rfl
      unfold partM
      rw [hn, if_neg (fun hq => hq.elim (fun h => absurd h (by decide)) (fun h => hh h.2)), if_neg hh, cutAt_miss (by simp [k58, name_no hv' (c := 58) rfl]), cutAt_hit k33]
      simp [← o2]
    · have hv' : x.val = [] := by
        have : ¬ x.op ≤ 2 := by omega
        simpa [valOk, this] using hv
      by_cases o3 : x.op = 3
      · have e : mText x = x.key := by simp [mText, o3]
        refine ⟨h1, h2, fun e2 => k45 (by rw [← e, e2]; simp), ?_⟩
        rw [e]
        have hn : nSigns x.key = 0 := by simp [nSigns, c1, c2]
        have hh : x.key.head? ≠ some 45 := by simpa using head_no hk [] (c := 45) rfl
        unfold partM
        rw [hn, if_neg (by simp), if_neg hh, cutAt_miss k58, cutAt_miss k33]
        have ex : x = ⟨3, x.key, []⟩ := by
          obtain ⟨o, k, v⟩ := x
          simp only at o3 hv'
          subst o3 hv'
          rfl
        simp only
        exact congrArg some ex.symm
      · have o4 : x.op = 4 := by omega
        have e : mText x = 45 :: x.key := by simp [mText, o4]
        refine ⟨h1, h2, fun e2 => name_ne hk (by rw [e] at e2; simpa using e2), ?_⟩
        rw [e]
        have hn : nSigns (45 :: x.key) = 0 := by simp [nSigns, count_one, c1, c2]
        unfold partM
        rw [hn, if_neg (by simp), if_pos (by simp)]
        have ex : x = ⟨4, x.key, []⟩ := by
          obtain ⟨o, k, v⟩ := x
          simp only at o4 hv'
          subst o4 hv'
          rfl
        exact congrArg some ex.symm
end Go.Aa.T

set_option linter.unusedVariables false
set_option linter.unusedSimpArgs false
set_option maxRecDepth 100000
namespace Go.Aa.T
open Go.Aa Go.Proofs

end Go.Aa.T

set_option linter.unusedVariables false
set_option linter.unusedSimpArgs false
set_option maxRecDepth 100000
namespace Go.Aa.T
open Go.Aa Go.Proofs

end Go.Aa.T

set_option linter.unusedVariables false
set_option linter.unusedSimpArgs false
set_option maxRecDepth 100000
namespace Go.Aa.T
open Go.Aa Go.Proofs


end Go.Aa.T

set_option linter.unusedVariables false
set_option linter.unusedSimpArgs false
set_option maxRecDepth 100000
namespace Go.Aa.T
open Go.Aa Go.Proofs

end Go.Aa.T

set_option linter.unusedVariables false
set_option linter.unusedSimpArgs false
set_option maxRecDepth 100000
namespace Go.Aa.T
open Go.Aa Go.Proofs
structure Amount where
  name : List UInt8
  n : Int
def encA (x : Amount) : AV := .agg [.str x.name, .int .i64 x.n]
instance (x : Amount) : Dat (encA x) := ⟨rfl, rfl⟩
def ordV (s : List Amount) (i : Nat) (x : Amount) : Bool := match i with
  | 0 => false
  | j + 1 => match s[j]? with
    | some p => Op.bytesLess x.name p.name || x.name == p.name
    | none => false
def ckVl (s : List Amount) : Nat → List Amount → Int
  | _, [] => 0
  | i, x :: post => if isName x.name then (if x.n ≤ 0 then 1 else if ordV s i x then 13 else ckVl s (i + 1) post) else 3
def ckV (s : List Amount) : Int := if s.length ≤ 8 then ckVl s 0 s else 4
theorem ckV_ref_loop (l : List Amount) (hn : l.length ≤ 8) : ∀ (post : List Amount) (i : Nat) (hd : l.drop i = post) (T : Env) (hT : Has T [(0, .sl .sh (l.map encA)), (3, .int .i64 i)]),
    Goes cfg a77 k77_0 T Heap.nil (IsRet (.int .i64 (ckVl l i post))) := by
  intro post
  induction post with
  | nil =>
    intro i hd T hT
    have hge := drop_ge hd
    exact goG 60 _  hT  (.len (show lenA false (AV.sl SK.sh (List.map encA l)) = some (AV.int IntKind.i64 (↑l.length : Int)) from len_map _) <| .no (show (decide ((↑i : Int) < (↑l.length : Int))) = false from decide_eq_false (show ¬ ((↑i : Int) < (↑l.length : Int)) from (by omega))) <| .fin ((ARes.ret (AV.int IntKind.i64 (0 : Int)), { boxes := [], toks := [], loops := [] : Heap })) rfl) (by kernel_rfl)
  | cons x post ih =>
    intro i hd T hT
    have hlt := drop_lt hd
    have hnx := drop_next hd
    cases i with
    | zero => exact goG 60 _  hT  (.len (show lenA false (AV.sl SK.sh (List.map encA l)) = some (AV.int IntKind.i64 (↑l.length : Int)) from len_map _) <| .yes (show (decide ((↑(0 : Nat) : Int) < (↑l.length : Int))) = true from decide_eq_true (show (↑(0 : Nat) : Int) < (↑l.length : Int) from (by omega))) <| .idx (show idxA (2 : Nat) (AV.sl SK.sh (List.map encA l)) (AV.int IntKind.i64 (↑(0 : Nat) : Int)) = some (AV.ref (encA x).cells) from idx_row hd (by rfl)) <| .callG ([AV.str x.name]) (AV.bool (isName x.name)) (show Gives cfg (76 : FuncId) [AV.str x.name] (AV.bool (isName x.name)) from name_any _) ⟨rfl, rfl⟩ ⟨rfl, rfl⟩ <| .split (isName x.name = true) (fun h1 => .no (show (!isName x.name) = false from by have hh : isName x.name = true := h1; simp [hh]) <| .idx (show idxA (2 : Nat) (AV.sl SK.sh (List.map encA l)) (AV.int IntKind.i64 (↑(0 : Nat) : Int)) = some (AV.ref (encA x).cells) from idx_row hd (by rfl)) <| .split (x.n ≤ (0 : Int)) (fun h2 => .yes (show (decide (x.n ≤ (0 : Int))) = true from decide_eq_true (show x.n ≤ (0 : Int) from h2)) <| .fin ((ARes.ret (AV.int IntKind.i64 (1 : Int)), { boxes := [], toks := [], loops := [] : Heap })) (by simp only [IsRet]; grind [ckVl, ordV])) (fun h2 => .no (show (decide (x.n ≤ (0 : Int))) = false from decide_eq_false (show ¬ (x.n ≤ (0 : Int)) from h2)) <| .ff <| .ff <| .bin (show binA BinOp.add (AV.int IntKind.i64 (↑(0 : Nat) : Int)) (AV.int IntKind.i64 (1 : Int)) = some (AV.int IntKind.i64 (↑((0 : Nat) + (1 : Nat)) : Int)) from inc_i (by omega)) <| .cutQ k77_0 [(0, AV.sl SK.sh (List.map encA l)), (3, AV.int IntKind.i64 (↑((0 : Nat) + (1 : Nat)) : Int))] ({ boxes := [], toks := [], loops := [] : Heap }) (fun T hT => (ih ((0 : Nat) + (1 : Nat)) hnx T hT).to (by grind [ckVl, ordV])))) (fun h1 => .yes (show (!isName x.name) = true from by have hh : ¬ (isName x.name = true) := h1; simp [hh]) <| .fin ((ARes.ret (AV.int IntKind.i64 (3 : Int)), { boxes := [], toks := [], loops := [] : Heap })) (by simp only [IsRet]; grind [ckVl, ordV]))) (by kernel_rfl)
    | succ j =>
      obtain ⟨p, hp⟩ : ∃ p, l[j]? = some p := ⟨l[j], List.getElem?_eq_getElem (by omega)⟩
      exact goG 60 _  hT  (.len (show lenA false (AV.sl SK.sh (List.map encA l)) = some (AV.int IntKind.i64 (↑l.length : Int)) from len_map _) <| .yes (show (decide ((↑(j + (1 : Nat)) : Int) < (↑l.length : Int))) = true from decide_eq_true (show (↑(j + (1 : Nat)) : Int) < (↑l.length : Int) from (by omega))) <| .idx (show idxA (2 : Nat) (AV.sl SK.sh (List.map encA l)) (AV.int IntKind.i64 (↑(j + (1 : Nat)) : Int)) = some (AV.ref (encA x).cells) from idx_row hd (by rfl)) <| .callG ([AV.str x.name]) (AV.bool (isName x.name)) (show Gives cfg (76 : FuncId) [AV.str x.name] (AV.bool (isName x.name)) from name_any _) ⟨rfl, rfl⟩ ⟨rfl, rfl⟩ <| .split (isName x.name = true) (fun h1 => .no (show (!isName x.name) = false from by have hh : isName x.name = true := h1; simp [hh]) <| .idx (show idxA (2 : Nat) (AV.sl SK.sh (List.map encA l)) (AV.int IntKind.i64 (↑(j + (1 : Nat)) : Int)) = some (AV.ref (encA x).cells) from idx_row hd (by rfl)) <| .split (x.n ≤ (0 : Int)) (fun h2 => .yes (show (decide (x.n ≤ (0 : Int))) = true from decide_eq_true (show x.n ≤ (0 : Int) from h2)) <| .fin ((ARes.ret (AV.int IntKind.i64 (1 : Int)), { boxes := [], toks := [], loops := [] : Heap })) (by simp only [IsRet]; grind [ckVl, ordV])) (fun h2 => .no (show (decide (x.n ≤ (0 : Int))) = false from decide_eq_false (show ¬ (x.n ≤ (0 : Int)) from h2)) <| .yes (show (decide ((0 : Int) < (↑(j + (1 : Nat)) : Int))) = true from decide_eq_true (show (0 : Int) < (↑(j + (1 : Nat)) : Int) from (by omega))) <| .idx (show idxA (2 : Nat) (AV.sl SK.sh (List.map encA l)) (AV.int IntKind.i64 (↑(j + (1 : Nat)) : Int)) = some (AV.ref (encA x).cells) from idx_row hd (by rfl)) <| .bin (show binA BinOp.sub (AV.int IntKind.i64 (↑(j + (1 : Nat)) : Int)) (AV.int IntKind.i64 (1 : Int)) = some (AV.int IntKind.i64 (↑j : Int)) from dec_i (by omega)) <| .idx (show idxA (2 : Nat) (AV.sl SK.sh (List.map encA l)) (AV.int IntKind.i64 (↑j : Int)) = some (AV.ref (encA p).cells) from idx_get hp (by rfl)) <| .split ((Op.bytesLess x.name p.name || x.name == p.name) = true) (fun h3 => .yes (show (Op.bytesLess x.name p.name || x.name == p.name) = true from h3) <| .fin ((ARes.ret (AV.int IntKind.i64 (13 : Int)), { boxes := [], toks := [], loops := [] : Heap })) (by simp only [IsRet]; grind [ckVl, ordV])) (fun h3 => .no (show (Op.bytesLess x.name p.name || x.name == p.name) = false from Bool.eq_false_iff.2 (show ¬ ((Op.bytesLess x.name p.name || x.name == p.name) = true) from h3)) <| .bin (show binA BinOp.add (AV.int IntKind.i64 (↑(j + (1 : Nat)) : Int)) (AV.int IntKind.i64 (1 : Int)) = some (AV.int IntKind.i64 (↑(j + (1 : Nat) + (1 : Nat)) : Int)) from inc_i (by omega)) <| .cutQ k77_0 [(0, AV.sl SK.sh (List.map encA l)), (3, AV.int IntKind.i64 (↑(j + (1 : Nat) + (1 : Nat)) : Int))] ({ boxes := [], toks := [], loops := [] : Heap }) (fun T hT => (ih (j + (1 : Nat) + (1 : Nat)) hnx T hT).to (by grind [ckVl, ordV]))))) (fun h1 => .yes (show (!isName x.name) = true from by have hh : ¬ (isName x.name = true) := h1; simp [hh]) <| .fin ((ARes.ret (AV.int IntKind.i64 (3 : Int)), { boxes := [], toks := [], loops := [] : Heap })) (by simp only [IsRet]; grind [ckVl, ordV]))) (by kernel_rfl)
theorem ckV_ref (l : List Amount) : Gives cfg 77 [.sl .sh (l.map encA)] (.int .i64 (ckV l)) := by
  refine Gives.run (l77 _ _) ?_
  have h := fun hn => ckV_ref_loop l hn l 0 rfl
  exact goG 60 []  trivial  (.len (show lenA false (AV.sl SK.sh (List.map encA l)) = some (AV.int IntKind.i64 (↑l.length : Int)) from len_map _) <| .split ((8 : Int) < (↑l.length : Int)) (fun h1 => .yes (show (decide ((8 : Int) < (↑l.length : Int))) = true from decide_eq_true (show (8 : Int) < (↑l.length : Int) from h1)) <| .fin ((ARes.ret (AV.int IntKind.i64 (4 : Int)), { boxes := [], toks := [], loops := [] : Heap })) (by simp only [IsRet]; grind [ckV])) (fun h1 => .no (show (decide ((8 : Int) < (↑l.length : Int))) = false from decide_eq_false (show ¬ ((8 : Int) < (↑l.length : Int)) from h1)) <| .cutQ k77_0 [(0, AV.sl SK.sh (List.map encA l)), (3, AV.int IntKind.i64 (0 : Int))] ({ boxes := [], toks := [], loops := [] : Heap }) (fun T hT => (h (by omega) T hT).to (by grind [ckV])))) (by kernel_rfl)
end Go.Aa.T

set_option linter.unusedVariables false
set_option linter.unusedSimpArgs false
set_option maxRecDepth 100000
namespace Go.Aa.T
open Go.Aa Go.Proofs
def firstE : List Int → Int
  | [] => 0
  | x :: r => if x = 0 then firstE r else x
end Go.Aa.T

set_option linter.unusedVariables false
set_option linter.unusedSimpArgs false
set_option maxRecDepth 100000
namespace Go.Aa.T
open Go.Aa Go.Proofs
structure Node where
  name : List UInt8
  cap : List Amount
  labels : List Pair
  taints : List Taint
  cordon : Bool
def encN (n : Node) : AV := .agg [.str n.name, .sl .sh (n.cap.map encA), .sl .sh (n.labels.map encP), .sl .sh (n.taints.map encT), .bool n.cordon]
end Go.Aa.T

set_option linter.unusedVariables false
set_option linter.unusedSimpArgs false
namespace Go.Aa.T
open Go.Aa
def isDig (c : UInt8) : Bool := decide (48 ≤ c.toNat) && decide (c.toNat ≤ 57)
def dval (c : UInt8) : Nat := c.toNat - 48
def valN (acc : Nat) (s : List UInt8) : Nat := s.foldl (fun a c => a * 10 + dval c) acc
def digB (s : List UInt8) : Bool := !s.isEmpty && s.all isDig && (decide (s.head? ≠ some 48) || decide (s.length = 1))
theorem valN_cons (a : Nat) (c : UInt8) (r : List UInt8) : valN a (c :: r) = valN (a * 10 + dval c) r := List.foldl_cons ..
theorem valN_nil (a : Nat) : valN a [] = a := List.foldl_nil ..
theorem valN_app (a : Nat) (s t : List UInt8) : valN a (s ++ t) = valN (valN a s) t := by
  induction s generalizing a with
  | nil => rw [List.nil_append, valN_nil]
  | cons c s ih => rw [List.cons_append, valN_cons, valN_cons]; exact ih (a * 10 + dval c)
theorem dig_nat {d : Nat} (h : d < 10) : isDig (UInt8.ofNat (48 + d)) = true ∧ dval (UInt8.ofNat (48 + d)) = d := by
  have key : ∀ d, d < 10 → isDig (UInt8.ofNat (48 + d)) = true ∧ dval (UInt8.ofNat (48 + d)) = d := by decide
  exact key d h
theorem dec_split (u : Nat) (h : ¬ u < 10) : Lib.decDigits u = Lib.decDigits (u / 10) ++ [UInt8.ofNat (48 + u % 10)] := by
  rw [Lib.decDigits, dif_neg h]
theorem dec_one (u : Nat) (h : u < 10) : Lib.decDigits u = [UInt8.ofNat (48 + u)] := by
  rw [Lib.decDigits, dif_pos h]
theorem dec_val (u : Nat) : valN 0 (Lib.decDigits u) = u := by
  induction u using Nat.strongRecOn with
  | ind u ih =>
    by_cases h : u < 10
    · rw [dec_one u h]
      show 0 * 10 + dval (UInt8.ofNat (48 + u)) = u
      rw [(dig_nat h).2]
      omega
    · rw [dec_split u h, valN_app, ih (u / 10) (by omega)]
      show u / 10 * 10 + dval (UInt8.ofNat (48 + u % 10)) = u
      rw [(dig_nat (show u % 10 < 10 by omega)).2]
      omega
theorem dec_all (u : Nat) : (Lib.decDigits u).all isDig = true := by
  induction u using Nat.strongRecOn with
  | ind u ih =>
    by_cases h : u < 10
    · rw [dec_one u h, List.all_cons, (dig_nat h).1]; rfl
    · rw [dec_split u h, List.all_append, ih (u / 10) (by omega), List.all_cons, (dig_nat (show u % 10 < 10 by omega)).1]; rfl
theorem dec_ne (u : Nat) : Lib.decDigits u ≠ [] := by
  intro h
  have h1 := dec_val u
  by_cases hu : u < 10
  · rw [dec_one u hu] at h; cases h
  · rw [dec_split u hu] at h; simp at h
theorem dec_head (u : Nat) (h : u ≠ 0) : (Lib.decDigits u).head? ≠ some 48 := by
  induction u using Nat.strongRecOn with
  | ind u ih =>
    by_cases hu : u < 10
    · rw [dec_one u hu]
      simp only [List.head?_cons, ne_eq, Option.some.injEq]
      intro e
      have h1 := (dig_nat hu).2
      rw [e] at h1
      have : dval 48 = 0 := rfl
      omega
    · have hq := ih (u / 10) (by omega) (by omega)
      rw [dec_split u hu]
      cases hd : Lib.decDigits (u / 10) with
      | nil => exact absurd hd (dec_ne _)
      | cons x xs => rw [hd] at hq; simpa using hq
theorem dec_dig (u : Nat) : digB (Lib.decDigits u) = true := by
  have h1 := dec_all u
  have h2 := dec_ne u
  simp only [digB, Bool.and_eq_true, Bool.not_eq_true', List.isEmpty_eq_false_iff, Bool.or_eq_true, decide_eq_true_eq]
  refine ⟨⟨h2, h1⟩, ?_⟩
  by_cases h : u = 0
  · subst h
    exact .inr (by rw [dec_one 0 (by omega)]; rfl)
  · exact .inl (dec_head u h)
theorem itoa_nat {n : Nat} (h : n ≤ 9223372036854775807) : itoaF (n : Int) = Lib.decDigits n := by
  rw [itoaF_eq (by omega) (by omega)]
  unfold Lib.itoa
  rw [if_neg (by omega)]
  rfl
theorem itoa_inj {a b : Int} (ha : 0 ≤ a) (hb : 0 ≤ b) (ha1 : a ≤ 9223372036854775807) (hb1 : b ≤ 9223372036854775807) (h : itoaF a = itoaF b) : a = b := by
  obtain ⟨n, rfl⟩ := Int.eq_ofNat_of_zero_le ha
  obtain ⟨m, rfl⟩ := Int.eq_ofNat_of_zero_le hb
  have h' : itoaF (n : Int) = itoaF (m : Int) := h
  rw [itoa_nat (by omega), itoa_nat (by omega)] at h'
  have := congrArg (valN 0) h'
  rw [dec_val, dec_val] at this
  rw [this]
end Go.Aa.T

set_option linter.unusedVariables false
set_option linter.unusedSimpArgs false
set_option maxRecDepth 100000
namespace Go.Aa.T
open Go.Aa Go.Proofs
theorem tail_consC (c : UInt8) (y : List UInt8) (r : List (List UInt8)) : Lib.joinTail [c] (y :: r) = c :: (y ++ Lib.joinTail [c] r) := by simp [Lib.joinTail]
theorem parts_tailC (c : UInt8) : ∀ (r : List (List UInt8)) (x : List UInt8), c ∉ x → (∀ y ∈ r, c ∉ y) → parts c (x ++ Lib.joinTail [c] r) = x :: r
  | [], x, hx, _ => by simp only [Lib.joinTail, List.map_nil, List.flatten_nil, List.append_nil]; exact parts_none hx
  | y :: r, x, hx, hr => by
    rw [tail_consC, parts_some hx, parts_tailC c r y (hr y (by simp)) (fun z hz => hr z (by simp [hz]))]
theorem parts_joinC (c : UInt8) {x : List UInt8} {r : List (List UInt8)} (h : ∀ y ∈ x :: r, c ∉ y) : parts c (Lib.join (x :: r) [c]) = x :: r := by
  rw [Lib.join_cons]
  exact parts_tailC c r x (h x (by simp)) (fun y hy => h y (by simp [hy]))
theorem join_inj (c : UInt8) {x y : List UInt8} {r q : List (List UInt8)} (h1 : ∀ z ∈ x :: r, c ∉ z) (h2 : ∀ z ∈ y :: q, c ∉ z) (h : Lib.join (x :: r) [c] = Lib.join (y :: q) [c]) : x :: r = y :: q := by
  rw [← parts_joinC c h1, ← parts_joinC c h2, h]
theorem join_no {c d : UInt8} (hcd : c ≠ d) : ∀ (l : List (List UInt8)), (∀ y ∈ l, c ∉ y) → c ∉ Lib.join l [d] := by
  intro l h
  cases l with
  | nil => simp [Lib.join_nil]
  | cons x r =>
    rw [Lib.join_cons, List.mem_append]
    have ht : ∀ (q : List (List UInt8)), (∀ y ∈ q, c ∉ y) → c ∉ Lib.joinTail [d] q := by
      intro q
      induction q with
      | nil => intro _; simp [Lib.joinTail]
      | cons y q ih =>
        intro hq
        rw [tail_consC]
        simp only [List.mem_cons, List.mem_append, not_or]
        exact ⟨hcd, hq y (by simp), ih fun z hz => hq z (by simp [hz])⟩
    exact fun e => e.elim (h x (by simp)) (ht r fun z hz => h z (by simp [hz]))
theorem textOf_no {X : Type} (f : X → List UInt8) (l : List X) {c : UInt8} (h44 : c ≠ 44) (h45 : c ≠ 45) (h : ∀ x ∈ l, c ∉ f x) : c ∉ textOf f l := by
  unfold textOf
  split
  · simp [h45]
  · exact join_no h44 _ fun y hy => by
      obtain ⟨x, hx, rfl⟩ := List.mem_map.1 hy
      exact h x hx

def aText (x : Amount) : List UInt8 := x.name ++ [61] ++ itoaF x.n
def goodA (x : Amount) : Bool := isName x.name && decide (0 < x.n)
theorem ckVl_good (l : List Amount) : ∀ (post : List Amount) (i : Nat), ckVl l i post = 0 → ∀ x ∈ post, goodA x = true
  | [], _, _ => by simp
  | x :: post, i, h => by
    unfold ckVl at h
    split at h
    · rename_i hg
      split at h
      · cases h
      · rename_i hn
        split at h
        · cases h
        · intro y hy
          rcases List.mem_cons.1 hy with rfl | hy
          · simp only [goodA, Bool.and_eq_true, decide_eq_true_eq]; exact ⟨hg, by omega⟩
          · exact ckVl_good l post _ h y hy
    · cases h
theorem ckV_good {l : List Amount} (h : ckV l = 0) : ∀ x ∈ l, goodA x = true := by
  unfold ckV at h
  split at h
  · exact ckVl_good l l 0 h
  · cases h
def smallA (l : List Amount) : Prop := ∀ x ∈ l, x.n ≤ 9223372036854775807
def partA (w : List UInt8) : Option Amount := match cutAt 61 w with
  | some (k, v) => if digB v = true then some ⟨k, (valN 0 v : Int)⟩ else none
  | none => none
theorem dig_no {s : List UInt8} (h : s.all isDig = true) {c : UInt8} (hc : isDig c = false) : c ∉ s := fun hm => by
  have := List.all_eq_true.1 h c hm
  rw [hc] at this; cases this
theorem aText_form (x : Amount) (hg : goodA x = true) (hn : x.n ≤ 9223372036854775807) : ∃ v, digB v = true ∧ v.all isDig = true ∧ (valN 0 v : Int) = x.n ∧ itoaF x.n = v ∧ (61 : UInt8) ∉ x.name ∧ (44 : UInt8) ∉ x.name ∧ (32 : UInt8) ∉ x.name := by
  simp only [goodA, Bool.and_eq_true, decide_eq_true_eq] at hg
  obtain ⟨k, hk⟩ := Int.eq_ofNat_of_zero_le (show 0 ≤ x.n by omega)
  have hk : x.n = (k : Int) := hk
  refine ⟨Lib.decDigits k, dec_dig k, dec_all k, by rw [dec_val, hk], by rw [hk, itoa_nat (by omega)], name_no hg.1 rfl, name_no hg.1 rfl, name_no hg.1 rfl⟩
theorem aText_ok (x : Amount) (hg : goodA x = true) (hn : x.n ≤ 9223372036854775807) : aText x ≠ [] ∧ (44 : UInt8) ∉ aText x ∧ (32 : UInt8) ∉ aText x ∧ aText x ≠ [45] ∧ partA (aText x) = some x := by
  obtain ⟨v, h1, h2, h3, h4, h5, h6, h7⟩ := aText_form x hg hn
  have e : aText x = x.name ++ 61 :: v := by simp [aText, h4]
  rw [e]
  refine ⟨by simp, ?_, ?_, ?_, ?_⟩
  · simp only [List.mem_append, List.mem_cons, not_or]; exact ⟨h6, by decide, dig_no h2 rfl⟩
  · simp only [List.mem_append, List.mem_cons, not_or]; exact ⟨h7, by decide, dig_no h2 rfl⟩
  · intro e2
    have : (61 : UInt8) ∈ ([45] : List UInt8) := e2 ▸ (by simp)
    revert this; decide
  · unfold partA
    rw [cutAt_hit h5]
    simp only
    rw [if_pos h1, h3]
theorem aText_read {l : List Amount} (h : ckV l = 0) (hs : smallA l) : parsed partA ckV (textOf aText l) = (l, 0) :=
  told_read l h fun x hx => by
    obtain ⟨h1, h2, -, h3, h4⟩ := aText_ok x (ckV_good h x hx) (hs x hx)
    exact ⟨h1, h2, h3, h4⟩
theorem aText_inj {a b : List Amount} (ha : ckV a = 0) (hb : ckV b = 0) (sa : smallA a) (sb : smallA b) (h : textOf aText a = textOf aText b) : a = b := by
  have h1 := aText_read ha sa
  rw [h, aText_read hb sb] at h1
  exact (congrArg Prod.fst h1).symm
theorem pText_inj {a b : List Pair} (ha : ckS a = 0) (hb : ckS b = 0) (h : textOf pText a = textOf pText b) : a = b := by
  have h1 := pText_read ha
  rw [h, pText_read hb] at h1
  exact (congrArg Prod.fst h1).symm
theorem mText_inj {a b : List Term} (ha : ckM a = 0) (hb : ckM b = 0) (h : textOf mText a = textOf mText b) : a = b := by
  have h1 := mText_read ha
  rw [h, mText_read hb] at h1
  exact (congrArg Prod.fst h1).symm
theorem lText_inj {a b : List Tol} (ha : ckL a = 0) (hb : ckL b = 0) (h : textOf lText a = textOf lText b) : a = b := by
  have h1 := lText_read ha
  rw [h, lText_read hb] at h1
  exact (congrArg Prod.fst h1).symm

theorem pair_no {c : UInt8} {a b : List UInt8} {s : UInt8} (ha : c ∉ a) (hs : c ≠ s) (hb : c ∉ b) : c ∉ a ++ [s] ++ b := by
  simp [ha, hs, hb]
theorem aText_32 {l : List Amount} (h : ckV l = 0) (hs : smallA l) : (32 : UInt8) ∉ textOf aText l :=
  textOf_no _ _ (by decide) (by decide) fun x hx => (aText_ok x (ckV_good h x hx) (hs x hx)).2.2.1
theorem pText_32 {l : List Pair} (h : ckS l = 0) : (32 : UInt8) ∉ textOf pText l :=
  textOf_no _ _ (by decide) (by decide) fun x hx => by
    have hg := ckS_good h x hx
    simp only [goodP, Bool.and_eq_true] at hg
    exact pair_no (name_no hg.1 rfl) (by decide) (name_no hg.2 rfl)
theorem mText_32 {l : List Term} (h : ckM l = 0) : (32 : UInt8) ∉ textOf mText l :=
  textOf_no _ _ (by decide) (by decide) fun x hx => by
    have hg := ckM_good h x hx
    simp only [goodM, Bool.and_eq_true, decide_eq_true_eq] at hg
    obtain ⟨ho, hk, hv⟩ := hg
    have hv2 : (32 : UInt8) ∉ x.val := by
      unfold valOk at hv
      split at hv
      · exact name_no hv rfl
      · rw [show x.val = [] by simpa using hv]; simp
    have hk2 : (32 : UInt8) ∉ x.key := name_no hk rfl
    unfold mText
    split
    · exact pair_no hk2 (by decide) hv2
    · split
      · exact pair_no hk2 (by decide) hv2
      · split
        · simp [hk2]
        · exact hk2
theorem lText_32 {l : List Tol} (h : ckL l = 0) : (32 : UInt8) ∉ textOf lText l :=
  textOf_no _ _ (by decide) (by decide) fun x hx => by
    have hg := ckL_good h x hx
    have hs := star_no x hg (c := 32) rfl (by decide)
    simp only [okL, Bool.and_eq_true, Bool.or_eq_true, decide_eq_true_eq] at hg
    have hv2 : (32 : UInt8) ∉ x.val := by
      have := hg.2
      split at this
      · rw [show x.val = [] by simpa using this]; simp
      · exact name_no this rfl
    unfold lText
    unfold starK at hs
    split
    · exact hs
    · exact pair_no hs (by decide) hv2
end Go.Aa.T

set_option linter.unusedVariables false
set_option linter.unusedSimpArgs false
set_option maxRecDepth 100000
namespace Go.Aa.T
open Go.Aa Go.Proofs

def same2 {X : Type} (e : X → X → Bool) : List X → List X → Bool
  | [], [] => true
  | x :: a, y :: b => e x y && same2 e a b
  | _, _ => false
theorem same2_len {X : Type} {e : X → X → Bool} : ∀ {a b : List X}, a.length ≠ b.length → same2 e a b = false
  | [], [], h => absurd rfl h
  | [], _ :: _, _ => rfl
  | _ :: _, [], _ => rfl
  | x :: a, y :: b, h => by
    simp only [List.length_cons, ne_eq, Nat.add_right_cancel_iff] at h
    simp only [same2, same2_len h, Bool.and_false]
theorem same2_iff {X : Type} {e : X → X → Bool} (he : ∀ x y, e x y = true ↔ x = y) : ∀ {a b : List X}, same2 e a b = true ↔ a = b
  | [], [] => by simp [same2]
  | [], _ :: _ => by simp [same2]
  | _ :: _, [] => by simp [same2]
  | x :: a, y :: b => by simp [same2, he, same2_iff he]
def eqA (x y : Amount) : Bool := x.name == y.name && x.n == y.n
def eqP (x y : Pair) : Bool := x.key == y.key && x.val == y.val
def eqM (x y : Term) : Bool := x.op == y.op && (x.key == y.key && x.val == y.val)
def eqL (x y : Tol) : Bool := x.key == y.key && (x.val == y.val && x.any == y.any)
theorem eqA_iff (x y : Amount) : eqA x y = true ↔ x = y := by cases x; cases y; simp [eqA]
theorem eqP_iff (x y : Pair) : eqP x y = true ↔ x = y := by cases x; cases y; simp [eqP]
theorem eqM_iff (x y : Term) : eqM x y = true ↔ x = y := by cases x; cases y; simp [eqM]
theorem eqL_iff (x y : Tol) : eqL x y = true ↔ x = y := by cases x; cases y; simp [eqL]
theorem sameVp_loop (a b : List Amount) (hn : a.length < 9223372036854775807) (he : a.length = b.length) : ∀ (post q : List Amount) (i : Nat) (hd : a.drop i = post) (hq : b.drop i = q) (T : Env) (hT : Has T [(0, .sl .sh (a.map encA)), (1, .sl .sh (b.map encA)), (12, .int .i64 a.length), (13, .int .i64 i)]),
    Goes cfg a146 k146_0 T Heap.nil (IsRet (.bool (same2 eqA post q))) := by
  intro post
  induction post with
  | nil =>
    intro q i hd hq T hT
    have hge := drop_ge hd
    have e : q = [] := by rw [← hq]; exact List.drop_eq_nil_of_le (by omega)
    subst e
    exact goG 60 _  hT  (.no (show (decide ((↑i : Int) < (↑a.length : Int))) = false from decide_eq_false (show ¬ ((↑i : Int) < (↑a.length : Int)) from (by omega))) <| .fin ((ARes.ret (AV.bool true), { boxes := [], toks := [], loops := [] : Heap })) rfl) (by kernel_rfl)
  | cons x post ih =>
    intro q i hd hq T hT
    have hlt := drop_lt hd
    have hnx := drop_next hd
    cases q with
    | nil => have := drop_ge hq; omega
    | cons y q =>
      have hnq := drop_next hq
      exact goG 60 _  hT  (.yes (show (decide ((↑i : Int) < (↑a.length : Int))) = true from decide_eq_true (show (↑i : Int) < (↑a.length : Int) from (by omega))) <| .idx (show idxA (2 : Nat) (AV.sl SK.sh (List.map encA a)) (AV.int IntKind.i64 (↑i : Int)) = some (AV.ref (encA x).cells) from idx_row hd (by rfl)) <| .idx (show idxA (2 : Nat) (AV.sl SK.sh (List.map encA b)) (AV.int IntKind.i64 (↑i : Int)) = some (AV.ref (encA y).cells) from idx_row hq (by rfl)) <| .split ((if true = true then !(x.name == y.name && (x.n == y.n && true)) else x.name == y.name && (x.n == y.n && true)) = true) (fun h1 => .yes (show (if true = true then !(x.name == y.name && (x.n == y.n && true)) else x.name == y.name && (x.n == y.n && true)) = true from h1) <| .fin ((ARes.ret (AV.bool false), { boxes := [], toks := [], loops := [] : Heap })) (by simp only [IsRet]; grind [same2, eqA])) (fun h1 => .no (show (if true = true then !(x.name == y.name && (x.n == y.n && true)) else x.name == y.name && (x.n == y.n && true)) = false from Bool.eq_false_iff.2 (show ¬ ((if true = true then !(x.name == y.name && (x.n == y.n && true)) else x.name == y.name && (x.n == y.n && true)) = true) from h1)) <| .bin (show binA BinOp.add (AV.int IntKind.i64 (↑i : Int)) (AV.int IntKind.i64 (1 : Int)) = some (AV.int IntKind.i64 (↑(i + (1 : Nat)) : Int)) from inc_i (by omega)) <| .cutQ k146_0 [(0, AV.sl SK.sh (List.map encA a)), (1, AV.sl SK.sh (List.map encA b)), (12, AV.int IntKind.i64 (↑a.length : Int)), (13, AV.int IntKind.i64 (↑(i + (1 : Nat)) : Int))] ({ boxes := [], toks := [], loops := [] : Heap }) (fun T hT => (ih (q) (i + (1 : Nat)) hnx hnq T hT).to (by grind [same2, eqA])))) (by kernel_rfl)
theorem sameVp (a b : List Amount) (hn : a.length < 9223372036854775807) : Gives cfg 146 [.sl .sh (a.map encA), .sl .sh (b.map encA)] (.bool (same2 eqA a b)) := by
  refine Gives.run (l146 _ _) ?_
  by_cases he : a.length = b.length
  · have h := sameVp_loop a b hn he a b 0 rfl rfl
    exact goG 60 []  trivial  (.len (show lenA false (AV.sl SK.sh (List.map encA a)) = some (AV.int IntKind.i64 (↑a.length : Int)) from len_map _) <| .len (show lenA false (AV.sl SK.sh (List.map encA b)) = some (AV.int IntKind.i64 (↑b.length : Int)) from len_map _) <| .no (show ((↑a.length : Int) != (↑b.length : Int)) = false from Bool.eq_false_iff.2 (show ¬ (((↑a.length : Int) != (↑b.length : Int)) = true) from (by simp [he]))) <| .len (show lenA false (AV.sl SK.sh (List.map encA a)) = some (AV.int IntKind.i64 (↑a.length : Int)) from len_map _) <| .cutQ k146_0 [(0, AV.sl SK.sh (List.map encA a)), (1, AV.sl SK.sh (List.map encA b)), (12, AV.int IntKind.i64 (↑a.length : Int)), (13, AV.int IntKind.i64 (0 : Int))] ({ boxes := [], toks := [], loops := [] : Heap }) (fun T hT => (h T hT))) (by kernel_rfl)
  · rw [same2_len he]
    exact goG 60 []  trivial  (.len (show lenA false (AV.sl SK.sh (List.map encA a)) = some (AV.int IntKind.i64 (↑a.length : Int)) from len_map _) <| .len (show lenA false (AV.sl SK.sh (List.map encA b)) = some (AV.int IntKind.i64 (↑b.length : Int)) from len_map _) <| .yes (show ((↑a.length : Int) != (↑b.length : Int)) = true from (by simp; omega)) <| .fin ((ARes.ret (AV.bool false), { boxes := [], toks := [], loops := [] : Heap })) rfl) (by kernel_rfl)
theorem samePp_loop (a b : List Pair) (hn : a.length < 9223372036854775807) (he : a.length = b.length) : ∀ (post q : List Pair) (i : Nat) (hd : a.drop i = post) (hq : b.drop i = q) (T : Env) (hT : Has T [(0, .sl .sh (a.map encP)), (1, .sl .sh (b.map encP)), (12, .int .i64 a.length), (13, .int .i64 i)]),
    Goes cfg a86 k86_0 T Heap.nil (IsRet (.bool (same2 eqP post q))) := by
  intro post
  induction post with
  | nil =>
    intro q i hd hq T hT
    have hge := drop_ge hd
    have e : q = [] := by rw [← hq]; exact List.drop_eq_nil_of_le (by omega)
    subst e
    exact goG 60 _  hT  (.no (show (decide ((↑i : Int) < (↑a.length : Int))) = false from decide_eq_false (show ¬ ((↑i : Int) < (↑a.length : Int)) from (by omega))) <| .fin ((ARes.ret (AV.bool true), { boxes := [], toks := [], loops := [] : Heap })) rfl) (by kernel_rfl)
  | cons x post ih =>
    intro q i hd hq T hT
    have hlt := drop_lt hd
    have hnx := drop_next hd
    cases q with
    | nil => have := drop_ge hq; omega
    | cons y q =>
      have hnq := drop_next hq
      exact goG 60 _  hT  (.yes (show (decide ((↑i : Int) < (↑a.length : Int))) = true from decide_eq_true (show (↑i : Int) < (↑a.length : Int) from (by omega))) <| .idx (show idxA (2 : Nat) (AV.sl SK.sh (List.map encP a)) (AV.int IntKind.i64 (↑i : Int)) = some (AV.ref (encP x).cells) from idx_row hd (by rfl)) <| .idx (show idxA (2 : Nat) (AV.sl SK.sh (List.map encP b)) (AV.int IntKind.i64 (↑i : Int)) = some (AV.ref (encP y).cells) from idx_row hq (by rfl)) <| .split ((if true = true then !(x.key == y.key && (x.val == y.val && true)) else x.key == y.key && (x.val == y.val && true)) = true) (fun h1 => .yes (show (if true = true then !(x.key == y.key && (x.val == y.val && true)) else x.key == y.key && (x.val == y.val && true)) = true from h1) <| .fin ((ARes.ret (AV.bool false), { boxes := [], toks := [], loops := [] : Heap })) (by simp only [IsRet]; grind [same2, eqP])) (fun h1 => .no (show (if true = true then !(x.key == y.key && (x.val == y.val && true)) else x.key == y.key && (x.val == y.val && true)) = false from Bool.eq_false_iff.2 (show ¬ ((if true = true then !(x.key == y.key && (x.val == y.val && true)) else x.key == y.key && (x.val == y.val && true)) = true) from h1)) <| .bin (show binA BinOp.add (AV.int IntKind.i64 (↑i : Int)) (AV.int IntKind.i64 (1 : Int)) = some (AV.int IntKind.i64 (↑(i + (1 : Nat)) : Int)) from inc_i (by omega)) <| .cutQ k86_0 [(0, AV.sl SK.sh (List.map encP a)), (1, AV.sl SK.sh (List.map encP b)), (12, AV.int IntKind.i64 (↑a.length : Int)), (13, AV.int IntKind.i64 (↑(i + (1 : Nat)) : Int))] ({ boxes := [], toks := [], loops := [] : Heap }) (fun T hT => (ih (q) (i + (1 : Nat)) hnx hnq T hT).to (by grind [same2, eqP])))) (by kernel_rfl)
theorem samePp (a b : List Pair) (hn : a.length < 9223372036854775807) : Gives cfg 86 [.sl .sh (a.map encP), .sl .sh (b.map encP)] (.bool (same2 eqP a b)) := by
  refine Gives.run (l86 _ _) ?_
  by_cases he : a.length = b.length
  · have h := samePp_loop a b hn he a b 0 rfl rfl
    exact goG 60 []  trivial  (.len (show lenA false (AV.sl SK.sh (List.map encP a)) = some (AV.int IntKind.i64 (↑a.length : Int)) from len_map _) <| .len (show lenA false (AV.sl SK.sh (List.map encP b)) = some (AV.int IntKind.i64 (↑b.length : Int)) from len_map _) <| .no (show ((↑a.length : Int) != (↑b.length : Int)) = false from Bool.eq_false_iff.2 (show ¬ (((↑a.length : Int) != (↑b.length : Int)) = true) from (by simp [he]))) <| .len (show lenA false (AV.sl SK.sh (List.map encP a)) = some (AV.int IntKind.i64 (↑a.length : Int)) from len_map _) <| .cutQ k86_0 [(0, AV.sl SK.sh (List.map encP a)), (1, AV.sl SK.sh (List.map encP b)), (12, AV.int IntKind.i64 (↑a.length : Int)), (13, AV.int IntKind.i64 (0 : Int))] ({ boxes := [], toks := [], loops := [] : Heap }) (fun T hT => (h T hT))) (by kernel_rfl)
  · rw [same2_len he]
    exact goG 60 []  trivial  (.len (show lenA false (AV.sl SK.sh (List.map encP a)) = some (AV.int IntKind.i64 (↑a.length : Int)) from len_map _) <| .len (show lenA false (AV.sl SK.sh (List.map encP b)) = some (AV.int IntKind.i64 (↑b.length : Int)) from len_map _) <| .yes (show ((↑a.length : Int) != (↑b.length : Int)) = true from (by simp; omega)) <| .fin ((ARes.ret (AV.bool false), { boxes := [], toks := [], loops := [] : Heap })) rfl) (by kernel_rfl)
theorem sameMp_loop (a b : List Term) (hn : a.length < 9223372036854775807) (he : a.length = b.length) : ∀ (post q : List Term) (i : Nat) (hd : a.drop i = post) (hq : b.drop i = q) (T : Env) (hT : Has T [(0, .sl .sh (a.map encM)), (1, .sl .sh (b.map encM)), (12, .int .i64 a.length), (13, .int .i64 i)]),
    Goes cfg a131 k131_0 T Heap.nil (IsRet (.bool (same2 eqM post q))) := by
  intro post
  induction post with
  | nil =>
    intro q i hd hq T hT
    have hge := drop_ge hd
    have e : q = [] := by rw [← hq]; exact List.drop_eq_nil_of_le (by omega)
    subst e
    exact goG 60 _  hT  (.no (show (decide ((↑i : Int) < (↑a.length : Int))) = false from decide_eq_false (show ¬ ((↑i : Int) < (↑a.length : Int)) from (by omega))) <| .fin ((ARes.ret (AV.bool true), { boxes := [], toks := [], loops := [] : Heap })) rfl) (by kernel_rfl)
  | cons x post ih =>
    intro q i hd hq T hT
    have hlt := drop_lt hd
    have hnx := drop_next hd
    cases q with
    | nil => have := drop_ge hq; omega
    | cons y q =>
      have hnq := drop_next hq
      exact goG 60 _  hT  (.yes (show (decide ((↑i : Int) < (↑a.length : Int))) = true from decide_eq_true (show (↑i : Int) < (↑a.length : Int) from (by omega))) <| .idx (show idxA (3 : Nat) (AV.sl SK.sh (List.map encM a)) (AV.int IntKind.i64 (↑i : Int)) = some (AV.ref (encM x).cells) from idx_row hd (by rfl)) <| .idx (show idxA (3 : Nat) (AV.sl SK.sh (List.map encM b)) (AV.int IntKind.i64 (↑i : Int)) = some (AV.ref (encM y).cells) from idx_row hq (by rfl)) <| .split ((if true = true then !(x.op == y.op && (x.key == y.key && (x.val == y.val && true))) else x.op == y.op && (x.key == y.key && (x.val == y.val && true))) = true) (fun h1 => .yes (show (if true = true then !(x.op == y.op && (x.key == y.key && (x.val == y.val && true))) else x.op == y.op && (x.key == y.key && (x.val == y.val && true))) = true from h1) <| .fin ((ARes.ret (AV.bool false), { boxes := [], toks := [], loops := [] : Heap })) (by simp only [IsRet]; grind [same2, eqM])) (fun h1 => .no (show (if true = true then !(x.op == y.op && (x.key == y.key && (x.val == y.val && true))) else x.op == y.op && (x.key == y.key && (x.val == y.val && true))) = false from Bool.eq_false_iff.2 (show ¬ ((if true = true then !(x.op == y.op && (x.key == y.key && (x.val == y.val && true))) else x.op == y.op && (x.key == y.key && (x.val == y.val && true))) = true) from h1)) <| .bin (show binA BinOp.add (AV.int IntKind.i64 (↑i : Int)) (AV.int IntKind.i64 (1 : Int)) = some (AV.int IntKind.i64 (↑(i + (1 : Nat)) : Int)) from inc_i (by omega)) <| .cutQ k131_0 [(0, AV.sl SK.sh (List.map encM a)), (1, AV.sl SK.sh (List.map encM b)), (12, AV.int IntKind.i64 (↑a.length : Int)), (13, AV.int IntKind.i64 (↑(i + (1 : Nat)) : Int))] ({ boxes := [], toks := [], loops := [] : Heap }) (fun T hT => (ih (q) (i + (1 : Nat)) hnx hnq T hT).to (by grind [same2, eqM])))) (by kernel_rfl)
theorem sameMp (a b : List Term) (hn : a.length < 9223372036854775807) : Gives cfg 131 [.sl .sh (a.map encM), .sl .sh (b.map encM)] (.bool (same2 eqM a b)) := by
  refine Gives.run (l131 _ _) ?_
  by_cases he : a.length = b.length
  · have h := sameMp_loop a b hn he a b 0 rfl rfl
    exact goG 60 []  trivial  (.len (show lenA false (AV.sl SK.sh (List.map encM a)) = some (AV.int IntKind.i64 (↑a.length : Int)) from len_map _) <| .len (show lenA false (AV.sl SK.sh (List.map encM b)) = some (AV.int IntKind.i64 (↑b.length : Int)) from len_map _) <| .no (show ((↑a.length : Int) != (↑b.length : Int)) = false from Bool.eq_false_iff.2 (show ¬ (((↑a.length : Int) != (↑b.length : Int)) = true) from (by simp [he]))) <| .len (show lenA false (AV.sl SK.sh (List.map encM a)) = some (AV.int IntKind.i64 (↑a.length : Int)) from len_map _) <| .cutQ k131_0 [(0, AV.sl SK.sh (List.map encM a)), (1, AV.sl SK.sh (List.map encM b)), (12, AV.int IntKind.i64 (↑a.length : Int)), (13, AV.int IntKind.i64 (0 : Int))] ({ boxes := [], toks := [], loops := [] : Heap }) (fun T hT => (h T hT))) (by kernel_rfl)
  · rw [same2_len he]
    exact goG 60 []  trivial  (.len (show lenA false (AV.sl SK.sh (List.map encM a)) = some (AV.int IntKind.i64 (↑a.length : Int)) from len_map _) <| .len (show lenA false (AV.sl SK.sh (List.map encM b)) = some (AV.int IntKind.i64 (↑b.length : Int)) from len_map _) <| .yes (show ((↑a.length : Int) != (↑b.length : Int)) = true from (by simp; omega)) <| .fin ((ARes.ret (AV.bool false), { boxes := [], toks := [], loops := [] : Heap })) rfl) (by kernel_rfl)
theorem sameLp_loop (a b : List Tol) (hn : a.length < 9223372036854775807) (he : a.length = b.length) : ∀ (post q : List Tol) (i : Nat) (hd : a.drop i = post) (hq : b.drop i = q) (T : Env) (hT : Has T [(0, .sl .sh (a.map encL)), (1, .sl .sh (b.map encL)), (12, .int .i64 a.length), (13, .int .i64 i)]),
    Goes cfg a132 k132_0 T Heap.nil (IsRet (.bool (same2 eqL post q))) := by
  intro post
  induction post with
  | nil =>
    intro q i hd hq T hT
    have hge := drop_ge hd
    have e : q = [] := by rw [← hq]; exact List.drop_eq_nil_of_le (by omega)
    subst e
    exact goG 60 _  hT  (.no (show (decide ((↑i : Int) < (↑a.length : Int))) = false from decide_eq_false (show ¬ ((↑i : Int) < (↑a.length : Int)) from (by omega))) <| .fin ((ARes.ret (AV.bool true), { boxes := [], toks := [], loops := [] : Heap })) rfl) (by kernel_rfl)
  | cons x post ih =>
    intro q i hd hq T hT
    have hlt := drop_lt hd
    have hnx := drop_next hd
    cases q with
    | nil => have := drop_ge hq; omega
    | cons y q =>
      have hnq := drop_next hq
      exact goG 60 _  hT  (.yes (show (decide ((↑i : Int) < (↑a.length : Int))) = true from decide_eq_true (show (↑i : Int) < (↑a.length : Int) from (by omega))) <| .idx (show idxA (3 : Nat) (AV.sl SK.sh (List.map encL a)) (AV.int IntKind.i64 (↑i : Int)) = some (AV.ref (encL x).cells) from idx_row hd (by rfl)) <| .idx (show idxA (3 : Nat) (AV.sl SK.sh (List.map encL b)) (AV.int IntKind.i64 (↑i : Int)) = some (AV.ref (encL y).cells) from idx_row hq (by rfl)) <| .split ((if true = true then !(x.key == y.key && (x.val == y.val && (x.any == y.any && true))) else x.key == y.key && (x.val == y.val && (x.any == y.any && true))) = true) (fun h1 => .yes (show (if true = true then !(x.key == y.key && (x.val == y.val && (x.any == y.any && true))) else x.key == y.key && (x.val == y.val && (x.any == y.any && true))) = true from h1) <| .fin ((ARes.ret (AV.bool false), { boxes := [], toks := [], loops := [] : Heap })) (by simp only [IsRet]; grind [same2, eqL])) (fun h1 => .no (show (if true = true then !(x.key == y.key && (x.val == y.val && (x.any == y.any && true))) else x.key == y.key && (x.val == y.val && (x.any == y.any && true))) = false from Bool.eq_false_iff.2 (show ¬ ((if true = true then !(x.key == y.key && (x.val == y.val && (x.any == y.any && true))) else x.key == y.key && (x.val == y.val && (x.any == y.any && true))) = true) from h1)) <| .bin (show binA BinOp.add (AV.int IntKind.i64 (↑i : Int)) (AV.int IntKind.i64 (1 : Int)) = some (AV.int IntKind.i64 (↑(i + (1 : Nat)) : Int)) from inc_i (by omega)) <| .cutQ k132_0 [(0, AV.sl SK.sh (List.map encL a)), (1, AV.sl SK.sh (List.map encL b)), (12, AV.int IntKind.i64 (↑a.length : Int)), (13, AV.int IntKind.i64 (↑(i + (1 : Nat)) : Int))] ({ boxes := [], toks := [], loops := [] : Heap }) (fun T hT => (ih (q) (i + (1 : Nat)) hnx hnq T hT).to (by grind [same2, eqL])))) (by kernel_rfl)
theorem sameLp (a b : List Tol) (hn : a.length < 9223372036854775807) : Gives cfg 132 [.sl .sh (a.map encL), .sl .sh (b.map encL)] (.bool (same2 eqL a b)) := by
  refine Gives.run (l132 _ _) ?_
  by_cases he : a.length = b.length
  · have h := sameLp_loop a b hn he a b 0 rfl rfl
    exact goG 60 []  trivial  (.len (show lenA false (AV.sl SK.sh (List.map encL a)) = some (AV.int IntKind.i64 (↑a.length : Int)) from len_map _) <| .len (show lenA false (AV.sl SK.sh (List.map encL b)) = some (AV.int IntKind.i64 (↑b.length : Int)) from len_map _) <| .no (show ((↑a.length : Int) != (↑b.length : Int)) = false from Bool.eq_false_iff.2 (show ¬ (((↑a.length : Int) != (↑b.length : Int)) = true) from (by simp [he]))) <| .len (show lenA false (AV.sl SK.sh (List.map encL a)) = some (AV.int IntKind.i64 (↑a.length : Int)) from len_map _) <| .cutQ k132_0 [(0, AV.sl SK.sh (List.map encL a)), (1, AV.sl SK.sh (List.map encL b)), (12, AV.int IntKind.i64 (↑a.length : Int)), (13, AV.int IntKind.i64 (0 : Int))] ({ boxes := [], toks := [], loops := [] : Heap }) (fun T hT => (h T hT))) (by kernel_rfl)
  · rw [same2_len he]
    exact goG 60 []  trivial  (.len (show lenA false (AV.sl SK.sh (List.map encL a)) = some (AV.int IntKind.i64 (↑a.length : Int)) from len_map _) <| .len (show lenA false (AV.sl SK.sh (List.map encL b)) = some (AV.int IntKind.i64 (↑b.length : Int)) from len_map _) <| .yes (show ((↑a.length : Int) != (↑b.length : Int)) = true from (by simp; omega)) <| .fin ((ARes.ret (AV.bool false), { boxes := [], toks := [], loops := [] : Heap })) rfl) (by kernel_rfl)
theorem sameV (a b : List Amount) (hn : a.length < 9223372036854775807) : Gives cfg 85 [.sl .sh (a.map encA), .sl .sh (b.map encA)] (.bool (same2 eqA a b)) := by
  refine Gives.run (l85 _ _) ?_
  have h := sameVp a b hn
  exact goG 60 []  trivial  (.callG ([AV.sl SK.sh (List.map encA a), AV.sl SK.sh (List.map encA b)]) (AV.bool (same2 eqA a b)) (show Gives cfg (146 : FuncId) [AV.sl SK.sh (List.map encA a), AV.sl SK.sh (List.map encA b)] (AV.bool (same2 eqA a b)) from h) ⟨rfl, rfl⟩ ⟨rfl, rfl⟩ <| .fin ((ARes.ret (AV.bool (same2 eqA a b)), { boxes := [], toks := [], loops := [] : Heap })) rfl) (by kernel_rfl)
end Go.Aa.T

set_option linter.unusedVariables false
set_option linter.unusedSimpArgs false
set_option maxRecDepth 100000
namespace Go.Aa.T
open Go.Aa Go.Proofs
def short1 (x : Amount) : Bool := decide (x.name.length ≤ 50)
def fewA (l : List Amount) : Bool := decide (l.length ≤ 20) && l.all short1
theorem fewA_len {l : List Amount} (h : fewA l = true) : l.length ≤ 20 := by
  simp only [fewA, Bool.and_eq_true, decide_eq_true_eq] at h; exact h.1
theorem fewA_loop (l : List Amount) (hn : l.length ≤ 20) : ∀ (post : List Amount) (i : Nat) (hd : l.drop i = post) (T : Env) (hT : Has T [(0, .sl .sh (l.map encA)), (3, .int .i64 i)]),
    Goes cfg a59 k59_0 T Heap.nil (IsRet (.bool (post.all short1))) := by
  intro post
  induction post with
  | nil =>
    intro i hd T hT
    have hge := drop_ge hd
    exact goG 60 _  hT  (.len (show lenA false (AV.sl SK.sh (List.map encA l)) = some (AV.int IntKind.i64 (↑l.length : Int)) from len_map _) <| .no (show (decide ((↑i : Int) < (↑l.length : Int))) = false from decide_eq_false (show ¬ ((↑i : Int) < (↑l.length : Int)) from (by omega))) <| .fin ((ARes.ret (AV.bool true), { boxes := [], toks := [], loops := [] : Heap })) rfl) (by kernel_rfl)
  | cons x post ih =>
    intro i hd T hT
    have hlt := drop_lt hd
    have hnx := drop_next hd
    exact goG 60 _  hT  (.len (show lenA false (AV.sl SK.sh (List.map encA l)) = some (AV.int IntKind.i64 (↑l.length : Int)) from len_map _) <| .yes (show (decide ((↑i : Int) < (↑l.length : Int))) = true from decide_eq_true (show (↑i : Int) < (↑l.length : Int) from (by omega))) <| .idx (show idxA (2 : Nat) (AV.sl SK.sh (List.map encA l)) (AV.int IntKind.i64 (↑i : Int)) = some (AV.ref (encA x).cells) from idx_row hd (by rfl)) <| .len (show lenA true (AV.str x.name) = some (AV.int IntKind.i64 (↑x.name.length : Int)) from len_str _) <| .split ((50 : Int) < (↑x.name.length : Int)) (fun h1 => .yes (show (decide ((50 : Int) < (↑x.name.length : Int))) = true from decide_eq_true (show (50 : Int) < (↑x.name.length : Int) from h1)) <| .fin ((ARes.ret (AV.bool false), { boxes := [], toks := [], loops := [] : Heap })) (by simp only [IsRet]; grind [short1])) (fun h1 => .no (show (decide ((50 : Int) < (↑x.name.length : Int))) = false from decide_eq_false (show ¬ ((50 : Int) < (↑x.name.length : Int)) from h1)) <| .bin (show binA BinOp.add (AV.int IntKind.i64 (↑i : Int)) (AV.int IntKind.i64 (1 : Int)) = some (AV.int IntKind.i64 (↑(i + (1 : Nat)) : Int)) from inc_i (by omega)) <| .cutQ k59_0 [(0, AV.sl SK.sh (List.map encA l)), (3, AV.int IntKind.i64 (↑(i + (1 : Nat)) : Int))] ({ boxes := [], toks := [], loops := [] : Heap }) (fun T hT => (ih (i + (1 : Nat)) hnx T hT).to (by grind [short1])))) (by kernel_rfl)
theorem fewA_any (l : List Amount) : Gives cfg 59 [.sl .sh (l.map encA)] (.bool (fewA l)) := by
  refine Gives.run (l59 _ _) ?_
  have h := fun hn => fewA_loop l hn l 0 rfl
  exact goG 60 []  trivial  (.len (show lenA false (AV.sl SK.sh (List.map encA l)) = some (AV.int IntKind.i64 (↑l.length : Int)) from len_map _) <| .split ((20 : Int) < (↑l.length : Int)) (fun h1 => .yes (show (decide ((20 : Int) < (↑l.length : Int))) = true from decide_eq_true (show (20 : Int) < (↑l.length : Int) from h1)) <| .fin ((ARes.ret (AV.bool false), { boxes := [], toks := [], loops := [] : Heap })) (by simp only [IsRet]; grind [fewA])) (fun h1 => .no (show (decide ((20 : Int) < (↑l.length : Int))) = false from decide_eq_false (show ¬ ((20 : Int) < (↑l.length : Int)) from h1)) <| .cutQ k59_0 [(0, AV.sl SK.sh (List.map encA l)), (3, AV.int IntKind.i64 (0 : Int))] ({ boxes := [], toks := [], loops := [] : Heap }) (fun T hT => (h (by omega) T hT).to (by grind [fewA])))) (by kernel_rfl)
theorem ofA_loop (l : List Amount) (hn : l.length ≤ 20) : ∀ (post : List Amount) (i : Nat) (acc : List AV) (hd : l.drop i = post) (ha : acc.length = i) (hl : lenOk 2 acc = true) (T : Env) (hT : Has T [(0, .sl .sh (l.map encA)), (3, rowS Heap.nil acc), (4, .int .i64 i)]),
    Goes cfg a73 k73_0 T (rowH Heap.nil acc) (IsRet (rowS Heap.nil (acc ++ post.map encA))) := by
  intro post
  induction post with
  | nil =>
    intro i acc hd ha hl T hT
    have hge := drop_ge hd
    exact goG 60 _  hT  (.len (show lenA false (AV.sl SK.sh (List.map encA l)) = some (AV.int IntKind.i64 (↑l.length : Int)) from len_map _) <| .no (show (decide ((↑i : Int) < (↑l.length : Int))) = false from decide_eq_false (show ¬ ((↑i : Int) < (↑l.length : Int)) from (by omega))) <| .fin ((ARes.ret (setD (setD (setD (setD (setD (setD (updL T [((0 : Nat), AV.sl SK.sh (List.map encA l)), ((3 : Nat), rowS Heap.nil acc), ((4 : Nat), AV.int IntKind.i64 (↑i : Int))]) { dst := some (5 : Nat), op := AOp.mov (Opd.t (4 : Nat)), guard := none, deps := [] : AOper }.dst (ev (updL T [((0 : Nat), AV.sl SK.sh (List.map encA l)), ((3 : Nat), rowS Heap.nil acc), ((4 : Nat), AV.int IntKind.i64 (↑i : Int))]) (Opd.t (4 : Nat)))) { dst := some (6 : Nat), op := AOp.mov (Opd.t (0 : Nat)), guard := none, deps := [] : AOper }.dst (ev (setD (updL T [((0 : Nat), AV.sl SK.sh (List.map encA l)), ((3 : Nat), rowS Heap.nil acc), ((4 : Nat), AV.int IntKind.i64 (↑i : Int))]) { dst := some (5 : Nat), op := AOp.mov (Opd.t (4 : Nat)), guard := none, deps := [] : AOper }.dst (ev (updL T [((0 : Nat), AV.sl SK.sh (List.map encA l)), ((3 : Nat), rowS Heap.nil acc), ((4 : Nat), AV.int IntKind.i64 (↑i : Int))]) (Opd.t (4 : Nat)))) (Opd.t (0 : Nat)))) { dst := some (7 : Nat), op := AOp.len false (Opd.t (6 : Nat)), guard := none, deps := [] : AOper }.dst (AV.int IntKind.i64 (↑l.length : Int))) { dst := some (8 : Nat), op := AOp.bin BinOp.lss (Opd.t (5 : Nat)) (Opd.t (7 : Nat)), guard := none, deps := [] : AOper }.dst (AV.bool (decide ((↑i : Int) < (↑l.length : Int))))) { dst := some (25 : Nat), op := AOp.mov (Opd.t (3 : Nat)), guard := none, deps := [] : AOper }.dst (ev (setD (setD (setD (setD (updL T [((0 : Nat), AV.sl SK.sh (List.map encA l)), ((3 : Nat), rowS Heap.nil acc), ((4 : Nat), AV.int IntKind.i64 (↑i : Int))]) { dst := some (5 : Nat), op := AOp.mov (Opd.t (4 : Nat)), guard := none, deps := [] : AOper }.dst (ev (updL T [((0 : Nat), AV.sl SK.sh (List.map encA l)), ((3 : Nat), rowS Heap.nil acc), ((4 : Nat), AV.int IntKind.i64 (↑i : Int))]) (Opd.t (4 : Nat)))) { dst := some (6 : Nat), op := AOp.mov (Opd.t (0 : Nat)), guard := none, deps := [] : AOper }.dst (ev (setD (updL T [((0 : Nat), AV.sl SK.sh (List.map encA l)), ((3 : Nat), rowS Heap.nil acc), ((4 : Nat), AV.int IntKind.i64 (↑i : Int))]) { dst := some (5 : Nat), op := AOp.mov (Opd.t (4 : Nat)), guard := none, deps := [] : AOper }.dst (ev (updL T [((0 : Nat), AV.sl SK.sh (List.map encA l)), ((3 : Nat), rowS Heap.nil acc), ((4 : Nat), AV.int IntKind.i64 (↑i : Int))]) (Opd.t (4 : Nat)))) (Opd.t (0 : Nat)))) { dst := some (7 : Nat), op := AOp.len false (Opd.t (6 : Nat)), guard := none, deps := [] : AOper }.dst (AV.int IntKind.i64 (↑l.length : Int))) { dst := some (8 : Nat), op := AOp.bin BinOp.lss (Opd.t (5 : Nat)) (Opd.t (7 : Nat)), guard := none, deps := [] : AOper }.dst (AV.bool (decide ((↑i : Int) < (↑l.length : Int))))) (Opd.t (3 : Nat)))) { dst := some (2 : Nat), op := AOp.mov (Opd.t (25 : Nat)), guard := none, deps := [] : AOper }.dst (ev (setD (setD (setD (setD (setD (updL T [((0 : Nat), AV.sl SK.sh (List.map encA l)), ((3 : Nat), rowS Heap.nil acc), ((4 : Nat), AV.int IntKind.i64 (↑i : Int))]) { dst := some (5 : Nat), op := AOp.mov (Opd.t (4 : Nat)), guard := none, deps := [] : AOper }.dst (ev (updL T [((0 : Nat), AV.sl SK.sh (List.map encA l)), ((3 : Nat), rowS Heap.nil acc), ((4 : Nat), AV.int IntKind.i64 (↑i : Int))]) (Opd.t (4 : Nat)))) { dst := some (6 : Nat), op := AOp.mov (Opd.t (0 : Nat)), guard := none, deps := [] : AOper }.dst (ev (setD (updL T [((0 : Nat), AV.sl SK.sh (List.map encA l)), ((3 : Nat), rowS Heap.nil acc), ((4 : Nat), AV.int IntKind.i64 (↑i : Int))]) { dst := some (5 : Nat), op := AOp.mov (Opd.t (4 : Nat)), guard := none, deps := [] : AOper }.dst (ev (updL T [((0 : Nat), AV.sl SK.sh (List.map encA l)), ((3 : Nat), rowS Heap.nil acc), ((4 : Nat), AV.int IntKind.i64 (↑i : Int))]) (Opd.t (4 : Nat)))) (Opd.t (0 : Nat)))) { dst := some (7 : Nat), op := AOp.len false (Opd.t (6 : Nat)), guard := none, deps := [] : AOper }.dst (AV.int IntKind.i64 (↑l.length : Int))) { dst := some (8 : Nat), op := AOp.bin BinOp.lss (Opd.t (5 : Nat)) (Opd.t (7 : Nat)), guard := none, deps := [] : AOper }.dst (AV.bool (decide ((↑i : Int) < (↑l.length : Int))))) { dst := some (25 : Nat), op := AOp.mov (Opd.t (3 : Nat)), guard := none, deps := [] : AOper }.dst (ev (setD (setD (setD (setD (updL T [((0 : Nat), AV.sl SK.sh (List.map encA l)), ((3 : Nat), rowS Heap.nil acc), ((4 : Nat), AV.int IntKind.i64 (↑i : Int))]) { dst := some (5 : Nat), op := AOp.mov (Opd.t (4 : Nat)), guard := none, deps := [] : AOper }.dst (ev (updL T [((0 : Nat), AV.sl SK.sh (List.map encA l)), ((3 : Nat), rowS Heap.nil acc), ((4 : Nat), AV.int IntKind.i64 (↑i : Int))]) (Opd.t (4 : Nat)))) { dst := some (6 : Nat), op := AOp.mov (Opd.t (0 : Nat)), guard := none, deps := [] : AOper }.dst (ev (setD (updL T [((0 : Nat), AV.sl SK.sh (List.map encA l)), ((3 : Nat), rowS Heap.nil acc), ((4 : Nat), AV.int IntKind.i64 (↑i : Int))]) { dst := some (5 : Nat), op := AOp.mov (Opd.t (4 : Nat)), guard := none, deps := [] : AOper }.dst (ev (updL T [((0 : Nat), AV.sl SK.sh (List.map encA l)), ((3 : Nat), rowS Heap.nil acc), ((4 : Nat), AV.int IntKind.i64 (↑i : Int))]) (Opd.t (4 : Nat)))) (Opd.t (0 : Nat)))) { dst := some (7 : Nat), op := AOp.len false (Opd.t (6 : Nat)), guard := none, deps := [] : AOper }.dst (AV.int IntKind.i64 (↑l.length : Int))) { dst := some (8 : Nat), op := AOp.bin BinOp.lss (Opd.t (5 : Nat)) (Opd.t (7 : Nat)), guard := none, deps := [] : AOper }.dst (AV.bool (decide ((↑i : Int) < (↑l.length : Int))))) (Opd.t (3 : Nat)))) (Opd.t (25 : Nat))) (2 : Nat)), rowH Heap.nil acc)) (by simp only [IsRet, List.map_nil, List.append_nil]; rfl)) (by kernel_rfl)
  | cons x post ih =>
    intro i acc hd ha hl T hT
    have hlt := drop_lt hd
    have hnx := drop_next hd
    exact goG 60 _  hT  (.len (show lenA false (AV.sl SK.sh (List.map encA l)) = some (AV.int IntKind.i64 (↑l.length : Int)) from len_map _) <| .yes (show (decide ((↑i : Int) < (↑l.length : Int))) = true from decide_eq_true (show (↑i : Int) < (↑l.length : Int) from (by simp; omega))) <| .idx (show idxA (2 : Nat) (AV.sl SK.sh (List.map encA l)) (AV.int IntKind.i64 (↑i : Int)) = some (AV.ref (encA x).cells) from idx_row hd (by rfl)) <| .load (show loadA false (1 : Nat) (rowH Heap.nil acc) (AV.ref [AV.str x.name]) = some (AV.str x.name) from rfl) <| .idx (show idxA (2 : Nat) (AV.sl SK.sh (List.map encA l)) (AV.int IntKind.i64 (↑i : Int)) = some (AV.ref (encA x).cells) from idx_row hd (by rfl)) <| .load (show loadA false (1 : Nat) (rowH Heap.nil acc) (AV.ref [AV.int IntKind.i64 x.n]) = some (AV.int IntKind.i64 x.n) from rfl) <| .append (show appendA (2 : Nat) (24 : Nat) (rowH Heap.nil acc) (rowS Heap.nil acc) (AV.sl SK.full [AV.agg [AV.str x.name, AV.int IntKind.i64 x.n]]) = some ((rowS Heap.nil (acc ++ [AV.agg [AV.str x.name, AV.int IntKind.i64 x.n]]), rowH Heap.nil (acc ++ [AV.agg [AV.str x.name, AV.int IntKind.i64 x.n]]))) from row_append (by omega) hl (by rfl) (by rfl)) <| .bin (show binA BinOp.add (AV.int IntKind.i64 (↑i : Int)) (AV.int IntKind.i64 (1 : Int)) = some (AV.int IntKind.i64 (↑(i + (1 : Nat)) : Int)) from inc_i (by omega)) <| .cutQ k73_0 [(0, AV.sl SK.sh (List.map encA l)), (3, rowS Heap.nil (acc ++ [AV.agg [AV.str x.name, AV.int IntKind.i64 x.n]])), (4, AV.int IntKind.i64 (↑(i + (1 : Nat)) : Int))] (rowH Heap.nil (acc ++ [AV.agg [AV.str x.name, AV.int IntKind.i64 x.n]])) (fun T hT => (ih (i + (1 : Nat)) (acc ++ [AV.agg [AV.str x.name, AV.int IntKind.i64 x.n]]) hnx (by simp; omega) (by exact lenOk_snoc (by assumption) rfl) T hT).to (by simp [encA]))) (by kernel_rfl)
theorem ofA_any (l : List Amount) (hn : l.length ≤ 20) : Gives cfg 73 [.sl .sh (l.map encA)] (rowS Heap.nil (l.map encA)) := by
  refine Gives.run (l73 _ _) ?_
  have h := ofA_loop l hn l 0 [] rfl rfl rfl
  exact goG 60 []  trivial  (.cutQ k73_0 [(0, AV.sl SK.sh (List.map encA l)), (3, AV.sl SK.full []), (4, AV.int IntKind.i64 (0 : Int))] ({ boxes := [], toks := [], loops := [] : Heap }) (fun T hT => (h T hT))) (by kernel_rfl)

instance (n : Node) : Dat (encN n) := ⟨rfl, rfl⟩
structure FewNd (n : Node) : Prop where
  cap : n.cap.length ≤ 20
  labels : n.labels.length ≤ 20
  taints : n.taints.length ≤ 20

end Go.Aa.T

set_option linter.unusedVariables false
set_option linter.unusedSimpArgs false
set_option maxRecDepth 100000
namespace Go.Aa.T
open Go.Aa Go.Proofs
structure Pod where
  name : List UInt8
  owner : List UInt8
  prio : Int
  need : List Amount
  labels : List Pair
  sel : List Term
  tols : List Tol
  key : List UInt8
  most : Int
  node : List UInt8
  hold : Bool
def encPd (p : Pod) : AV := .agg [.str p.name, .str p.owner, .int .i64 p.prio, .sl .sh (p.need.map encA), .sl .sh (p.labels.map encP), .sl .sh (p.sel.map encM), .sl .sh (p.tols.map encL), .str p.key, .int .i64 p.most, .str p.node, .bool p.hold]
def maybeE (s : List UInt8) : Int := if s = [] then 0 else if isName s then 0 else 3
def withinE (n lo hi : Int) : Int := if n < lo then 1 else if hi < n then 1 else 0
def prioE (p : Pod) : Int := if p.hold then withinE p.prio (-1) (-1) else withinE p.prio 0 1000000
def mostE (p : Pod) : Int := if p.key = [] then withinE p.most 0 0 else withinE p.most 1 128
def ckPd (p : Pod) : Int := firstE [if isName p.name then 0 else 3, maybeE p.owner, prioE p, ckV p.need, ckS p.labels, ckM p.sel, ckL p.tols, maybeE p.key, mostE p, maybeE p.node]
theorem firstE_zero : ∀ {l : List Int}, firstE l = 0 → ∀ x ∈ l, x = 0
  | [], _ => by simp
  | x :: l, h => by
    unfold firstE at h
    split at h
    · intro y hy
      rcases List.mem_cons.1 hy with rfl | hy
      · assumption
      · exact firstE_zero h y hy
    · contradiction
theorem maybe_ok {s : List UInt8} (h : maybeE s = 0) : s = [] ∨ isName s = true := by
  unfold maybeE at h
  split at h
  · left; assumption
  · split at h
    · right; assumption
    · cases h
theorem within_ok {n lo hi : Int} (h : withinE n lo hi = 0) : lo ≤ n ∧ n ≤ hi := by
  unfold withinE at h
  split at h
  · cases h
  · split at h
    · cases h
    · omega
structure PodOk (p : Pod) : Prop where
  name : isName p.name = true
  owner : p.owner = [] ∨ isName p.owner = true
  prio : -1 ≤ p.prio ∧ p.prio ≤ 1000000
  hold : p.hold = decide (p.prio = -1)
  need : ckV p.need = 0
  labels : ckS p.labels = 0
  sel : ckM p.sel = 0
  tols : ckL p.tols = 0
  key : p.key = [] ∨ isName p.key = true
  most : 0 ≤ p.most ∧ p.most ≤ 128 ∧ (p.key = [] ↔ p.most = 0)
  node : p.node = [] ∨ isName p.node = true
theorem podOk {p : Pod} (h : ckPd p = 0) : PodOk p := by
  have hz := firstE_zero h
  simp only [List.mem_cons, List.not_mem_nil, or_false, forall_eq_or_imp, forall_eq] at hz
  obtain ⟨h1, h2, h3, h4, h5, h6, h7, h8, h9, h10⟩ := hz
  have hn : isName p.name = true := by
    revert h1; cases isName p.name <;> simp
  refine ⟨hn, maybe_ok h2, ?_, ?_, h4, h5, h6, h7, maybe_ok h8, ?_, maybe_ok h10⟩
  · unfold prioE at h3
    split at h3
    · have := within_ok h3; omega
    · have := within_ok h3; omega
  · unfold prioE at h3
    split at h3
    · rename_i hh
      have := within_ok h3
      rw [hh]
      exact (decide_eq_true (by omega)).symm
    · rename_i hh
      have := within_ok h3
      rw [Bool.eq_false_iff.2 hh]
      exact (decide_eq_false (by omega)).symm
  · unfold mostE at h9
    split at h9
    · rename_i hk
      have := within_ok h9
      exact ⟨by omega, by omega, fun _ => by omega, fun _ => hk⟩
    · rename_i hk
      have := within_ok h9
      exact ⟨by omega, by omega, fun e => absurd e hk, fun e => by omega⟩

def dashB (s : List UInt8) : List UInt8 := if s = [] then [45] else s
def spreadB (p : Pod) : List UInt8 := if p.key = [] then [45] else p.key ++ [47] ++ itoaF p.most
def endB (b : Bool) : List UInt8 := if b then [104, 111, 108, 100] else [114, 101, 97, 108]
def wordsPd (p : Pod) : List (List UInt8) := [p.name, dashB p.owner, itoaF p.prio, textOf aText p.need, textOf pText p.labels, textOf mText p.sel, textOf lText p.tols, spreadB p, dashB p.node, endB p.hold]
def textPd (p : Pod) : List UInt8 := Lib.join (wordsPd p) [32]
theorem dash_no {s : List UInt8} (h : s = [] ∨ isName s = true) : (32 : UInt8) ∉ dashB s := by
  unfold dashB
  split
  · decide
  · rename_i h0
    exact name_no (h.resolve_left h0) rfl
theorem dash_inj {s t : List UInt8} (h : s = [] ∨ isName s = true) (h' : t = [] ∨ isName t = true) (e : dashB s = dashB t) : s = t := by
  have k : ∀ {u : List UInt8}, u = [] ∨ isName u = true → ¬ u = [] → u ≠ [45] := fun {u} hu h0 e => by
    have h1 := hu.resolve_left h0
    rw [e] at h1
    revert h1; decide
  unfold dashB at e
  split at e <;> split at e
  · rename_i a b; rw [a, b]
  · rename_i a b; exact absurd e.symm (k h' b)
  · rename_i a b; exact absurd e (k h a)
  · exact e
theorem itoa_no {n : Int} (h0 : -1 ≤ n) (h1 : n ≤ 1000000) {c : UInt8} (hc : isDig c = false) (h45 : c ≠ 45) : c ∉ itoaF n := by
  rcases Int.lt_or_le n 0 with h | h
  · have : n = -1 := by omega
    subst this
    have e : itoaF (-1) = [45, 49] := by decide +kernel
    rw [e]
    simp only [List.mem_cons, List.not_mem_nil, or_false, not_or]
    refine ⟨h45, ?_⟩
    rintro rfl
    revert hc; decide
  · obtain ⟨k, rfl⟩ := Int.eq_ofNat_of_zero_le h
    rw [show itoaF (k : Int) = Lib.decDigits k from itoa_nat (by have : (k : Int) ≤ 1000000 := h1; omega)]
    exact dig_no (dec_all k) hc
theorem itoa_inj1 {a b : Int} (ha : -1 ≤ a ∧ a ≤ 1000000) (hb : -1 ≤ b ∧ b ≤ 1000000) (h : itoaF a = itoaF b) : a = b := by
  have key : ∀ {x y : Int}, x < 0 → -1 ≤ x → 0 ≤ y → y ≤ 1000000 → itoaF x ≠ itoaF y := fun {x y} h1 h2 h3 h4 e => by
    have : x = -1 := by omega
    subst this
    have e1 : itoaF (-1) = [45, 49] := by decide +kernel
    obtain ⟨k, rfl⟩ := Int.eq_ofNat_of_zero_le h3
    have e2 : itoaF (k : Int) = Lib.decDigits k := itoa_nat (by have : (k : Int) ≤ 1000000 := h4; omega)
    rw [e1, e2] at e
    have h5 := dig_no (dec_all k) (c := 45) rfl
    rw [← e] at h5
    exact h5 (by simp)
  rcases Int.lt_or_le a 0 with h1 | h1 <;> rcases Int.lt_or_le b 0 with h2 | h2
  · omega
  · exact absurd h (key h1 ha.1 h2 hb.2)
  · exact absurd h.symm (key h2 hb.1 h1 ha.2)
  · exact itoa_inj h1 h2 (by omega) (by omega) h
theorem spread_no {p : Pod} (h : PodOk p) : (32 : UInt8) ∉ spreadB p := by
  unfold spreadB
  split
  · decide
  · rename_i h0
    exact pair_no (name_no (h.key.resolve_left h0) rfl) (by decide) (itoa_no (by have := h.most; omega) (by have := h.most; omega) rfl (by decide))
theorem spread_inj {p q : Pod} (h : PodOk p) (h' : PodOk q) (e : spreadB p = spreadB q) : p.key = q.key ∧ p.most = q.most := by
  have m47 : (47 : UInt8) ∉ ([45] : List UInt8) := by decide
  unfold spreadB at e
  split at e <;> split at e
  · rename_i a b
    exact ⟨by rw [a, b], by rw [h.most.2.2.1 a, h'.most.2.2.1 b]⟩
  · exact absurd (e ▸ m47) (by simp)
  · exact absurd (e.symm ▸ m47) (by simp)
  · rename_i a b
    have k1 := name_no (h.key.resolve_left a) (c := 47) rfl
    have k2 := name_no (h'.key.resolve_left b) (c := 47) rfl
    have c1 : cutAt 47 (p.key ++ [47] ++ itoaF p.most) = some (p.key, itoaF p.most) := by simpa using cutAt_hit (b := itoaF p.most) k1
    have c2 : cutAt 47 (q.key ++ [47] ++ itoaF q.most) = some (q.key, itoaF q.most) := by simpa using cutAt_hit (b := itoaF q.most) k2
    rw [e, c2] at c1
    simp only [Option.some.injEq, Prod.mk.injEq] at c1
    have hp := h.most
    have hq := h'.most
    exact ⟨c1.1.symm, itoa_inj (by omega) (by omega) (by omega) (by omega) c1.2.symm⟩
theorem end_inj {a b : Bool} (h : endB a = endB b) : a = b := by
  cases a <;> cases b <;> first | rfl | (exact absurd h (by decide))
theorem words_no {p : Pod} (h : PodOk p) (hs : smallA p.need) : ∀ w ∈ wordsPd p, (32 : UInt8) ∉ w := by
  intro w hw
  simp only [wordsPd, List.mem_cons, List.not_mem_nil, or_false] at hw
  rcases hw with rfl | rfl | rfl | rfl | rfl | rfl | rfl | rfl | rfl | rfl
  · exact name_no h.name rfl
  · exact dash_no h.owner
  · exact itoa_no h.prio.1 h.prio.2 rfl (by decide)
  · exact aText_32 h.need hs
  · exact pText_32 h.labels
  · exact mText_32 h.sel
  · exact lText_32 h.tols
  · exact spread_no h
  · exact dash_no h.node
  · cases p.hold <;> decide
theorem text_inj {p q : Pod} (hp : ckPd p = 0) (hq : ckPd q = 0) (sp : smallA p.need) (sq : smallA q.need) (h : textPd p = textPd q) : p = q := by
  have op := podOk hp
  have oq := podOk hq
  have e := join_inj 32 (words_no op sp) (words_no oq sq) h
  simp only [List.cons.injEq, and_true] at e
  obtain ⟨e1, e2, e3, e4, e5, e6, e7, e8, e9, e10⟩ := e
  have f2 := dash_inj op.owner oq.owner e2
  have f3 := itoa_inj1 op.prio oq.prio e3
  have f4 := aText_inj op.need oq.need sp sq e4
  have f5 := pText_inj op.labels oq.labels e5
  have f6 := mText_inj op.sel oq.sel e6
  have f7 := lText_inj op.tols oq.tols e7
  obtain ⟨f8, f8'⟩ := spread_inj op oq e8
  have f9 := dash_inj op.node oq.node e9
  have f10 := end_inj e10
  cases p; cases q
  simp only at e1 f2 f3 f4 f5 f6 f7 f8 f8' f9 f10
  subst e1 f2 f3 f4 f5 f6 f7 f8 f8' f9 f10
  rfl
end Go.Aa.T

set_option linter.unusedVariables false
set_option linter.unusedSimpArgs false
set_option maxRecDepth 100000
namespace Go.Aa.T
open Go.Aa Go.Proofs
instance (n : Pod) : Dat (encPd n) := ⟨rfl, rfl⟩
def fewPd (p : Pod) : Bool := decide (p.name.length ≤ 50) && (decide (p.owner.length ≤ 50) && (decide (p.key.length ≤ 50) && (decide (p.node.length ≤ 50) && (fewA p.need && (fewP p.labels && (fewM p.sel && fewL p.tols))))))
theorem fewPd_any (p : Pod) : Gives cfg 15 [encPd p] (.bool (fewPd p)) := by
  refine Gives.run (l15 _ _) ?_
  exact goG 120 []  trivial  (.len (show lenA true (AV.str p.name) = some (AV.int IntKind.i64 (↑p.name.length : Int)) from len_str _) <| .split ((↑p.name.length : Int) ≤ (50 : Int)) (fun h1 => .yes (show (decide ((↑p.name.length : Int) ≤ (50 : Int))) = true from decide_eq_true (show (↑p.name.length : Int) ≤ (50 : Int) from h1)) <| .len (show lenA true (AV.str p.owner) = some (AV.int IntKind.i64 (↑p.owner.length : Int)) from len_str _) <| .split ((↑p.owner.length : Int) ≤ (50 : Int)) (fun h2 => .yes (show (decide ((↑p.owner.length : Int) ≤ (50 : Int))) = true from decide_eq_true (show (↑p.owner.length : Int) ≤ (50 : Int) from h2)) <| .len (show lenA true (AV.str p.key) = some (AV.int IntKind.i64 (↑p.key.length : Int)) from len_str _) <| .split ((↑p.key.length : Int) ≤ (50 : Int)) (fun h3 => .yes (show (decide ((↑p.key.length : Int) ≤ (50 : Int))) = true from decide_eq_true (show (↑p.key.length : Int) ≤ (50 : Int) from h3)) <| .len (show lenA true (AV.str p.node) = some (AV.int IntKind.i64 (↑p.node.length : Int)) from len_str _) <| .split ((↑p.node.length : Int) ≤ (50 : Int)) (fun h4 => .yes (show (decide ((↑p.node.length : Int) ≤ (50 : Int))) = true from decide_eq_true (show (↑p.node.length : Int) ≤ (50 : Int) from h4)) <| .callG ([AV.sl SK.sh (List.map encA p.need)]) (AV.bool (fewA p.need)) (show Gives cfg (59 : FuncId) [AV.sl SK.sh (List.map encA p.need)] (AV.bool (fewA p.need)) from fewA_any _) ⟨rfl, rfl⟩ ⟨rfl, rfl⟩ <| .split (fewA p.need = true) (fun h5 => .yes (show (fewA p.need) = true from h5) <| .callG ([AV.sl SK.sh (List.map encP p.labels)]) (AV.bool (fewP p.labels)) (show Gives cfg (60 : FuncId) [AV.sl SK.sh (List.map encP p.labels)] (AV.bool (fewP p.labels)) from fewP_any _) ⟨rfl, rfl⟩ ⟨rfl, rfl⟩ <| .split (fewP p.labels = true) (fun h6 => .yes (show (fewP p.labels) = true from h6) <| .callG ([AV.sl SK.sh (List.map encM p.sel)]) (AV.bool (fewM p.sel)) (show Gives cfg (58 : FuncId) [AV.sl SK.sh (List.map encM p.sel)] (AV.bool (fewM p.sel)) from fewM_any _) ⟨rfl, rfl⟩ ⟨rfl, rfl⟩ <| .split (fewM p.sel = true) (fun h7 => .yes (show (fewM p.sel) = true from h7) <| .callG ([AV.sl SK.sh (List.map encL p.tols)]) (AV.bool (fewL p.tols)) (show Gives cfg (61 : FuncId) [AV.sl SK.sh (List.map encL p.tols)] (AV.bool (fewL p.tols)) from fewL_any _) ⟨rfl, rfl⟩ ⟨rfl, rfl⟩ <| .fin ((ARes.ret (AV.bool (fewL p.tols)), { boxes := [[AV.str p.name, AV.str p.owner, AV.int IntKind.i64 p.prio, AV.sl SK.sh (List.map encA p.need), AV.sl SK.sh (List.map encP p.labels), AV.sl SK.sh (List.map encM p.sel), AV.sl SK.sh (List.map encL p.tols), AV.str p.key, AV.int IntKind.i64 p.most, AV.str p.node, AV.bool p.hold]], toks := [], loops := [] : Heap })) (by simp only [IsRet]; grind [fewPd])) (fun h7 => .no (show (fewM p.sel) = false from Bool.eq_false_iff.2 (show ¬ (fewM p.sel = true) from h7)) <| .fin ((ARes.ret (AV.bool false), { boxes := [[AV.str p.name, AV.str p.owner, AV.int IntKind.i64 p.prio, AV.sl SK.sh (List.map encA p.need), AV.sl SK.sh (List.map encP p.labels), AV.sl SK.sh (List.map encM p.sel), AV.sl SK.sh (List.map encL p.tols), AV.str p.key, AV.int IntKind.i64 p.most, AV.str p.node, AV.bool p.hold]], toks := [], loops := [] : Heap })) (by simp only [IsRet]; grind [fewPd]))) (fun h6 => .no (show (fewP p.labels) = false from Bool.eq_false_iff.2 (show ¬ (fewP p.labels = true) from h6)) <| .ff <| .fin ((ARes.ret (AV.bool false), { boxes := [[AV.str p.name, AV.str p.owner, AV.int IntKind.i64 p.prio, AV.sl SK.sh (List.map encA p.need), AV.sl SK.sh (List.map encP p.labels), AV.sl SK.sh (List.map encM p.sel), AV.sl SK.sh (List.map encL p.tols), AV.str p.key, AV.int IntKind.i64 p.most, AV.str p.node, AV.bool p.hold]], toks := [], loops := [] : Heap })) (by simp only [IsRet]; grind [fewPd]))) (fun h5 => .no (show (fewA p.need) = false from Bool.eq_false_iff.2 (show ¬ (fewA p.need = true) from h5)) <| .ff <| .ff <| .fin ((ARes.ret (AV.bool false), { boxes := [[AV.str p.name, AV.str p.owner, AV.int IntKind.i64 p.prio, AV.sl SK.sh (List.map encA p.need), AV.sl SK.sh (List.map encP p.labels), AV.sl SK.sh (List.map encM p.sel), AV.sl SK.sh (List.map encL p.tols), AV.str p.key, AV.int IntKind.i64 p.most, AV.str p.node, AV.bool p.hold]], toks := [], loops := [] : Heap })) (by simp only [IsRet]; grind [fewPd]))) (fun h4 => .no (show (decide ((↑p.node.length : Int) ≤ (50 : Int))) = false from decide_eq_false (show ¬ ((↑p.node.length : Int) ≤ (50 : Int)) from h4)) <| .ff <| .ff <| .ff <| .fin ((ARes.ret (AV.bool false), { boxes := [[AV.str p.name, AV.str p.owner, AV.int IntKind.i64 p.prio, AV.sl SK.sh (List.map encA p.need), AV.sl SK.sh (List.map encP p.labels), AV.sl SK.sh (List.map encM p.sel), AV.sl SK.sh (List.map encL p.tols), AV.str p.key, AV.int IntKind.i64 p.most, AV.str p.node, AV.bool p.hold]], toks := [], loops := [] : Heap })) (by simp only [IsRet]; grind [fewPd]))) (fun h3 => .no (show (decide ((↑p.key.length : Int) ≤ (50 : Int))) = false from decide_eq_false (show ¬ ((↑p.key.length : Int) ≤ (50 : Int)) from h3)) <| .ff <| .ff <| .ff <| .ff <| .fin ((ARes.ret (AV.bool false), { boxes := [[AV.str p.name, AV.str p.owner, AV.int IntKind.i64 p.prio, AV.sl SK.sh (List.map encA p.need), AV.sl SK.sh (List.map encP p.labels), AV.sl SK.sh (List.map encM p.sel), AV.sl SK.sh (List.map encL p.tols), AV.str p.key, AV.int IntKind.i64 p.most, AV.str p.node, AV.bool p.hold]], toks := [], loops := [] : Heap })) (by simp only [IsRet]; grind [fewPd]))) (fun h2 => .no (show (decide ((↑p.owner.length : Int) ≤ (50 : Int))) = false from decide_eq_false (show ¬ ((↑p.owner.length : Int) ≤ (50 : Int)) from h2)) <| .ff <| .ff <| .ff <| .ff <| .ff <| .fin ((ARes.ret (AV.bool false), { boxes := [[AV.str p.name, AV.str p.owner, AV.int IntKind.i64 p.prio, AV.sl SK.sh (List.map encA p.need), AV.sl SK.sh (List.map encP p.labels), AV.sl SK.sh (List.map encM p.sel), AV.sl SK.sh (List.map encL p.tols), AV.str p.key, AV.int IntKind.i64 p.most, AV.str p.node, AV.bool p.hold]], toks := [], loops := [] : Heap })) (by simp only [IsRet]; grind [fewPd]))) (fun h1 => .no (show (decide ((↑p.name.length : Int) ≤ (50 : Int))) = false from decide_eq_false (show ¬ ((↑p.name.length : Int) ≤ (50 : Int)) from h1)) <| .ff <| .ff <| .ff <| .ff <| .ff <| .ff <| .fin ((ARes.ret (AV.bool false), { boxes := [[AV.str p.name, AV.str p.owner, AV.int IntKind.i64 p.prio, AV.sl SK.sh (List.map encA p.need), AV.sl SK.sh (List.map encP p.labels), AV.sl SK.sh (List.map encM p.sel), AV.sl SK.sh (List.map encL p.tols), AV.str p.key, AV.int IntKind.i64 p.most, AV.str p.node, AV.bool p.hold]], toks := [], loops := [] : Heap })) (by simp only [IsRet]; grind [fewPd]))) (by kernel_rfl)
structure FewPod (p : Pod) : Prop where
  name : p.name.length ≤ 50
  owner : p.owner.length ≤ 50
  key : p.key.length ≤ 50
  node : p.node.length ≤ 50
  need : p.need.length ≤ 20
  labels : p.labels.length ≤ 20
  sel : p.sel.length ≤ 20
  tols : p.tols.length ≤ 20
  fneed : fewA p.need = true
  flabels : fewP p.labels = true
  fsel : fewM p.sel = true
  ftols : fewL p.tols = true
theorem fewPod {p : Pod} (h : fewPd p = true) : FewPod p := by
  simp only [fewPd, Bool.and_eq_true, decide_eq_true_eq] at h
  obtain ⟨h1, h2, h3, h4, h5, h6, h7, h8⟩ := h
  exact ⟨h1, h2, h3, h4, fewA_len h5, fewP_len h6, fewM_len h7, fewL_len h8, h5, h6, h7, h8⟩
theorem ofPd1 (p : Pod) (m1 : p.need.length ≤ 20) (m2 : p.labels.length ≤ 20) (m3 : p.sel.length ≤ 20) (m4 : p.tols.length ≤ 20) : Gives cfg 51 [encPd p] (encPd p) := by
  refine Gives.run (l51 _ _) ?_
  exact goG 120 []  trivial  (.callG ([AV.sl SK.sh (List.map encA p.need)]) (AV.sl SK.sh (List.map encA p.need)) (show Gives cfg (73 : FuncId) [AV.sl SK.sh (List.map encA p.need)] (rowS Heap.nil (List.map encA p.need)) from ofA_any _ m1) ⟨rfl, rfl⟩ Res.p <| .callG ([AV.sl SK.sh (List.map encP p.labels)]) (AV.sl SK.sh (List.map encP p.labels)) (show Gives cfg (74 : FuncId) [AV.sl SK.sh (List.map encP p.labels)] (rowS Heap.nil (List.map encP p.labels)) from ofP_any _ m2) ⟨rfl, rfl⟩ Res.p <| .callG ([AV.sl SK.sh (List.map encM p.sel)]) (AV.sl SK.sh (List.map encM p.sel)) (show Gives cfg (120 : FuncId) [AV.sl SK.sh (List.map encM p.sel)] (rowS Heap.nil (List.map encM p.sel)) from ofM_any _ m3) ⟨rfl, rfl⟩ Res.p <| .callG ([AV.sl SK.sh (List.map encL p.tols)]) (AV.sl SK.sh (List.map encL p.tols)) (show Gives cfg (121 : FuncId) [AV.sl SK.sh (List.map encL p.tols)] (rowS Heap.nil (List.map encL p.tols)) from ofL_any _ m4) ⟨rfl, rfl⟩ Res.p <| .fin ((ARes.ret (AV.agg [AV.str p.name, AV.str p.owner, AV.int IntKind.i64 p.prio, AV.sl SK.sh (List.map encA p.need), AV.sl SK.sh (List.map encP p.labels), AV.sl SK.sh (List.map encM p.sel), AV.sl SK.sh (List.map encL p.tols), AV.str p.key, AV.int IntKind.i64 p.most, AV.str p.node, AV.bool p.hold]), { boxes := [[AV.str p.name, AV.str p.owner, AV.int IntKind.i64 p.prio, AV.sl SK.sh (List.map encA p.need), AV.sl SK.sh (List.map encP p.labels), AV.sl SK.sh (List.map encM p.sel), AV.sl SK.sh (List.map encL p.tols), AV.str p.key, AV.int IntKind.i64 p.most, AV.str p.node, AV.bool p.hold], [AV.str p.name, AV.str p.owner, AV.int IntKind.i64 p.prio, AV.sl SK.sh (List.map encA p.need), AV.sl SK.sh (List.map encP p.labels), AV.sl SK.sh (List.map encM p.sel), AV.sl SK.sh (List.map encL p.tols), AV.str p.key, AV.int IntKind.i64 p.most, AV.str p.node, AV.bool p.hold]], toks := [], loops := [] : Heap })) rfl) (by kernel_rfl)
theorem ofPd_any (p : Pod) (h : fewPd p = true) : Gives cfg 51 [encPd p] (encPd p) := ofPd1 p (fewPod h).need (fewPod h).labels (fewPod h).sel (fewPod h).tols
theorem ckPd_ref (p : Pod) : Gives cfg 53 [encPd p] (.int .i64 (ckPd p)) := by
  refine Gives.run (l53 _ _) ?_
  have e : ckPd p = firstE [if isName p.name then 0 else 3, maybeE p.owner, prioE p, ckV p.need, ckS p.labels, ckM p.sel, ckL p.tols, maybeE p.key, mostE p, maybeE p.node] := rfl
  have q1 : prioE p = if p.prio < -1 then 1 else if 1000000 < p.prio then 1 else if p.hold == (p.prio == -1) then 0 else 1 := by
    unfold prioE withinE
    cases p.hold <;> grind
  have q2 : mostE p = if p.key = [] then (if p.most = 0 then 0 else 1) else (if p.most < 1 then 1 else if 128 < p.most then 1 else 0) := by
    unfold mostE withinE
    grind
  rw [e, q1, q2]
  clear e q1 q2
  have a1 := ckV_ref p.need
  have a2 := ckS_ref p.labels
  have a3 := ckM_ref p.sel
  have a4 := ckL_any p.tols
  generalize ckV p.need = c1 at a1 ⊢
  generalize ckS p.labels = c2 at a2 ⊢
  generalize ckM p.sel = c3 at a3 ⊢
  generalize ckL p.tols = c4 at a4 ⊢
  exact goG 160 []  trivial  (.callG ([AV.str p.name]) (AV.bool (isName p.name)) (show Gives cfg (76 : FuncId) [AV.str p.name] (AV.bool (isName p.name)) from name_any _) ⟨rfl, rfl⟩ ⟨rfl, rfl⟩ <| .split (isName p.name = true) (fun h1 => .no (show (!isName p.name) = false from by have hh : isName p.name = true := h1; simp [hh]) <| .split ((p.owner == []) = true) (fun h2 => .no (show (!p.owner == []) = false from by have hh : (p.owner == []) = true := h2; simp [hh]) <| .ff <| .split (p.prio < (-1 : Int)) (fun h3 => .yes (show (decide (p.prio < (-1 : Int))) = true from decide_eq_true (show p.prio < (-1 : Int) from h3)) <| .tt <| .tt <| .fin ((ARes.ret (AV.int IntKind.i64 (1 : Int)), { boxes := [[AV.str p.name, AV.str p.owner, AV.int IntKind.i64 p.prio, AV.sl SK.sh (List.map encA p.need), AV.sl SK.sh (List.map encP p.labels), AV.sl SK.sh (List.map encM p.sel), AV.sl SK.sh (List.map encL p.tols), AV.str p.key, AV.int IntKind.i64 p.most, AV.str p.node, AV.bool p.hold]], toks := [], loops := [] : Heap })) (by simp only [IsRet]; grind [firstE, maybeE])) (fun h3 => .no (show (decide (p.prio < (-1 : Int))) = false from decide_eq_false (show ¬ (p.prio < (-1 : Int)) from h3)) <| .split ((1000000 : Int) < p.prio) (fun h4 => .yes (show (decide ((1000000 : Int) < p.prio)) = true from decide_eq_true (show (1000000 : Int) < p.prio from h4)) <| .tt <| .fin ((ARes.ret (AV.int IntKind.i64 (1 : Int)), { boxes := [[AV.str p.name, AV.str p.owner, AV.int IntKind.i64 p.prio, AV.sl SK.sh (List.map encA p.need), AV.sl SK.sh (List.map encP p.labels), AV.sl SK.sh (List.map encM p.sel), AV.sl SK.sh (List.map encL p.tols), AV.str p.key, AV.int IntKind.i64 p.most, AV.str p.node, AV.bool p.hold]], toks := [], loops := [] : Heap })) (by simp only [IsRet]; grind [firstE, maybeE])) (fun h4 => .no (show (decide ((1000000 : Int) < p.prio)) = false from decide_eq_false (show ¬ ((1000000 : Int) < p.prio) from h4)) <| .split ((if true = true then !p.hold == (p.prio == (-1 : Int)) else p.hold == (p.prio == (-1 : Int))) = true) (fun h5 => .yes (show (if true = true then !p.hold == (p.prio == (-1 : Int)) else p.hold == (p.prio == (-1 : Int))) = true from h5) <| .fin ((ARes.ret (AV.int IntKind.i64 (1 : Int)), { boxes := [[AV.str p.name, AV.str p.owner, AV.int IntKind.i64 p.prio, AV.sl SK.sh (List.map encA p.need), AV.sl SK.sh (List.map encP p.labels), AV.sl SK.sh (List.map encM p.sel), AV.sl SK.sh (List.map encL p.tols), AV.str p.key, AV.int IntKind.i64 p.most, AV.str p.node, AV.bool p.hold]], toks := [], loops := [] : Heap })) (by simp only [IsRet]; grind [firstE, maybeE])) (fun h5 => .no (show (if true = true then !p.hold == (p.prio == (-1 : Int)) else p.hold == (p.prio == (-1 : Int))) = false from Bool.eq_false_iff.2 (show ¬ ((if true = true then !p.hold == (p.prio == (-1 : Int)) else p.hold == (p.prio == (-1 : Int))) = true) from h5)) <| .callG ([AV.sl SK.sh (List.map encA p.need)]) (AV.int IntKind.i64 c1) (show Gives cfg (77 : FuncId) [AV.sl SK.sh (List.map encA p.need)] (AV.int IntKind.i64 c1) from a1) ⟨rfl, rfl⟩ ⟨rfl, rfl⟩ <| .split ((c1 != (0 : Int)) = true) (fun h6 => .yes (show (c1 != (0 : Int)) = true from h6) <| .fin ((ARes.ret (AV.int IntKind.i64 c1), { boxes := [[AV.str p.name, AV.str p.owner, AV.int IntKind.i64 p.prio, AV.sl SK.sh (List.map encA p.need), AV.sl SK.sh (List.map encP p.labels), AV.sl SK.sh (List.map encM p.sel), AV.sl SK.sh (List.map encL p.tols), AV.str p.key, AV.int IntKind.i64 p.most, AV.str p.node, AV.bool p.hold]], toks := [], loops := [] : Heap })) (by simp only [IsRet]; grind [firstE, maybeE])) (fun h6 => .no (show (c1 != (0 : Int)) = false from Bool.eq_false_iff.2 (show ¬ ((c1 != (0 : Int)) = true) from h6)) <| .callG ([AV.sl SK.sh (List.map encP p.labels)]) (AV.int IntKind.i64 c2) (show Gives cfg (78 : FuncId) [AV.sl SK.sh (List.map encP p.labels)] (AV.int IntKind.i64 c2) from a2) ⟨rfl, rfl⟩ ⟨rfl, rfl⟩ <| .split ((c2 != (0 : Int)) = true) (fun h7 => .yes (show (c2 != (0 : Int)) = true from h7) <| .fin ((ARes.ret (AV.int IntKind.i64 c2), { boxes := [[AV.str p.name, AV.str p.owner, AV.int IntKind.i64 p.prio, AV.sl SK.sh (List.map encA p.need), AV.sl SK.sh (List.map encP p.labels), AV.sl SK.sh (List.map encM p.sel), AV.sl SK.sh (List.map encL p.tols), AV.str p.key, AV.int IntKind.i64 p.most, AV.str p.node, AV.bool p.hold]], toks := [], loops := [] : Heap })) (by simp only [IsRet]; grind [firstE, maybeE])) (fun h7 => .no (show (c2 != (0 : Int)) = false from Bool.eq_false_iff.2 (show ¬ ((c2 != (0 : Int)) = true) from h7)) <| .callG ([AV.sl SK.sh (List.map encM p.sel)]) (AV.int IntKind.i64 c3) (show Gives cfg (127 : FuncId) [AV.sl SK.sh (List.map encM p.sel)] (AV.int IntKind.i64 c3) from a3) ⟨rfl, rfl⟩ ⟨rfl, rfl⟩ <| .split ((c3 != (0 : Int)) = true) (fun h8 => .yes (show (c3 != (0 : Int)) = true from h8) <| .fin ((ARes.ret (AV.int IntKind.i64 c3), { boxes := [[AV.str p.name, AV.str p.owner, AV.int IntKind.i64 p.prio, AV.sl SK.sh (List.map encA p.need), AV.sl SK.sh (List.map encP p.labels), AV.sl SK.sh (List.map encM p.sel), AV.sl SK.sh (List.map encL p.tols), AV.str p.key, AV.int IntKind.i64 p.most, AV.str p.node, AV.bool p.hold]], toks := [], loops := [] : Heap })) (by simp only [IsRet]; grind [firstE, maybeE])) (fun h8 => .no (show (c3 != (0 : Int)) = false from Bool.eq_false_iff.2 (show ¬ ((c3 != (0 : Int)) = true) from h8)) <| .callG ([AV.sl SK.sh (List.map encL p.tols)]) (AV.int IntKind.i64 c4) (show Gives cfg (128 : FuncId) [AV.sl SK.sh (List.map encL p.tols)] (AV.int IntKind.i64 c4) from a4) ⟨rfl, rfl⟩ ⟨rfl, rfl⟩ <| .split ((c4 != (0 : Int)) = true) (fun h9 => .yes (show (c4 != (0 : Int)) = true from h9) <| .fin ((ARes.ret (AV.int IntKind.i64 c4), { boxes := [[AV.str p.name, AV.str p.owner, AV.int IntKind.i64 p.prio, AV.sl SK.sh (List.map encA p.need), AV.sl SK.sh (List.map encP p.labels), AV.sl SK.sh (List.map encM p.sel), AV.sl SK.sh (List.map encL p.tols), AV.str p.key, AV.int IntKind.i64 p.most, AV.str p.node, AV.bool p.hold]], toks := [], loops := [] : Heap })) (by simp only [IsRet]; grind [firstE, maybeE])) (fun h9 => .no (show (c4 != (0 : Int)) = false from Bool.eq_false_iff.2 (show ¬ ((c4 != (0 : Int)) = true) from h9)) <| .split ((p.key == []) = true) (fun h10 => .no (show (!p.key == []) = false from by have hh : (p.key == []) = true := h10; simp [hh]) <| .ff <| .no (show (!p.key == []) = false from by have hh : (p.key == []) = true := (by omega); simp [hh]) <| .ff <| .yes (show (p.key == []) = true from (by omega)) <| .split ((p.most != (0 : Int)) = true) (fun h11 => .yes (show (p.most != (0 : Int)) = true from h11) <| .fin ((ARes.ret (AV.int IntKind.i64 (1 : Int)), { boxes := [[AV.str p.name, AV.str p.owner, AV.int IntKind.i64 p.prio, AV.sl SK.sh (List.map encA p.need), AV.sl SK.sh (List.map encP p.labels), AV.sl SK.sh (List.map encM p.sel), AV.sl SK.sh (List.map encL p.tols), AV.str p.key, AV.int IntKind.i64 p.most, AV.str p.node, AV.bool p.hold]], toks := [], loops := [] : Heap })) (by simp_all [IsRet, firstE, maybeE]; omega)) (fun h11 => .no (show (p.most != (0 : Int)) = false from Bool.eq_false_iff.2 (show ¬ ((p.most != (0 : Int)) = true) from h11)) <| .split ((p.node == []) = true) (fun h12 => .no (show (!p.node == []) = false from by have hh : (p.node == []) = true := h12; simp [hh]) <| .ff <| .fin ((ARes.ret (AV.int IntKind.i64 (0 : Int)), { boxes := [[AV.str p.name, AV.str p.owner, AV.int IntKind.i64 p.prio, AV.sl SK.sh (List.map encA p.need), AV.sl SK.sh (List.map encP p.labels), AV.sl SK.sh (List.map encM p.sel), AV.sl SK.sh (List.map encL p.tols), AV.str p.key, AV.int IntKind.i64 p.most, AV.str p.node, AV.bool p.hold]], toks := [], loops := [] : Heap })) (by simp_all [IsRet, firstE, maybeE]; omega)) (fun h12 => .yes (show (!p.node == []) = true from by have hh : ¬ ((p.node == []) = true) := h12; simp [hh]) <| .callG ([AV.str p.node]) (AV.bool (isName p.node)) (show Gives cfg (76 : FuncId) [AV.str p.node] (AV.bool (isName p.node)) from name_any _) ⟨rfl, rfl⟩ ⟨rfl, rfl⟩ <| .split (isName p.node = true) (fun h13 => .no (show (!isName p.node) = false from by have hh : isName p.node = true := h13; simp [hh]) <| .fin ((ARes.ret (AV.int IntKind.i64 (0 : Int)), { boxes := [[AV.str p.name, AV.str p.owner, AV.int IntKind.i64 p.prio, AV.sl SK.sh (List.map encA p.need), AV.sl SK.sh (List.map encP p.labels), AV.sl SK.sh (List.map encM p.sel), AV.sl SK.sh (List.map encL p.tols), AV.str p.key, AV.int IntKind.i64 p.most, AV.str p.node, AV.bool p.hold]], toks := [], loops := [] : Heap })) (by simp_all [IsRet, firstE, maybeE]; omega)) (fun h13 => .yes (show (!isName p.node) = true from by have hh : ¬ (isName p.node = true) := h13; simp [hh]) <| .fin ((ARes.ret (AV.int IntKind.i64 (3 : Int)), { boxes := [[AV.str p.name, AV.str p.owner, AV.int IntKind.i64 p.prio, AV.sl SK.sh (List.map encA p.need), AV.sl SK.sh (List.map encP p.labels), AV.sl SK.sh (List.map encM p.sel), AV.sl SK.sh (List.map encL p.tols), AV.str p.key, AV.int IntKind.i64 p.most, AV.str p.node, AV.bool p.hold]], toks := [], loops := [] : Heap })) (by simp_all [IsRet, firstE, maybeE]; omega))))) (fun h10 => .yes (show (!p.key == []) = true from by have hh : ¬ ((p.key == []) = true) := h10; simp [hh]) <| .callG ([AV.str p.key]) (AV.bool (isName p.key)) (show Gives cfg (76 : FuncId) [AV.str p.key] (AV.bool (isName p.key)) from name_any _) ⟨rfl, rfl⟩ ⟨rfl, rfl⟩ <| .split (isName p.key = true) (fun h11 => .no (show (!isName p.key) = false from by have hh : isName p.key = true := h11; simp [hh]) <| .yes (show (!p.key == []) = true from by have hh : ¬ ((p.key == []) = true) := (by omega); simp [hh]) <| .split (p.most < (1 : Int)) (fun h12 => .yes (show (decide (p.most < (1 : Int))) = true from decide_eq_true (show p.most < (1 : Int) from h12)) <| .tt <| .tt <| .fin ((ARes.ret (AV.int IntKind.i64 (1 : Int)), { boxes := [[AV.str p.name, AV.str p.owner, AV.int IntKind.i64 p.prio, AV.sl SK.sh (List.map encA p.need), AV.sl SK.sh (List.map encP p.labels), AV.sl SK.sh (List.map encM p.sel), AV.sl SK.sh (List.map encL p.tols), AV.str p.key, AV.int IntKind.i64 p.most, AV.str p.node, AV.bool p.hold]], toks := [], loops := [] : Heap })) (by simp_all [IsRet, firstE, maybeE]; omega)) (fun h12 => .no (show (decide (p.most < (1 : Int))) = false from decide_eq_false (show ¬ (p.most < (1 : Int)) from h12)) <| .split ((128 : Int) < p.most) (fun h13 => .yes (show (decide ((128 : Int) < p.most)) = true from decide_eq_true (show (128 : Int) < p.most from h13)) <| .tt <| .fin ((ARes.ret (AV.int IntKind.i64 (1 : Int)), { boxes := [[AV.str p.name, AV.str p.owner, AV.int IntKind.i64 p.prio, AV.sl SK.sh (List.map encA p.need), AV.sl SK.sh (List.map encP p.labels), AV.sl SK.sh (List.map encM p.sel), AV.sl SK.sh (List.map encL p.tols), AV.str p.key, AV.int IntKind.i64 p.most, AV.str p.node, AV.bool p.hold]], toks := [], loops := [] : Heap })) (by simp_all [IsRet, firstE, maybeE]; omega)) (fun h13 => .no (show (decide ((128 : Int) < p.most)) = false from decide_eq_false (show ¬ ((128 : Int) < p.most) from h13)) <| .no (show (p.key == []) = false from Bool.eq_false_iff.2 (show ¬ ((p.key == []) = true) from (by omega))) <| .ff <| .split ((p.node == []) = true) (fun h14 => .no (show (!p.node == []) = false from by have hh : (p.node == []) = true := h14; simp [hh]) <| .ff <| .fin ((ARes.ret (AV.int IntKind.i64 (0 : Int)), { boxes := [[AV.str p.name, AV.str p.owner, AV.int IntKind.i64 p.prio, AV.sl SK.sh (List.map encA p.need), AV.sl SK.sh (List.map encP p.labels), AV.sl SK.sh (List.map encM p.sel), AV.sl SK.sh (List.map encL p.tols), AV.str p.key, AV.int IntKind.i64 p.most, AV.str p.node, AV.bool p.hold]], toks := [], loops := [] : Heap })) (by simp_all [IsRet, firstE, maybeE]; omega)) (fun h14 => .yes (show (!p.node == []) = true from by have hh : ¬ ((p.node == []) = true) := h14; simp [hh]) <| .callG ([AV.str p.node]) (AV.bool (isName p.node)) (show Gives cfg (76 : FuncId) [AV.str p.node] (AV.bool (isName p.node)) from name_any _) ⟨rfl, rfl⟩ ⟨rfl, rfl⟩ <| .split (isName p.node = true) (fun h15 => .no (show (!isName p.node) = false from by have hh : isName p.node = true := h15; simp [hh]) <| .fin ((ARes.ret (AV.int IntKind.i64 (0 : Int)), { boxes := [[AV.str p.name, AV.str p.owner, AV.int IntKind.i64 p.prio, AV.sl SK.sh (List.map encA p.need), AV.sl SK.sh (List.map encP p.labels), AV.sl SK.sh (List.map encM p.sel), AV.sl SK.sh (List.map encL p.tols), AV.str p.key, AV.int IntKind.i64 p.most, AV.str p.node, AV.bool p.hold]], toks := [], loops := [] : Heap })) (by simp_all [IsRet, firstE, maybeE]; omega)) (fun h15 => .yes (show (!isName p.node) = true from by have hh : ¬ (isName p.node = true) := h15; simp [hh]) <| .fin ((ARes.ret (AV.int IntKind.i64 (3 : Int)), { boxes := [[AV.str p.name, AV.str p.owner, AV.int IntKind.i64 p.prio, AV.sl SK.sh (List.map encA p.need), AV.sl SK.sh (List.map encP p.labels), AV.sl SK.sh (List.map encM p.sel), AV.sl SK.sh (List.map encL p.tols), AV.str p.key, AV.int IntKind.i64 p.most, AV.str p.node, AV.bool p.hold]], toks := [], loops := [] : Heap })) (by simp_all [IsRet, firstE, maybeE]; omega)))))) (fun h11 => .yes (show (!isName p.key) = true from by have hh : ¬ (isName p.key = true) := h11; simp [hh]) <| .fin ((ARes.ret (AV.int IntKind.i64 (3 : Int)), { boxes := [[AV.str p.name, AV.str p.owner, AV.int IntKind.i64 p.prio, AV.sl SK.sh (List.map encA p.need), AV.sl SK.sh (List.map encP p.labels), AV.sl SK.sh (List.map encM p.sel), AV.sl SK.sh (List.map encL p.tols), AV.str p.key, AV.int IntKind.i64 p.most, AV.str p.node, AV.bool p.hold]], toks := [], loops := [] : Heap })) (by simp only [IsRet]; grind [firstE, maybeE]))))))))))) (fun h2 => .yes (show (!p.owner == []) = true from by have hh : ¬ ((p.owner == []) = true) := h2; simp [hh]) <| .callG ([AV.str p.owner]) (AV.bool (isName p.owner)) (show Gives cfg (76 : FuncId) [AV.str p.owner] (AV.bool (isName p.owner)) from name_any _) ⟨rfl, rfl⟩ ⟨rfl, rfl⟩ <| .split (isName p.owner = true) (fun h3 => .no (show (!isName p.owner) = false from by have hh : isName p.owner = true := h3; simp [hh]) <| .split (p.prio < (-1 : Int)) (fun h4 => .yes (show (decide (p.prio < (-1 : Int))) = true from decide_eq_true (show p.prio < (-1 : Int) from h4)) <| .tt <| .tt <| .fin ((ARes.ret (AV.int IntKind.i64 (1 : Int)), { boxes := [[AV.str p.name, AV.str p.owner, AV.int IntKind.i64 p.prio, AV.sl SK.sh (List.map encA p.need), AV.sl SK.sh (List.map encP p.labels), AV.sl SK.sh (List.map encM p.sel), AV.sl SK.sh (List.map encL p.tols), AV.str p.key, AV.int IntKind.i64 p.most, AV.str p.node, AV.bool p.hold]], toks := [], loops := [] : Heap })) (by simp only [IsRet]; grind [firstE, maybeE])) (fun h4 => .no (show (decide (p.prio < (-1 : Int))) = false from decide_eq_false (show ¬ (p.prio < (-1 : Int)) from h4)) <| .split ((1000000 : Int) < p.prio) (fun h5 => .yes (show (decide ((1000000 : Int) < p.prio)) = true from decide_eq_true (show (1000000 : Int) < p.prio from h5)) <| .tt <| .fin ((ARes.ret (AV.int IntKind.i64 (1 : Int)), { boxes := [[AV.str p.name, AV.str p.owner, AV.int IntKind.i64 p.prio, AV.sl SK.sh (List.map encA p.need), AV.sl SK.sh (List.map encP p.labels), AV.sl SK.sh (List.map encM p.sel), AV.sl SK.sh (List.map encL p.tols), AV.str p.key, AV.int IntKind.i64 p.most, AV.str p.node, AV.bool p.hold]], toks := [], loops := [] : Heap })) (by simp only [IsRet]; grind [firstE, maybeE])) (fun h5 => .no (show (decide ((1000000 : Int) < p.prio)) = false from decide_eq_false (show ¬ ((1000000 : Int) < p.prio) from h5)) <| .split ((if true = true then !p.hold == (p.prio == (-1 : Int)) else p.hold == (p.prio == (-1 : Int))) = true) (fun h6 => .yes (show (if true = true then !p.hold == (p.prio == (-1 : Int)) else p.hold == (p.prio == (-1 : Int))) = true from h6) <| .fin ((ARes.ret (AV.int IntKind.i64 (1 : Int)), { boxes := [[AV.str p.name, AV.str p.owner, AV.int IntKind.i64 p.prio, AV.sl SK.sh (List.map encA p.need), AV.sl SK.sh (List.map encP p.labels), AV.sl SK.sh (List.map encM p.sel), AV.sl SK.sh (List.map encL p.tols), AV.str p.key, AV.int IntKind.i64 p.most, AV.str p.node, AV.bool p.hold]], toks := [], loops := [] : Heap })) (by simp only [IsRet]; grind [firstE, maybeE])) (fun h6 => .no (show (if true = true then !p.hold == (p.prio == (-1 : Int)) else p.hold == (p.prio == (-1 : Int))) = false from Bool.eq_false_iff.2 (show ¬ ((if true = true then !p.hold == (p.prio == (-1 : Int)) else p.hold == (p.prio == (-1 : Int))) = true) from h6)) <| .callG ([AV.sl SK.sh (List.map encA p.need)]) (AV.int IntKind.i64 c1) (show Gives cfg (77 : FuncId) [AV.sl SK.sh (List.map encA p.need)] (AV.int IntKind.i64 c1) from a1) ⟨rfl, rfl⟩ ⟨rfl, rfl⟩ <| .split ((c1 != (0 : Int)) = true) (fun h7 => .yes (show (c1 != (0 : Int)) = true from h7) <| .fin ((ARes.ret (AV.int IntKind.i64 c1), { boxes := [[AV.str p.name, AV.str p.owner, AV.int IntKind.i64 p.prio, AV.sl SK.sh (List.map encA p.need), AV.sl SK.sh (List.map encP p.labels), AV.sl SK.sh (List.map encM p.sel), AV.sl SK.sh (List.map encL p.tols), AV.str p.key, AV.int IntKind.i64 p.most, AV.str p.node, AV.bool p.hold]], toks := [], loops := [] : Heap })) (by simp only [IsRet]; grind [firstE, maybeE])) (fun h7 => .no (show (c1 != (0 : Int)) = false from Bool.eq_false_iff.2 (show ¬ ((c1 != (0 : Int)) = true) from h7)) <| .callG ([AV.sl SK.sh (List.map encP p.labels)]) (AV.int IntKind.i64 c2) (show Gives cfg (78 : FuncId) [AV.sl SK.sh (List.map encP p.labels)] (AV.int IntKind.i64 c2) from a2) ⟨rfl, rfl⟩ ⟨rfl, rfl⟩ <| .split ((c2 != (0 : Int)) = true) (fun h8 => .yes (show (c2 != (0 : Int)) = true from h8) <| .fin ((ARes.ret (AV.int IntKind.i64 c2), { boxes := [[AV.str p.name, AV.str p.owner, AV.int IntKind.i64 p.prio, AV.sl SK.sh (List.map encA p.need), AV.sl SK.sh (List.map encP p.labels), AV.sl SK.sh (List.map encM p.sel), AV.sl SK.sh (List.map encL p.tols), AV.str p.key, AV.int IntKind.i64 p.most, AV.str p.node, AV.bool p.hold]], toks := [], loops := [] : Heap })) (by simp only [IsRet]; grind [firstE, maybeE])) (fun h8 => .no (show (c2 != (0 : Int)) = false from Bool.eq_false_iff.2 (show ¬ ((c2 != (0 : Int)) = true) from h8)) <| .callG ([AV.sl SK.sh (List.map encM p.sel)]) (AV.int IntKind.i64 c3) (show Gives cfg (127 : FuncId) [AV.sl SK.sh (List.map encM p.sel)] (AV.int IntKind.i64 c3) from a3) ⟨rfl, rfl⟩ ⟨rfl, rfl⟩ <| .split ((c3 != (0 : Int)) = true) (fun h9 => .yes (show (c3 != (0 : Int)) = true from h9) <| .fin ((ARes.ret (AV.int IntKind.i64 c3), { boxes := [[AV.str p.name, AV.str p.owner, AV.int IntKind.i64 p.prio, AV.sl SK.sh (List.map encA p.need), AV.sl SK.sh (List.map encP p.labels), AV.sl SK.sh (List.map encM p.sel), AV.sl SK.sh (List.map encL p.tols), AV.str p.key, AV.int IntKind.i64 p.most, AV.str p.node, AV.bool p.hold]], toks := [], loops := [] : Heap })) (by simp only [IsRet]; grind [firstE, maybeE])) (fun h9 => .no (show (c3 != (0 : Int)) = false from Bool.eq_false_iff.2 (show ¬ ((c3 != (0 : Int)) = true) from h9)) <| .callG ([AV.sl SK.sh (List.map encL p.tols)]) (AV.int IntKind.i64 c4) (show Gives cfg (128 : FuncId) [AV.sl SK.sh (List.map encL p.tols)] (AV.int IntKind.i64 c4) from a4) ⟨rfl, rfl⟩ ⟨rfl, rfl⟩ <| .split ((c4 != (0 : Int)) = true) (fun h10 => .yes (show (c4 != (0 : Int)) = true from h10) <| .fin ((ARes.ret (AV.int IntKind.i64 c4), { boxes := [[AV.str p.name, AV.str p.owner, AV.int IntKind.i64 p.prio, AV.sl SK.sh (List.map encA p.need), AV.sl SK.sh (List.map encP p.labels), AV.sl SK.sh (List.map encM p.sel), AV.sl SK.sh (List.map encL p.tols), AV.str p.key, AV.int IntKind.i64 p.most, AV.str p.node, AV.bool p.hold]], toks := [], loops := [] : Heap })) (by simp only [IsRet]; grind [firstE, maybeE])) (fun h10 => .no (show (c4 != (0 : Int)) = false from Bool.eq_false_iff.2 (show ¬ ((c4 != (0 : Int)) = true) from h10)) <| .split ((p.key == []) = true) (fun h11 => .no (show (!p.key == []) = false from by have hh : (p.key == []) = true := h11; simp [hh]) <| .ff <| .no (show (!p.key == []) = false from by have hh : (p.key == []) = true := (by omega); simp [hh]) <| .ff <| .yes (show (p.key == []) = true from (by omega)) <| .split ((p.most != (0 : Int)) = true) (fun h12 => .yes (show (p.most != (0 : Int)) = true from h12) <| .fin ((ARes.ret (AV.int IntKind.i64 (1 : Int)), { boxes := [[AV.str p.name, AV.str p.owner, AV.int IntKind.i64 p.prio, AV.sl SK.sh (List.map encA p.need), AV.sl SK.sh (List.map encP p.labels), AV.sl SK.sh (List.map encM p.sel), AV.sl SK.sh (List.map encL p.tols), AV.str p.key, AV.int IntKind.i64 p.most, AV.str p.node, AV.bool p.hold]], toks := [], loops := [] : Heap })) (by simp_all [IsRet, firstE, maybeE]; omega)) (fun h12 => .no (show (p.most != (0 : Int)) = false from Bool.eq_false_iff.2 (show ¬ ((p.most != (0 : Int)) = true) from h12)) <| .split ((p.node == []) = true) (fun h13 => .no (show (!p.node == []) = false from by have hh : (p.node == []) = true := h13; simp [hh]) <| .ff <| .fin ((ARes.ret (AV.int IntKind.i64 (0 : Int)), { boxes := [[AV.str p.name, AV.str p.owner, AV.int IntKind.i64 p.prio, AV.sl SK.sh (List.map encA p.need), AV.sl SK.sh (List.map encP p.labels), AV.sl SK.sh (List.map encM p.sel), AV.sl SK.sh (List.map encL p.tols), AV.str p.key, AV.int IntKind.i64 p.most, AV.str p.node, AV.bool p.hold]], toks := [], loops := [] : Heap })) (by simp_all [IsRet, firstE, maybeE]; omega)) (fun h13 => .yes (show (!p.node == []) = true from by have hh : ¬ ((p.node == []) = true) := h13; simp [hh]) <| .callG ([AV.str p.node]) (AV.bool (isName p.node)) (show Gives cfg (76 : FuncId) [AV.str p.node] (AV.bool (isName p.node)) from name_any _) ⟨rfl, rfl⟩ ⟨rfl, rfl⟩ <| .split (isName p.node = true) (fun h14 => .no (show (!isName p.node) = false from by have hh : isName p.node = true := h14; simp [hh]) <| .fin ((ARes.ret (AV.int IntKind.i64 (0 : Int)), { boxes := [[AV.str p.name, AV.str p.owner, AV.int IntKind.i64 p.prio, AV.sl SK.sh (List.map encA p.need), AV.sl SK.sh (List.map encP p.labels), AV.sl SK.sh (List.map encM p.sel), AV.sl SK.sh (List.map encL p.tols), AV.str p.key, AV.int IntKind.i64 p.most, AV.str p.node, AV.bool p.hold]], toks := [], loops := [] : Heap })) (by simp_all [IsRet, firstE, maybeE]; omega)) (fun h14 => .yes (show (!isName p.node) = true from by have hh : ¬ (isName p.node = true) := h14; simp [hh]) <| .fin ((ARes.ret (AV.int IntKind.i64 (3 : Int)), { boxes := [[AV.str p.name, AV.str p.owner, AV.int IntKind.i64 p.prio, AV.sl SK.sh (List.map encA p.need), AV.sl SK.sh (List.map encP p.labels), AV.sl SK.sh (List.map encM p.sel), AV.sl SK.sh (List.map encL p.tols), AV.str p.key, AV.int IntKind.i64 p.most, AV.str p.node, AV.bool p.hold]], toks := [], loops := [] : Heap })) (by simp_all [IsRet, firstE, maybeE]; omega))))) (fun h11 => .yes (show (!p.key == []) = true from by have hh : ¬ ((p.key == []) = true) := h11; simp [hh]) <| .callG ([AV.str p.key]) (AV.bool (isName p.key)) (show Gives cfg (76 : FuncId) [AV.str p.key] (AV.bool (isName p.key)) from name_any _) ⟨rfl, rfl⟩ ⟨rfl, rfl⟩ <| .split (isName p.key = true) (fun h12 => .no (show (!isName p.key) = false from by have hh : isName p.key = true := h12; simp [hh]) <| .yes (show (!p.key == []) = true from by have hh : ¬ ((p.key == []) = true) := (by omega); simp [hh]) <| .split (p.most < (1 : Int)) (fun h13 => .yes (show (decide (p.most < (1 : Int))) = true from decide_eq_true (show p.most < (1 : Int) from h13)) <| .tt <| .tt <| .fin ((ARes.ret (AV.int IntKind.i64 (1 : Int)), { boxes := [[AV.str p.name, AV.str p.owner, AV.int IntKind.i64 p.prio, AV.sl SK.sh (List.map encA p.need), AV.sl SK.sh (List.map encP p.labels), AV.sl SK.sh (List.map encM p.sel), AV.sl SK.sh (List.map encL p.tols), AV.str p.key, AV.int IntKind.i64 p.most, AV.str p.node, AV.bool p.hold]], toks := [], loops := [] : Heap })) (by simp_all [IsRet, firstE, maybeE]; omega)) (fun h13 => .no (show (decide (p.most < (1 : Int))) = false from decide_eq_false (show ¬ (p.most < (1 : Int)) from h13)) <| .split ((128 : Int) < p.most) (fun h14 => .yes (show (decide ((128 : Int) < p.most)) = true from decide_eq_true (show (128 : Int) < p.most from h14)) <| .tt <| .fin ((ARes.ret (AV.int IntKind.i64 (1 : Int)), { boxes := [[AV.str p.name, AV.str p.owner, AV.int IntKind.i64 p.prio, AV.sl SK.sh (List.map encA p.need), AV.sl SK.sh (List.map encP p.labels), AV.sl SK.sh (List.map encM p.sel), AV.sl SK.sh (List.map encL p.tols), AV.str p.key, AV.int IntKind.i64 p.most, AV.str p.node, AV.bool p.hold]], toks := [], loops := [] : Heap })) (by simp_all [IsRet, firstE, maybeE]; omega)) (fun h14 => .no (show (decide ((128 : Int) < p.most)) = false from decide_eq_false (show ¬ ((128 : Int) < p.most) from h14)) <| .no (show (p.key == []) = false from Bool.eq_false_iff.2 (show ¬ ((p.key == []) = true) from (by omega))) <| .ff <| .split ((p.node == []) = true) (fun h15 => .no (show (!p.node == []) = false from by have hh : (p.node == []) = true := h15; simp [hh]) <| .ff <| .fin ((ARes.ret (AV.int IntKind.i64 (0 : Int)), { boxes := [[AV.str p.name, AV.str p.owner, AV.int IntKind.i64 p.prio, AV.sl SK.sh (List.map encA p.need), AV.sl SK.sh (List.map encP p.labels), AV.sl SK.sh (List.map encM p.sel), AV.sl SK.sh (List.map encL p.tols), AV.str p.key, AV.int IntKind.i64 p.most, AV.str p.node, AV.bool p.hold]], toks := [], loops := [] : Heap })) (by simp_all [IsRet, firstE, maybeE]; omega)) (fun h15 => .yes (show (!p.node == []) = true from by have hh : ¬ ((p.node == []) = true) := h15; simp [hh]) <| .callG ([AV.str p.node]) (AV.bool (isName p.node)) (show Gives cfg (76 : FuncId) [AV.str p.node] (AV.bool (isName p.node)) from name_any _) ⟨rfl, rfl⟩ ⟨rfl, rfl⟩ <| .split (isName p.node = true) (fun h16 => .no (show (!isName p.node) = false from by have hh : isName p.node = true := h16; simp [hh]) <| .fin ((ARes.ret (AV.int IntKind.i64 (0 : Int)), { boxes := [[AV.str p.name, AV.str p.owner, AV.int IntKind.i64 p.prio, AV.sl SK.sh (List.map encA p.need), AV.sl SK.sh (List.map encP p.labels), AV.sl SK.sh (List.map encM p.sel), AV.sl SK.sh (List.map encL p.tols), AV.str p.key, AV.int IntKind.i64 p.most, AV.str p.node, AV.bool p.hold]], toks := [], loops := [] : Heap })) (by simp_all [IsRet, firstE, maybeE]; omega)) (fun h16 => .yes (show (!isName p.node) = true from by have hh : ¬ (isName p.node = true) := h16; simp [hh]) <| .fin ((ARes.ret (AV.int IntKind.i64 (3 : Int)), { boxes := [[AV.str p.name, AV.str p.owner, AV.int IntKind.i64 p.prio, AV.sl SK.sh (List.map encA p.need), AV.sl SK.sh (List.map encP p.labels), AV.sl SK.sh (List.map encM p.sel), AV.sl SK.sh (List.map encL p.tols), AV.str p.key, AV.int IntKind.i64 p.most, AV.str p.node, AV.bool p.hold]], toks := [], loops := [] : Heap })) (by simp_all [IsRet, firstE, maybeE]; omega)))))) (fun h12 => .yes (show (!isName p.key) = true from by have hh : ¬ (isName p.key = true) := h12; simp [hh]) <| .fin ((ARes.ret (AV.int IntKind.i64 (3 : Int)), { boxes := [[AV.str p.name, AV.str p.owner, AV.int IntKind.i64 p.prio, AV.sl SK.sh (List.map encA p.need), AV.sl SK.sh (List.map encP p.labels), AV.sl SK.sh (List.map encM p.sel), AV.sl SK.sh (List.map encL p.tols), AV.str p.key, AV.int IntKind.i64 p.most, AV.str p.node, AV.bool p.hold]], toks := [], loops := [] : Heap })) (by simp only [IsRet]; grind [firstE, maybeE]))))))))))) (fun h3 => .yes (show (!isName p.owner) = true from by have hh : ¬ (isName p.owner = true) := h3; simp [hh]) <| .fin ((ARes.ret (AV.int IntKind.i64 (3 : Int)), { boxes := [[AV.str p.name, AV.str p.owner, AV.int IntKind.i64 p.prio, AV.sl SK.sh (List.map encA p.need), AV.sl SK.sh (List.map encP p.labels), AV.sl SK.sh (List.map encM p.sel), AV.sl SK.sh (List.map encL p.tols), AV.str p.key, AV.int IntKind.i64 p.most, AV.str p.node, AV.bool p.hold]], toks := [], loops := [] : Heap })) (by simp only [IsRet]; grind [firstE, maybeE])))) (fun h1 => .yes (show (!isName p.name) = true from by have hh : ¬ (isName p.name = true) := h1; simp [hh]) <| .tt <| .fin ((ARes.ret (AV.int IntKind.i64 (3 : Int)), { boxes := [[AV.str p.name, AV.str p.owner, AV.int IntKind.i64 p.prio, AV.sl SK.sh (List.map encA p.need), AV.sl SK.sh (List.map encP p.labels), AV.sl SK.sh (List.map encM p.sel), AV.sl SK.sh (List.map encL p.tols), AV.str p.key, AV.int IntKind.i64 p.most, AV.str p.node, AV.bool p.hold]], toks := [], loops := [] : Heap })) (by simp only [IsRet]; grind [firstE, maybeE]))) (by kernel_rfl)
def samePB (a b : Pod) : Bool := a.name == b.name && (a.owner == b.owner && (a.prio == b.prio && (same2 eqA a.need b.need && (same2 eqP a.labels b.labels && (same2 eqM a.sel b.sel && (same2 eqL a.tols b.tols && (a.key == b.key && (a.most == b.most && (a.node == b.node && a.hold == b.hold)))))))))
theorem samePd_any (a b : Pod) (m1 : a.need.length < 9223372036854775807) (m2 : a.labels.length < 9223372036854775807) (m3 : a.sel.length < 9223372036854775807) (m4 : a.tols.length < 9223372036854775807) : Gives cfg 55 [encPd a, encPd b] (.bool (samePB a b)) := by
  refine Gives.run (l55 _ _) ?_
  exact goG 120 []  trivial  (.split ((a.name == b.name) = true) (fun h1 => .yes (show (a.name == b.name) = true from h1) <| .split ((a.owner == b.owner) = true) (fun h2 => .yes (show (a.owner == b.owner) = true from h2) <| .split ((a.prio == b.prio) = true) (fun h3 => .yes (show (a.prio == b.prio) = true from h3) <| .callG ([AV.sl SK.sh (List.map encA a.need), AV.sl SK.sh (List.map encA b.need)]) (AV.bool (same2 eqA a.need b.need)) (show Gives cfg (85 : FuncId) [AV.sl SK.sh (List.map encA a.need), AV.sl SK.sh (List.map encA b.need)] (AV.bool (same2 eqA a.need b.need)) from sameV _ _ m1) ⟨rfl, rfl⟩ ⟨rfl, rfl⟩ <| .split (same2 eqA a.need b.need = true) (fun h4 => .yes (show (same2 eqA a.need b.need) = true from h4) <| .callG ([AV.sl SK.sh (List.map encP a.labels), AV.sl SK.sh (List.map encP b.labels)]) (AV.bool (same2 eqP a.labels b.labels)) (show Gives cfg (86 : FuncId) [AV.sl SK.sh (List.map encP a.labels), AV.sl SK.sh (List.map encP b.labels)] (AV.bool (same2 eqP a.labels b.labels)) from samePp _ _ m2) ⟨rfl, rfl⟩ ⟨rfl, rfl⟩ <| .split (same2 eqP a.labels b.labels = true) (fun h5 => .yes (show (same2 eqP a.labels b.labels) = true from h5) <| .callG ([AV.sl SK.sh (List.map encM a.sel), AV.sl SK.sh (List.map encM b.sel)]) (AV.bool (same2 eqM a.sel b.sel)) (show Gives cfg (131 : FuncId) [AV.sl SK.sh (List.map encM a.sel), AV.sl SK.sh (List.map encM b.sel)] (AV.bool (same2 eqM a.sel b.sel)) from sameMp _ _ m3) ⟨rfl, rfl⟩ ⟨rfl, rfl⟩ <| .split (same2 eqM a.sel b.sel = true) (fun h6 => .yes (show (same2 eqM a.sel b.sel) = true from h6) <| .callG ([AV.sl SK.sh (List.map encL a.tols), AV.sl SK.sh (List.map encL b.tols)]) (AV.bool (same2 eqL a.tols b.tols)) (show Gives cfg (132 : FuncId) [AV.sl SK.sh (List.map encL a.tols), AV.sl SK.sh (List.map encL b.tols)] (AV.bool (same2 eqL a.tols b.tols)) from sameLp _ _ m4) ⟨rfl, rfl⟩ ⟨rfl, rfl⟩ <| .split (same2 eqL a.tols b.tols = true) (fun h7 => .yes (show (same2 eqL a.tols b.tols) = true from h7) <| .split ((a.key == b.key) = true) (fun h8 => .yes (show (a.key == b.key) = true from h8) <| .split ((a.most == b.most) = true) (fun h9 => .yes (show (a.most == b.most) = true from h9) <| .split ((a.node == b.node) = true) (fun h10 => .yes (show (a.node == b.node) = true from h10) <| .fin ((ARes.ret (AV.bool (if false = true then !a.hold == b.hold else a.hold == b.hold)), { boxes := [[AV.str a.name, AV.str a.owner, AV.int IntKind.i64 a.prio, AV.sl SK.sh (List.map encA a.need), AV.sl SK.sh (List.map encP a.labels), AV.sl SK.sh (List.map encM a.sel), AV.sl SK.sh (List.map encL a.tols), AV.str a.key, AV.int IntKind.i64 a.most, AV.str a.node, AV.bool a.hold], [AV.str b.name, AV.str b.owner, AV.int IntKind.i64 b.prio, AV.sl SK.sh (List.map encA b.need), AV.sl SK.sh (List.map encP b.labels), AV.sl SK.sh (List.map encM b.sel), AV.sl SK.sh (List.map encL b.tols), AV.str b.key, AV.int IntKind.i64 b.most, AV.str b.node, AV.bool b.hold]], toks := [], loops := [] : Heap })) (by simp only [IsRet]; grind [samePB])) (fun h10 => .no (show (a.node == b.node) = false from Bool.eq_false_iff.2 (show ¬ ((a.node == b.node) = true) from h10)) <| .fin ((ARes.ret (AV.bool false), { boxes := [[AV.str a.name, AV.str a.owner, AV.int IntKind.i64 a.prio, AV.sl SK.sh (List.map encA a.need), AV.sl SK.sh (List.map encP a.labels), AV.sl SK.sh (List.map encM a.sel), AV.sl SK.sh (List.map encL a.tols), AV.str a.key, AV.int IntKind.i64 a.most, AV.str a.node, AV.bool a.hold], [AV.str b.name, AV.str b.owner, AV.int IntKind.i64 b.prio, AV.sl SK.sh (List.map encA b.need), AV.sl SK.sh (List.map encP b.labels), AV.sl SK.sh (List.map encM b.sel), AV.sl SK.sh (List.map encL b.tols), AV.str b.key, AV.int IntKind.i64 b.most, AV.str b.node, AV.bool b.hold]], toks := [], loops := [] : Heap })) (by simp only [IsRet]; grind [samePB]))) (fun h9 => .no (show (a.most == b.most) = false from Bool.eq_false_iff.2 (show ¬ ((a.most == b.most) = true) from h9)) <| .ff <| .fin ((ARes.ret (AV.bool false), { boxes := [[AV.str a.name, AV.str a.owner, AV.int IntKind.i64 a.prio, AV.sl SK.sh (List.map encA a.need), AV.sl SK.sh (List.map encP a.labels), AV.sl SK.sh (List.map encM a.sel), AV.sl SK.sh (List.map encL a.tols), AV.str a.key, AV.int IntKind.i64 a.most, AV.str a.node, AV.bool a.hold], [AV.str b.name, AV.str b.owner, AV.int IntKind.i64 b.prio, AV.sl SK.sh (List.map encA b.need), AV.sl SK.sh (List.map encP b.labels), AV.sl SK.sh (List.map encM b.sel), AV.sl SK.sh (List.map encL b.tols), AV.str b.key, AV.int IntKind.i64 b.most, AV.str b.node, AV.bool b.hold]], toks := [], loops := [] : Heap })) (by simp only [IsRet]; grind [samePB]))) (fun h8 => .no (show (a.key == b.key) = false from Bool.eq_false_iff.2 (show ¬ ((a.key == b.key) = true) from h8)) <| .ff <| .ff <| .fin ((ARes.ret (AV.bool false), { boxes := [[AV.str a.name, AV.str a.owner, AV.int IntKind.i64 a.prio, AV.sl SK.sh (List.map encA a.need), AV.sl SK.sh (List.map encP a.labels), AV.sl SK.sh (List.map encM a.sel), AV.sl SK.sh (List.map encL a.tols), AV.str a.key, AV.int IntKind.i64 a.most, AV.str a.node, AV.bool a.hold], [AV.str b.name, AV.str b.owner, AV.int IntKind.i64 b.prio, AV.sl SK.sh (List.map encA b.need), AV.sl SK.sh (List.map encP b.labels), AV.sl SK.sh (List.map encM b.sel), AV.sl SK.sh (List.map encL b.tols), AV.str b.key, AV.int IntKind.i64 b.most, AV.str b.node, AV.bool b.hold]], toks := [], loops := [] : Heap })) (by simp only [IsRet]; grind [samePB]))) (fun h7 => .no (show (same2 eqL a.tols b.tols) = false from Bool.eq_false_iff.2 (show ¬ (same2 eqL a.tols b.tols = true) from h7)) <| .ff <| .ff <| .ff <| .fin ((ARes.ret (AV.bool false), { boxes := [[AV.str a.name, AV.str a.owner, AV.int IntKind.i64 a.prio, AV.sl SK.sh (List.map encA a.need), AV.sl SK.sh (List.map encP a.labels), AV.sl SK.sh (List.map encM a.sel), AV.sl SK.sh (List.map encL a.tols), AV.str a.key, AV.int IntKind.i64 a.most, AV.str a.node, AV.bool a.hold], [AV.str b.name, AV.str b.owner, AV.int IntKind.i64 b.prio, AV.sl SK.sh (List.map encA b.need), AV.sl SK.sh (List.map encP b.labels), AV.sl SK.sh (List.map encM b.sel), AV.sl SK.sh (List.map encL b.tols), AV.str b.key, AV.int IntKind.i64 b.most, AV.str b.node, AV.bool b.hold]], toks := [], loops := [] : Heap })) (by simp only [IsRet]; grind [samePB]))) (fun h6 => .no (show (same2 eqM a.sel b.sel) = false from Bool.eq_false_iff.2 (show ¬ (same2 eqM a.sel b.sel = true) from h6)) <| .ff <| .ff <| .ff <| .ff <| .fin ((ARes.ret (AV.bool false), { boxes := [[AV.str a.name, AV.str a.owner, AV.int IntKind.i64 a.prio, AV.sl SK.sh (List.map encA a.need), AV.sl SK.sh (List.map encP a.labels), AV.sl SK.sh (List.map encM a.sel), AV.sl SK.sh (List.map encL a.tols), AV.str a.key, AV.int IntKind.i64 a.most, AV.str a.node, AV.bool a.hold], [AV.str b.name, AV.str b.owner, AV.int IntKind.i64 b.prio, AV.sl SK.sh (List.map encA b.need), AV.sl SK.sh (List.map encP b.labels), AV.sl SK.sh (List.map encM b.sel), AV.sl SK.sh (List.map encL b.tols), AV.str b.key, AV.int IntKind.i64 b.most, AV.str b.node, AV.bool b.hold]], toks := [], loops := [] : Heap })) (by simp only [IsRet]; grind [samePB]))) (fun h5 => .no (show (same2 eqP a.labels b.labels) = false from Bool.eq_false_iff.2 (show ¬ (same2 eqP a.labels b.labels = true) from h5)) <| .ff <| .ff <| .ff <| .ff <| .ff <| .fin ((ARes.ret (AV.bool false), { boxes := [[AV.str a.name, AV.str a.owner, AV.int IntKind.i64 a.prio, AV.sl SK.sh (List.map encA a.need), AV.sl SK.sh (List.map encP a.labels), AV.sl SK.sh (List.map encM a.sel), AV.sl SK.sh (List.map encL a.tols), AV.str a.key, AV.int IntKind.i64 a.most, AV.str a.node, AV.bool a.hold], [AV.str b.name, AV.str b.owner, AV.int IntKind.i64 b.prio, AV.sl SK.sh (List.map encA b.need), AV.sl SK.sh (List.map encP b.labels), AV.sl SK.sh (List.map encM b.sel), AV.sl SK.sh (List.map encL b.tols), AV.str b.key, AV.int IntKind.i64 b.most, AV.str b.node, AV.bool b.hold]], toks := [], loops := [] : Heap })) (by simp only [IsRet]; grind [samePB]))) (fun h4 => .no (show (same2 eqA a.need b.need) = false from Bool.eq_false_iff.2 (show ¬ (same2 eqA a.need b.need = true) from h4)) <| .ff <| .ff <| .ff <| .ff <| .ff <| .ff <| .fin ((ARes.ret (AV.bool false), { boxes := [[AV.str a.name, AV.str a.owner, AV.int IntKind.i64 a.prio, AV.sl SK.sh (List.map encA a.need), AV.sl SK.sh (List.map encP a.labels), AV.sl SK.sh (List.map encM a.sel), AV.sl SK.sh (List.map encL a.tols), AV.str a.key, AV.int IntKind.i64 a.most, AV.str a.node, AV.bool a.hold], [AV.str b.name, AV.str b.owner, AV.int IntKind.i64 b.prio, AV.sl SK.sh (List.map encA b.need), AV.sl SK.sh (List.map encP b.labels), AV.sl SK.sh (List.map encM b.sel), AV.sl SK.sh (List.map encL b.tols), AV.str b.key, AV.int IntKind.i64 b.most, AV.str b.node, AV.bool b.hold]], toks := [], loops := [] : Heap })) (by simp only [IsRet]; grind [samePB]))) (fun h3 => .no (show (a.prio == b.prio) = false from Bool.eq_false_iff.2 (show ¬ ((a.prio == b.prio) = true) from h3)) <| .ff <| .ff <| .ff <| .ff <| .ff <| .ff <| .ff <| .fin ((ARes.ret (AV.bool false), { boxes := [[AV.str a.name, AV.str a.owner, AV.int IntKind.i64 a.prio, AV.sl SK.sh (List.map encA a.need), AV.sl SK.sh (List.map encP a.labels), AV.sl SK.sh (List.map encM a.sel), AV.sl SK.sh (List.map encL a.tols), AV.str a.key, AV.int IntKind.i64 a.most, AV.str a.node, AV.bool a.hold], [AV.str b.name, AV.str b.owner, AV.int IntKind.i64 b.prio, AV.sl SK.sh (List.map encA b.need), AV.sl SK.sh (List.map encP b.labels), AV.sl SK.sh (List.map encM b.sel), AV.sl SK.sh (List.map encL b.tols), AV.str b.key, AV.int IntKind.i64 b.most, AV.str b.node, AV.bool b.hold]], toks := [], loops := [] : Heap })) (by simp only [IsRet]; grind [samePB]))) (fun h2 => .no (show (a.owner == b.owner) = false from Bool.eq_false_iff.2 (show ¬ ((a.owner == b.owner) = true) from h2)) <| .ff <| .ff <| .ff <| .ff <| .ff <| .ff <| .ff <| .ff <| .fin ((ARes.ret (AV.bool false), { boxes := [[AV.str a.name, AV.str a.owner, AV.int IntKind.i64 a.prio, AV.sl SK.sh (List.map encA a.need), AV.sl SK.sh (List.map encP a.labels), AV.sl SK.sh (List.map encM a.sel), AV.sl SK.sh (List.map encL a.tols), AV.str a.key, AV.int IntKind.i64 a.most, AV.str a.node, AV.bool a.hold], [AV.str b.name, AV.str b.owner, AV.int IntKind.i64 b.prio, AV.sl SK.sh (List.map encA b.need), AV.sl SK.sh (List.map encP b.labels), AV.sl SK.sh (List.map encM b.sel), AV.sl SK.sh (List.map encL b.tols), AV.str b.key, AV.int IntKind.i64 b.most, AV.str b.node, AV.bool b.hold]], toks := [], loops := [] : Heap })) (by simp only [IsRet]; grind [samePB]))) (fun h1 => .no (show (a.name == b.name) = false from Bool.eq_false_iff.2 (show ¬ ((a.name == b.name) = true) from h1)) <| .ff <| .ff <| .ff <| .ff <| .ff <| .ff <| .ff <| .ff <| .ff <| .fin ((ARes.ret (AV.bool false), { boxes := [[AV.str a.name, AV.str a.owner, AV.int IntKind.i64 a.prio, AV.sl SK.sh (List.map encA a.need), AV.sl SK.sh (List.map encP a.labels), AV.sl SK.sh (List.map encM a.sel), AV.sl SK.sh (List.map encL a.tols), AV.str a.key, AV.int IntKind.i64 a.most, AV.str a.node, AV.bool a.hold], [AV.str b.name, AV.str b.owner, AV.int IntKind.i64 b.prio, AV.sl SK.sh (List.map encA b.need), AV.sl SK.sh (List.map encP b.labels), AV.sl SK.sh (List.map encM b.sel), AV.sl SK.sh (List.map encL b.tols), AV.str b.key, AV.int IntKind.i64 b.most, AV.str b.node, AV.bool b.hold]], toks := [], loops := [] : Heap })) (by simp only [IsRet]; grind [samePB]))) (by kernel_rfl)
theorem samePB_iff (a b : Pod) : samePB a b = true ↔ a = b := by
  cases a; cases b
  simp only [samePB, Bool.and_eq_true, beq_iff_eq, same2_iff eqA_iff, same2_iff eqP_iff, same2_iff eqM_iff, same2_iff eqL_iff, Pod.mk.injEq]
end Go.Aa.T

set_option linter.unusedVariables false
set_option linter.unusedSimpArgs false
set_option maxRecDepth 100000
namespace Go.Aa.T
open Go.Aa Go.Proofs
theorem known46' : Gives cfg 46 [] (.bool true) := by
  obtain ⟨H, h⟩ := known_ret46
  exact Gives.of h
def pk (prio : Int) (key : List UInt8) (most : Int) (hold : Bool) : AV := .agg [.str [112], .str [], .int .i64 prio, .sl .sh [], .sl .sh [], .sl .sh [], .sl .sh [], .str key, .int .i64 most, .str [], .bool hold]
end Go.Aa.T

set_option linter.unusedVariables false
set_option linter.unusedSimpArgs false
set_option maxRecDepth 100000
namespace Go.Aa.T
open Go.Aa Go.Proofs
end Go.Aa.T

set_option linter.unusedVariables false
set_option linter.unusedSimpArgs false
set_option maxRecDepth 100000
namespace Go.Aa.T
open Go.Aa Go.Proofs
theorem fmt_any (n : Int) (h0 : -9223372036854775808 ≤ n) (h1 : n ≤ 9223372036854775807) : Gives cfg 163 [.int .i64 n, .int .i64 10] (.str (itoaF n)) := by
  refine Gives.of (H' := Heap.nil) ?_
  rw [lim_ext (g := fmtE) rfl rfl]
  have : fmtE [.int .i64 n, .int .i64 10] Heap.nil = some (.str (itoaF n), Heap.nil) := by
    simp only [fmtE]
    exact if_pos ⟨trivial, trivial, trivial, h0, h1⟩
  rw [this]; rfl
theorem itoa_any (n : Int) (h0 : -9223372036854775808 ≤ n) (h1 : n ≤ 9223372036854775807) : Gives cfg 69 [.int .i64 n] (.str (itoaF n)) := by
  refine Gives.of (H' := Heap.nil) ?_
  rw [lim_ext (g := itoaE) rfl rfl]
  have : itoaE [.int .i64 n] Heap.nil = some (.str (itoaF n), Heap.nil) := by
    simp only [itoaE]
    exact if_pos ⟨trivial, h0, h1⟩
  rw [this]; rfl
theorem itoaF_len {n : Int} (h0 : -9223372036854775808 ≤ n) (h1 : n ≤ 9223372036854775807) : (itoaF n).length ≤ 21 := by
  rw [itoaF_eq h0 h1]; exact Lib.itoa_length_le n h0 h1
theorem join_gen (ss : List (List UInt8)) (sep : List UInt8) (h1 : ss.length ≤ 140737488355328) (h2 : (Lib.join ss sep).length ≤ 140737488355328) : Gives cfg 101 [.sl .sh (ss.map AV.str), .str sep] (.str (Lib.join ss sep)) := by
  refine Gives.of (H' := Heap.nil) ?_
  rw [lim_ext (g := joinE) rfl rfl]
  have : joinE [.sl .sh (ss.map AV.str), .str sep] Heap.nil = some (.str (Lib.join ss sep), Heap.nil) := by
    simp only [joinE, strsA_map]
    exact if_pos ⟨h1, h2⟩
  rw [this]; rfl
theorem tail_lenC (c : UInt8) : ∀ (r : List (List UInt8)) (m : Nat), (∀ s ∈ r, s.length ≤ m) → (Lib.joinTail [c] r).length ≤ r.length * (m + 1)
  | [], m, _ => by simp [Lib.joinTail]
  | s :: r, m, h => by
    have h1 := h s (by simp)
    have h2 := tail_lenC c r m (fun y hy => h y (by simp [hy]))
    rw [tail_consC]
    simp only [List.length_cons, List.length_append, Nat.add_mul, Nat.one_mul] at h2 ⊢
    omega
theorem join_lenC (c : UInt8) (ss : List (List UInt8)) (m : Nat) (h : ∀ s ∈ ss, s.length ≤ m) : (Lib.join ss [c]).length ≤ ss.length * (m + 1) := by
  cases ss with
  | nil => simp [Lib.join_nil]
  | cons x r =>
    rw [Lib.join_cons, List.length_append]
    have h1 := h x (by simp)
    have h2 := tail_lenC c r m (fun y hy => h y (by simp [hy]))
    simp only [List.length_cons, Nat.add_mul, Nat.one_mul] at h2 ⊢
    omega
theorem join10 (a b c d e f g h i j : List UInt8) (h1 : a.length ≤ 10000) (h2 : b.length ≤ 10000) (h3 : c.length ≤ 10000) (h4 : d.length ≤ 10000) (h5 : e.length ≤ 10000) (h6 : f.length ≤ 10000) (h7 : g.length ≤ 10000) (h8 : h.length ≤ 10000) (h9 : i.length ≤ 10000) (h10 : j.length ≤ 10000) :
    Gives cfg 101 [.sl .sh [.str a, .str b, .str c, .str d, .str e, .str f, .str g, .str h, .str i, .str j], .str [32]] (.str (Lib.join [a, b, c, d, e, f, g, h, i, j] [32])) := by
  refine join_gen [a, b, c, d, e, f, g, h, i, j] [32] (by simp) ?_
  have := join_lenC 32 [a, b, c, d, e, f, g, h, i, j] 10000 (by
    intro s hs
    simp only [List.mem_cons, List.not_mem_nil, or_false] at hs
    rcases hs with rfl | rfl | rfl | rfl | rfl | rfl | rfl | rfl | rfl | rfl <;> assumption)
  simp only [List.length_cons, List.length_nil] at this
  omega

def smallI (l : List Amount) : Prop := ∀ x ∈ l, -9223372036854775808 ≤ x.n ∧ x.n ≤ 9223372036854775807
theorem aText_len (x : Amount) (hk : x.name.length ≤ 50) (h : -9223372036854775808 ≤ x.n ∧ x.n ≤ 9223372036854775807) : (aText x).length ≤ 103 := by
  have := itoaF_len h.1 h.2
  simp [aText]
  omega
theorem aText_loop (l : List Amount) (hn : l.length ≤ 20) (hf : ∀ x ∈ l, x.name.length ≤ 50) (hs : smallI l) (hj : (Lib.join (l.map aText) [44]).length ≤ 3000) : ∀ (post : List Amount) (i : Nat) (acc : List (List UInt8)) (bs : List (List AV)) (hd : l.drop i = post) (ha : acc.length = i) (hall : acc ++ post.map aText = l.map aText) (T : Env)
    (hT : Has T [(3, rowF AV.str acc), (9, .sl .sh (l.map encA)), (10, .int .i64 l.length), (11, .int .i64 i)]),
    Goes cfg a102 k102_0 T ⟨bs, tkR AV.str acc, []⟩ (IsRet (.str (Lib.join (l.map aText) [44]))) := by
  intro post
  induction post with
  | nil =>
    intro i acc bs hd ha hall T hT
    have hge := drop_ge hd
    have e : acc = l.map aText := by simpa using hall
    subst e
    exact goG 60 _  hT  (.no (show (decide ((↑i : Int) < (↑l.length : Int))) = false from decide_eq_false (show ¬ ((↑i : Int) < (↑l.length : Int)) from (by simp; omega))) <| .callG ([AV.sl (skF (List.map aText l)) (List.map AV.str (List.map aText l)), AV.str [(44 : UInt8)]]) (AV.str (Lib.join (List.map aText l) [(44 : UInt8)])) (show Gives cfg (101 : FuncId) [AV.sl SK.sh (List.map AV.str (List.map aText l)), AV.str [(44 : UInt8)]] (AV.str (Lib.join (List.map aText l) [(44 : UInt8)])) from join_any _ (by simp; omega) (by omega)) Shuts.p ⟨rfl, rfl⟩ <| .fin ((ARes.ret (AV.str (Lib.join (List.map aText l) [(44 : UInt8)])), { boxes := bs, toks := tkR AV.str (List.map aText l), loops := [] : Heap })) rfl) (by kernel_rfl)
  | cons x post ih =>
    intro i acc bs hd ha hall T hT
    have hlt := drop_lt hd
    have hnx := drop_next hd
    have hk := hf x (drop_mem hd)
    obtain ⟨s1, s2⟩ := hs x (drop_mem hd)
    have hl := itoaF_len s1 s2
    have hall2 : (acc ++ [aText x]) ++ post.map aText = l.map aText := by rw [← hall]; simp
    have hall3 : (acc ++ [x.name ++ [61] ++ itoaF x.n]) ++ post.map aText = l.map aText := hall2
    exact goG 60 _  hT  (.yes (show (decide ((↑i : Int) < (↑l.length : Int))) = true from decide_eq_true (show (↑i : Int) < (↑l.length : Int) from (by simp; omega))) <| .idx (show idxA (2 : Nat) (AV.sl SK.sh (List.map encA l)) (AV.int IntKind.i64 (↑i : Int)) = some (AV.ref (encA x).cells) from idx_row hd (by rfl)) <| .load (show loadA true (2 : Nat) { boxes := bs, toks := tkR AV.str acc, loops := [] : Heap } (AV.ref [AV.str x.name, AV.int IntKind.i64 x.n]) = some (AV.agg [AV.str x.name, AV.int IntKind.i64 x.n]) from rfl) <| .store (show storeA (2 : Nat) { boxes := bs ++ [[AV.str [], AV.int IntKind.i64 (0 : Int)]], toks := tkR AV.str acc, loops := [] : Heap } (AV.ptr bs.length (0 : Nat)) (AV.agg [AV.str x.name, AV.int IntKind.i64 x.n]) = some ({ boxes := bs ++ [[AV.str x.name, AV.int IntKind.i64 x.n]], toks := tkR AV.str acc, loops := [] : Heap }) from store_box2 (cs := [AV.str [], AV.int IntKind.i64 (0 : Int)]) (cs' := [AV.str x.name, AV.int IntKind.i64 x.n]) (by simp) rfl (by simp [List.set_append])) <| .load (show loadA false (1 : Nat) { boxes := bs ++ [[AV.str x.name, AV.int IntKind.i64 x.n]], toks := tkR AV.str acc, loops := [] : Heap } (AV.ptr bs.length (0 : Nat)) = some (AV.str x.name) from load_box (cs := [AV.str x.name, AV.int IntKind.i64 x.n]) (by simp) rfl) <| .bin (show binA BinOp.add (AV.str x.name) (AV.str [(61 : UInt8)]) = some (AV.str (x.name ++ [(61 : UInt8)])) from str_add (by simp; omega)) <| .load (show loadA false (1 : Nat) { boxes := bs ++ [[AV.str x.name, AV.int IntKind.i64 x.n]], toks := tkR AV.str acc, loops := [] : Heap } (AV.ptr bs.length (1 : Nat)) = some (AV.int IntKind.i64 x.n) from load_box (cs := [AV.str x.name, AV.int IntKind.i64 x.n]) (by simp) rfl) <| .callG ([AV.int IntKind.i64 x.n, AV.int IntKind.i64 (10 : Int)]) (AV.str (itoaF x.n)) (show Gives cfg (163 : FuncId) [AV.int IntKind.i64 x.n, AV.int IntKind.i64 (10 : Int)] (AV.str (itoaF x.n)) from fmt_any _ s1 s2) ⟨rfl, rfl⟩ ⟨rfl, rfl⟩ <| .bin (show binA BinOp.add (AV.str (x.name ++ [(61 : UInt8)])) (AV.str (itoaF x.n)) = some (AV.str (x.name ++ [(61 : UInt8)] ++ itoaF x.n)) from str_add (by simp; omega)) <| .append (show appendA (1 : Nat) (16 : Nat) { boxes := bs ++ [[AV.str x.name, AV.int IntKind.i64 x.n]], toks := tkR AV.str acc, loops := [] : Heap } (AV.sl (skF acc) (List.map AV.str acc)) (AV.sl SK.full [AV.str (x.name ++ [(61 : UInt8)] ++ itoaF x.n)]) = some ((rowF AV.str (acc ++ [x.name ++ [(61 : UInt8)] ++ itoaF x.n]), { boxes := bs ++ [[AV.str x.name, AV.int IntKind.i64 x.n]], toks := tkR AV.str (acc ++ [x.name ++ [(61 : UInt8)] ++ itoaF x.n]), loops := [] : Heap })) from row_append_T _ (by simp; omega) (by exact lenSt) (by rfl) (by rfl)) <| .bin (show binA BinOp.add (AV.int IntKind.i64 (↑i : Int)) (AV.int IntKind.i64 (1 : Int)) = some (AV.int IntKind.i64 (↑(i + (1 : Nat)) : Int)) from inc_i (by omega)) <| .cutQ k102_0 [(3, AV.sl (skF (acc ++ [x.name ++ [(61 : UInt8)] ++ itoaF x.n])) (List.map AV.str (acc ++ [x.name ++ [(61 : UInt8)] ++ itoaF x.n]))), (9, AV.sl SK.sh (List.map encA l)), (10, AV.int IntKind.i64 (↑l.length : Int)), (11, AV.int IntKind.i64 (↑(i + (1 : Nat)) : Int))] ({ boxes := bs ++ [[AV.str x.name, AV.int IntKind.i64 x.n]], toks := tkR AV.str (acc ++ [x.name ++ [(61 : UInt8)] ++ itoaF x.n]), loops := [] : Heap }) (fun T hT => (ih (i + (1 : Nat)) (acc ++ [x.name ++ [(61 : UInt8)] ++ itoaF x.n]) (bs ++ [[AV.str x.name, AV.int IntKind.i64 x.n]]) hnx (by simp; omega) hall2 T hT))) (by kernel_rfl)
theorem aText_any (l : List Amount) (hf : fewA l = true) (hs : smallI l) : Gives cfg 102 [.sl .sh (l.map encA)] (.str (textOf aText l)) := by
  have hn := fewA_len hf
  have hf2 : ∀ x ∈ l, x.name.length ≤ 50 := by
    simp only [fewA, short1, Bool.and_eq_true, List.all_eq_true, decide_eq_true_eq] at hf
    exact hf.2
  have hj : (Lib.join (l.map aText) [44]).length ≤ 3000 := join_len _ (by
    intro s hs'
    obtain ⟨x, hx, rfl⟩ := List.mem_map.1 hs'
    exact aText_len x (hf2 x hx) (hs x hx)) (by simpa using hn)
  refine Gives.run (l102 _ _) ?_
  have h := aText_loop l hn hf2 hs hj l 0 [] [] rfl rfl rfl
  by_cases hl : l = []
  · subst hl
    exact goG 60 []  trivial  (.len (show lenA false (AV.sl SK.sh []) = some (AV.int IntKind.i64 (↑[].length : Int)) from len_sl _ _) <| .tt <| .fin ((ARes.ret (AV.str [(45 : UInt8)]), { boxes := [], toks := [], loops := [] : Heap })) rfl) (by kernel_rfl)
  · have hp : 0 < l.length := List.length_pos_iff.2 hl
    have e : textOf aText l = Lib.join (l.map aText) [44] := by simp [textOf, hl]
    rw [e]
    exact goG 60 []  trivial  (.len (show lenA false (AV.sl SK.sh (List.map encA l)) = some (AV.int IntKind.i64 (↑l.length : Int)) from len_map _) <| .no (show ((↑l.length : Int) == (0 : Int)) = false from Bool.eq_false_iff.2 (show ¬ (((↑l.length : Int) == (0 : Int)) = true) from (by simp [hl]))) <| .len (show lenA false (AV.sl SK.sh (List.map encA l)) = some (AV.int IntKind.i64 (↑l.length : Int)) from len_map _) <| .cutQ k102_0 [(3, AV.sl SK.full []), (9, AV.sl SK.sh (List.map encA l)), (10, AV.int IntKind.i64 (↑l.length : Int)), (11, AV.int IntKind.i64 (0 : Int))] ({ boxes := [], toks := [], loops := [] : Heap }) (fun T hT => (h T hT))) (by kernel_rfl)

structure SmallPd (p : Pod) : Prop where
  need : smallI p.need
  prio : -9223372036854775808 ≤ p.prio ∧ p.prio ≤ 9223372036854775807
  most : -9223372036854775808 ≤ p.most ∧ p.most ≤ 9223372036854775807
theorem dash_any (s : List UInt8) : Gives cfg 129 [.str s] (.str (dashB s)) := by
  refine Gives.run (l129 _ _) ?_
  exact goG 60 []  trivial  (.split ((s == []) = true) (fun h1 => .yes (show (s == []) = true from h1) <| .fin ((ARes.ret (AV.str [(45 : UInt8)]), { boxes := [], toks := [], loops := [] : Heap })) (by simp only [IsRet]; grind [dashB])) (fun h1 => .no (show (s == []) = false from Bool.eq_false_iff.2 (show ¬ ((s == []) = true) from h1)) <| .fin ((ARes.ret (AV.str s), { boxes := [], toks := [], loops := [] : Heap })) (by simp only [IsRet]; grind [dashB]))) (by kernel_rfl)
theorem dash_len {s : List UInt8} (h : s.length ≤ 50) : (dashB s).length ≤ 10000 := by
  unfold dashB
  split
  · simp
  · omega
theorem textOf_len3 {X : Type} {f : X → List UInt8} {l : List X} (hn : l.length ≤ 20) (h : ∀ x ∈ l, (f x).length ≤ 103) : (textOf f l).length ≤ 10000 := by
  unfold textOf
  split
  · simp
  · have := join_len (l.map f) (by
      intro s hs
      obtain ⟨x, hx, rfl⟩ := List.mem_map.1 hs
      exact h x hx) (by simpa using hn)
    omega
theorem few_two {X : Type} {f : X → List UInt8 × List UInt8} {l : List X} (h : few f l = true) {x : X} (hx : x ∈ l) : (f x).1.length ≤ 50 ∧ (f x).2.length ≤ 50 := by
  have := List.all_eq_true.1 h x hx
  simpa using this
theorem textPd_any (p : Pod) (hf : fewPd p = true) (hs : SmallPd p) : Gives cfg 54 [encPd p] (.str (textPd p)) := by
  have d := fewPod hf
  have i1 := itoaF_len hs.prio.1 hs.prio.2
  have i2 := itoaF_len hs.most.1 hs.most.2
  obtain ⟨p1, p2⟩ := hs.prio
  obtain ⟨m1, m2⟩ := hs.most
  have n1 := d.name
  have n2 := d.key
  have w1 : p.name.length ≤ 10000 := by omega
  have w2 := dash_len d.owner
  have w3 : (itoaF p.prio).length ≤ 10000 := by omega
  have w4 : (textOf aText p.need).length ≤ 10000 := textOf_len3 d.need fun x hx => by
    have h1 := d.fneed
    simp only [fewA, short1, Bool.and_eq_true, List.all_eq_true, decide_eq_true_eq] at h1
    exact aText_len x (h1.2 x hx) (hs.need x hx)
  have w5 : (textOf pText p.labels).length ≤ 10000 := textOf_len3 d.labels fun x hx => by
    have h1 := d.flabels
    simp only [fewP, Bool.and_eq_true] at h1
    have := few_two h1.2 hx
    exact pText_len x this.1 this.2
  have w6 : (textOf mText p.sel).length ≤ 10000 := textOf_len3 d.sel fun x hx => by
    have h1 := d.fsel
    simp only [fewM, Bool.and_eq_true] at h1
    have := few_two h1.2 hx
    exact mText_len x this.1 this.2
  have w7 : (textOf lText p.tols).length ≤ 10000 := textOf_len3 d.tols fun x hx => by
    have h1 := d.ftols
    simp only [fewL, Bool.and_eq_true] at h1
    have := few_two h1.2 hx
    exact lText_len x this.1 this.2
  have w8 : (p.key ++ [47] ++ itoaF p.most).length ≤ 10000 := by simp; omega
  have w9 := dash_len d.node
  have t1 := aText_any p.need d.fneed hs.need
  have t2 := pText_any p.labels d.flabels
  have t3 := mText_any p.sel d.fsel
  have t4 := lText_any p.tols d.ftols
  refine Gives.run (l54 _ _) ?_
  exact goG 120 []  trivial  (.split ((p.key == []) = true) (fun h1 => .no (show (!p.key == []) = false from by have hh : (p.key == []) = true := h1; simp [hh]) <| .split (p.hold = true) (fun h2 => .yes (show (p.hold) = true from h2) <| .callG ([AV.str p.owner]) (AV.str (dashB p.owner)) (show Gives cfg (129 : FuncId) [AV.str p.owner] (AV.str (dashB p.owner)) from dash_any _) ⟨rfl, rfl⟩ ⟨rfl, rfl⟩ <| .callG ([AV.int IntKind.i64 p.prio]) (AV.str (itoaF p.prio)) (show Gives cfg (69 : FuncId) [AV.int IntKind.i64 p.prio] (AV.str (itoaF p.prio)) from itoa_any _ p1 p2) ⟨rfl, rfl⟩ ⟨rfl, rfl⟩ <| .callG ([AV.sl SK.sh (List.map encA p.need)]) (AV.str (textOf aText p.need)) (show Gives cfg (102 : FuncId) [AV.sl SK.sh (List.map encA p.need)] (AV.str (textOf aText p.need)) from t1) ⟨rfl, rfl⟩ ⟨rfl, rfl⟩ <| .callG ([AV.sl SK.sh (List.map encP p.labels)]) (AV.str (textOf pText p.labels)) (show Gives cfg (103 : FuncId) [AV.sl SK.sh (List.map encP p.labels)] (AV.str (textOf pText p.labels)) from t2) ⟨rfl, rfl⟩ ⟨rfl, rfl⟩ <| .callG ([AV.sl SK.sh (List.map encM p.sel)]) (AV.str (textOf mText p.sel)) (show Gives cfg (68 : FuncId) [AV.sl SK.sh (List.map encM p.sel)] (AV.str (textOf mText p.sel)) from t3) ⟨rfl, rfl⟩ ⟨rfl, rfl⟩ <| .callG ([AV.sl SK.sh (List.map encL p.tols)]) (AV.str (textOf lText p.tols)) (show Gives cfg (130 : FuncId) [AV.sl SK.sh (List.map encL p.tols)] (AV.str (textOf lText p.tols)) from t4) ⟨rfl, rfl⟩ ⟨rfl, rfl⟩ <| .callG ([AV.str p.node]) (AV.str (dashB p.node)) (show Gives cfg (129 : FuncId) [AV.str p.node] (AV.str (dashB p.node)) from dash_any _) ⟨rfl, rfl⟩ ⟨rfl, rfl⟩ <| .callG ([AV.sl SK.full [AV.str p.name, AV.str (dashB p.owner), AV.str (itoaF p.prio), AV.str (textOf aText p.need), AV.str (textOf pText p.labels), AV.str (textOf mText p.sel), AV.str (textOf lText p.tols), AV.str [(45 : UInt8)], AV.str (dashB p.node), AV.str [(104 : UInt8), (111 : UInt8), (108 : UInt8), (100 : UInt8)]], AV.str [(32 : UInt8)]]) (AV.str (Lib.join [p.name, dashB p.owner, itoaF p.prio, textOf aText p.need, textOf pText p.labels, textOf mText p.sel, textOf lText p.tols, [(45 : UInt8)], dashB p.node, [(104 : UInt8), (111 : UInt8), (108 : UInt8), (100 : UInt8)]] [(32 : UInt8)])) (show Gives cfg (101 : FuncId) [AV.sl SK.sh [AV.str p.name, AV.str (dashB p.owner), AV.str (itoaF p.prio), AV.str (textOf aText p.need), AV.str (textOf pText p.labels), AV.str (textOf mText p.sel), AV.str (textOf lText p.tols), AV.str [(45 : UInt8)], AV.str (dashB p.node), AV.str [(104 : UInt8), (111 : UInt8), (108 : UInt8), (100 : UInt8)]], AV.str [(32 : UInt8)]] (AV.str (Lib.join [p.name, dashB p.owner, itoaF p.prio, textOf aText p.need, textOf pText p.labels, textOf mText p.sel, textOf lText p.tols, [(45 : UInt8)], dashB p.node, [(104 : UInt8), (111 : UInt8), (108 : UInt8), (100 : UInt8)]] [(32 : UInt8)])) from join10 _ _ _ _ _ _ _ _ _ _ w1 w2 w3 w4 w5 w6 w7 (by simp) w9 (by simp)) ⟨rfl, rfl⟩ ⟨rfl, rfl⟩ <| .fin ((ARes.ret (AV.str (Lib.join [p.name, dashB p.owner, itoaF p.prio, textOf aText p.need, textOf pText p.labels, textOf mText p.sel, textOf lText p.tols, [(45 : UInt8)], dashB p.node, [(104 : UInt8), (111 : UInt8), (108 : UInt8), (100 : UInt8)]] [(32 : UInt8)])), { boxes := [[AV.str p.name, AV.str p.owner, AV.int IntKind.i64 p.prio, AV.sl SK.sh (List.map encA p.need), AV.sl SK.sh (List.map encP p.labels), AV.sl SK.sh (List.map encM p.sel), AV.sl SK.sh (List.map encL p.tols), AV.str p.key, AV.int IntKind.i64 p.most, AV.str p.node, AV.bool p.hold]], toks := [], loops := [] : Heap })) (by have e1 := h1; simp only [beq_iff_eq] at e1; simp [IsRet, textPd, wordsPd, spreadB, endB, e1, h2])) (fun h2 => .no (show (p.hold) = false from Bool.eq_false_iff.2 (show ¬ (p.hold = true) from h2)) <| .callG ([AV.str p.owner]) (AV.str (dashB p.owner)) (show Gives cfg (129 : FuncId) [AV.str p.owner] (AV.str (dashB p.owner)) from dash_any _) ⟨rfl, rfl⟩ ⟨rfl, rfl⟩ <| .callG ([AV.int IntKind.i64 p.prio]) (AV.str (itoaF p.prio)) (show Gives cfg (69 : FuncId) [AV.int IntKind.i64 p.prio] (AV.str (itoaF p.prio)) from itoa_any _ p1 p2) ⟨rfl, rfl⟩ ⟨rfl, rfl⟩ <| .callG ([AV.sl SK.sh (List.map encA p.need)]) (AV.str (textOf aText p.need)) (show Gives cfg (102 : FuncId) [AV.sl SK.sh (List.map encA p.need)] (AV.str (textOf aText p.need)) from t1) ⟨rfl, rfl⟩ ⟨rfl, rfl⟩ <| .callG ([AV.sl SK.sh (List.map encP p.labels)]) (AV.str (textOf pText p.labels)) (show Gives cfg (103 : FuncId) [AV.sl SK.sh (List.map encP p.labels)] (AV.str (textOf pText p.labels)) from t2) ⟨rfl, rfl⟩ ⟨rfl, rfl⟩ <| .callG ([AV.sl SK.sh (List.map encM p.sel)]) (AV.str (textOf mText p.sel)) (show Gives cfg (68 : FuncId) [AV.sl SK.sh (List.map encM p.sel)] (AV.str (textOf mText p.sel)) from t3) ⟨rfl, rfl⟩ ⟨rfl, rfl⟩ <| .callG ([AV.sl SK.sh (List.map encL p.tols)]) (AV.str (textOf lText p.tols)) (show Gives cfg (130 : FuncId) [AV.sl SK.sh (List.map encL p.tols)] (AV.str (textOf lText p.tols)) from t4) ⟨rfl, rfl⟩ ⟨rfl, rfl⟩ <| .callG ([AV.str p.node]) (AV.str (dashB p.node)) (show Gives cfg (129 : FuncId) [AV.str p.node] (AV.str (dashB p.node)) from dash_any _) ⟨rfl, rfl⟩ ⟨rfl, rfl⟩ <| .callG ([AV.sl SK.full [AV.str p.name, AV.str (dashB p.owner), AV.str (itoaF p.prio), AV.str (textOf aText p.need), AV.str (textOf pText p.labels), AV.str (textOf mText p.sel), AV.str (textOf lText p.tols), AV.str [(45 : UInt8)], AV.str (dashB p.node), AV.str [(114 : UInt8), (101 : UInt8), (97 : UInt8), (108 : UInt8)]], AV.str [(32 : UInt8)]]) (AV.str (Lib.join [p.name, dashB p.owner, itoaF p.prio, textOf aText p.need, textOf pText p.labels, textOf mText p.sel, textOf lText p.tols, [(45 : UInt8)], dashB p.node, [(114 : UInt8), (101 : UInt8), (97 : UInt8), (108 : UInt8)]] [(32 : UInt8)])) (show Gives cfg (101 : FuncId) [AV.sl SK.sh [AV.str p.name, AV.str (dashB p.owner), AV.str (itoaF p.prio), AV.str (textOf aText p.need), AV.str (textOf pText p.labels), AV.str (textOf mText p.sel), AV.str (textOf lText p.tols), AV.str [(45 : UInt8)], AV.str (dashB p.node), AV.str [(114 : UInt8), (101 : UInt8), (97 : UInt8), (108 : UInt8)]], AV.str [(32 : UInt8)]] (AV.str (Lib.join [p.name, dashB p.owner, itoaF p.prio, textOf aText p.need, textOf pText p.labels, textOf mText p.sel, textOf lText p.tols, [(45 : UInt8)], dashB p.node, [(114 : UInt8), (101 : UInt8), (97 : UInt8), (108 : UInt8)]] [(32 : UInt8)])) from join10 _ _ _ _ _ _ _ _ _ _ w1 w2 w3 w4 w5 w6 w7 (by simp) w9 (by simp)) ⟨rfl, rfl⟩ ⟨rfl, rfl⟩ <| .fin ((ARes.ret (AV.str (Lib.join [p.name, dashB p.owner, itoaF p.prio, textOf aText p.need, textOf pText p.labels, textOf mText p.sel, textOf lText p.tols, [(45 : UInt8)], dashB p.node, [(114 : UInt8), (101 : UInt8), (97 : UInt8), (108 : UInt8)]] [(32 : UInt8)])), { boxes := [[AV.str p.name, AV.str p.owner, AV.int IntKind.i64 p.prio, AV.sl SK.sh (List.map encA p.need), AV.sl SK.sh (List.map encP p.labels), AV.sl SK.sh (List.map encM p.sel), AV.sl SK.sh (List.map encL p.tols), AV.str p.key, AV.int IntKind.i64 p.most, AV.str p.node, AV.bool p.hold]], toks := [], loops := [] : Heap })) (by have e1 := h1; simp only [beq_iff_eq] at e1; simp [IsRet, textPd, wordsPd, spreadB, endB, e1, h2]))) (fun h1 => .yes (show (!p.key == []) = true from by have hh : ¬ ((p.key == []) = true) := h1; simp [hh]) <| .bin (show binA BinOp.add (AV.str p.key) (AV.str [(47 : UInt8)]) = some (AV.str (p.key ++ [(47 : UInt8)])) from str_add (by simp; omega)) <| .callG ([AV.int IntKind.i64 p.most]) (AV.str (itoaF p.most)) (show Gives cfg (69 : FuncId) [AV.int IntKind.i64 p.most] (AV.str (itoaF p.most)) from itoa_any _ m1 m2) ⟨rfl, rfl⟩ ⟨rfl, rfl⟩ <| .bin (show binA BinOp.add (AV.str (p.key ++ [(47 : UInt8)])) (AV.str (itoaF p.most)) = some (AV.str (p.key ++ [(47 : UInt8)] ++ itoaF p.most)) from str_add (by simp; omega)) <| .split (p.hold = true) (fun h2 => .yes (show (p.hold) = true from h2) <| .callG ([AV.str p.owner]) (AV.str (dashB p.owner)) (show Gives cfg (129 : FuncId) [AV.str p.owner] (AV.str (dashB p.owner)) from dash_any _) ⟨rfl, rfl⟩ ⟨rfl, rfl⟩ <| .callG ([AV.int IntKind.i64 p.prio]) (AV.str (itoaF p.prio)) (show Gives cfg (69 : FuncId) [AV.int IntKind.i64 p.prio] (AV.str (itoaF p.prio)) from itoa_any _ p1 p2) ⟨rfl, rfl⟩ ⟨rfl, rfl⟩ <| .callG ([AV.sl SK.sh (List.map encA p.need)]) (AV.str (textOf aText p.need)) (show Gives cfg (102 : FuncId) [AV.sl SK.sh (List.map encA p.need)] (AV.str (textOf aText p.need)) from t1) ⟨rfl, rfl⟩ ⟨rfl, rfl⟩ <| .callG ([AV.sl SK.sh (List.map encP p.labels)]) (AV.str (textOf pText p.labels)) (show Gives cfg (103 : FuncId) [AV.sl SK.sh (List.map encP p.labels)] (AV.str (textOf pText p.labels)) from t2) ⟨rfl, rfl⟩ ⟨rfl, rfl⟩ <| .callG ([AV.sl SK.sh (List.map encM p.sel)]) (AV.str (textOf mText p.sel)) (show Gives cfg (68 : FuncId) [AV.sl SK.sh (List.map encM p.sel)] (AV.str (textOf mText p.sel)) from t3) ⟨rfl, rfl⟩ ⟨rfl, rfl⟩ <| .callG ([AV.sl SK.sh (List.map encL p.tols)]) (AV.str (textOf lText p.tols)) (show Gives cfg (130 : FuncId) [AV.sl SK.sh (List.map encL p.tols)] (AV.str (textOf lText p.tols)) from t4) ⟨rfl, rfl⟩ ⟨rfl, rfl⟩ <| .callG ([AV.str p.node]) (AV.str (dashB p.node)) (show Gives cfg (129 : FuncId) [AV.str p.node] (AV.str (dashB p.node)) from dash_any _) ⟨rfl, rfl⟩ ⟨rfl, rfl⟩ <| .callG ([AV.sl SK.full [AV.str p.name, AV.str (dashB p.owner), AV.str (itoaF p.prio), AV.str (textOf aText p.need), AV.str (textOf pText p.labels), AV.str (textOf mText p.sel), AV.str (textOf lText p.tols), AV.str (p.key ++ [(47 : UInt8)] ++ itoaF p.most), AV.str (dashB p.node), AV.str [(104 : UInt8), (111 : UInt8), (108 : UInt8), (100 : UInt8)]], AV.str [(32 : UInt8)]]) (AV.str (Lib.join [p.name, dashB p.owner, itoaF p.prio, textOf aText p.need, textOf pText p.labels, textOf mText p.sel, textOf lText p.tols, p.key ++ [(47 : UInt8)] ++ itoaF p.most, dashB p.node, [(104 : UInt8), (111 : UInt8), (108 : UInt8), (100 : UInt8)]] [(32 : UInt8)])) (show Gives cfg (101 : FuncId) [AV.sl SK.sh [AV.str p.name, AV.str (dashB p.owner), AV.str (itoaF p.prio), AV.str (textOf aText p.need), AV.str (textOf pText p.labels), AV.str (textOf mText p.sel), AV.str (textOf lText p.tols), AV.str (p.key ++ [(47 : UInt8)] ++ itoaF p.most), AV.str (dashB p.node), AV.str [(104 : UInt8), (111 : UInt8), (108 : UInt8), (100 : UInt8)]], AV.str [(32 : UInt8)]] (AV.str (Lib.join [p.name, dashB p.owner, itoaF p.prio, textOf aText p.need, textOf pText p.labels, textOf mText p.sel, textOf lText p.tols, p.key ++ [(47 : UInt8)] ++ itoaF p.most, dashB p.node, [(104 : UInt8), (111 : UInt8), (108 : UInt8), (100 : UInt8)]] [(32 : UInt8)])) from join10 _ _ _ _ _ _ _ _ _ _ w1 w2 w3 w4 w5 w6 w7 w8 w9 (by simp)) ⟨rfl, rfl⟩ ⟨rfl, rfl⟩ <| .fin ((ARes.ret (AV.str (Lib.join [p.name, dashB p.owner, itoaF p.prio, textOf aText p.need, textOf pText p.labels, textOf mText p.sel, textOf lText p.tols, p.key ++ [(47 : UInt8)] ++ itoaF p.most, dashB p.node, [(104 : UInt8), (111 : UInt8), (108 : UInt8), (100 : UInt8)]] [(32 : UInt8)])), { boxes := [[AV.str p.name, AV.str p.owner, AV.int IntKind.i64 p.prio, AV.sl SK.sh (List.map encA p.need), AV.sl SK.sh (List.map encP p.labels), AV.sl SK.sh (List.map encM p.sel), AV.sl SK.sh (List.map encL p.tols), AV.str p.key, AV.int IntKind.i64 p.most, AV.str p.node, AV.bool p.hold]], toks := [], loops := [] : Heap })) (by have e1 := h1; simp only [beq_iff_eq] at e1; simp [IsRet, textPd, wordsPd, spreadB, endB, e1, h2])) (fun h2 => .no (show (p.hold) = false from Bool.eq_false_iff.2 (show ¬ (p.hold = true) from h2)) <| .callG ([AV.str p.owner]) (AV.str (dashB p.owner)) (show Gives cfg (129 : FuncId) [AV.str p.owner] (AV.str (dashB p.owner)) from dash_any _) ⟨rfl, rfl⟩ ⟨rfl, rfl⟩ <| .callG ([AV.int IntKind.i64 p.prio]) (AV.str (itoaF p.prio)) (show Gives cfg (69 : FuncId) [AV.int IntKind.i64 p.prio] (AV.str (itoaF p.prio)) from itoa_any _ p1 p2) ⟨rfl, rfl⟩ ⟨rfl, rfl⟩ <| .callG ([AV.sl SK.sh (List.map encA p.need)]) (AV.str (textOf aText p.need)) (show Gives cfg (102 : FuncId) [AV.sl SK.sh (List.map encA p.need)] (AV.str (textOf aText p.need)) from t1) ⟨rfl, rfl⟩ ⟨rfl, rfl⟩ <| .callG ([AV.sl SK.sh (List.map encP p.labels)]) (AV.str (textOf pText p.labels)) (show Gives cfg (103 : FuncId) [AV.sl SK.sh (List.map encP p.labels)] (AV.str (textOf pText p.labels)) from t2) ⟨rfl, rfl⟩ ⟨rfl, rfl⟩ <| .callG ([AV.sl SK.sh (List.map encM p.sel)]) (AV.str (textOf mText p.sel)) (show Gives cfg (68 : FuncId) [AV.sl SK.sh (List.map encM p.sel)] (AV.str (textOf mText p.sel)) from t3) ⟨rfl, rfl⟩ ⟨rfl, rfl⟩ <| .callG ([AV.sl SK.sh (List.map encL p.tols)]) (AV.str (textOf lText p.tols)) (show Gives cfg (130 : FuncId) [AV.sl SK.sh (List.map encL p.tols)] (AV.str (textOf lText p.tols)) from t4) ⟨rfl, rfl⟩ ⟨rfl, rfl⟩ <| .callG ([AV.str p.node]) (AV.str (dashB p.node)) (show Gives cfg (129 : FuncId) [AV.str p.node] (AV.str (dashB p.node)) from dash_any _) ⟨rfl, rfl⟩ ⟨rfl, rfl⟩ <| .callG ([AV.sl SK.full [AV.str p.name, AV.str (dashB p.owner), AV.str (itoaF p.prio), AV.str (textOf aText p.need), AV.str (textOf pText p.labels), AV.str (textOf mText p.sel), AV.str (textOf lText p.tols), AV.str (p.key ++ [(47 : UInt8)] ++ itoaF p.most), AV.str (dashB p.node), AV.str [(114 : UInt8), (101 : UInt8), (97 : UInt8), (108 : UInt8)]], AV.str [(32 : UInt8)]]) (AV.str (Lib.join [p.name, dashB p.owner, itoaF p.prio, textOf aText p.need, textOf pText p.labels, textOf mText p.sel, textOf lText p.tols, p.key ++ [(47 : UInt8)] ++ itoaF p.most, dashB p.node, [(114 : UInt8), (101 : UInt8), (97 : UInt8), (108 : UInt8)]] [(32 : UInt8)])) (show Gives cfg (101 : FuncId) [AV.sl SK.sh [AV.str p.name, AV.str (dashB p.owner), AV.str (itoaF p.prio), AV.str (textOf aText p.need), AV.str (textOf pText p.labels), AV.str (textOf mText p.sel), AV.str (textOf lText p.tols), AV.str (p.key ++ [(47 : UInt8)] ++ itoaF p.most), AV.str (dashB p.node), AV.str [(114 : UInt8), (101 : UInt8), (97 : UInt8), (108 : UInt8)]], AV.str [(32 : UInt8)]] (AV.str (Lib.join [p.name, dashB p.owner, itoaF p.prio, textOf aText p.need, textOf pText p.labels, textOf mText p.sel, textOf lText p.tols, p.key ++ [(47 : UInt8)] ++ itoaF p.most, dashB p.node, [(114 : UInt8), (101 : UInt8), (97 : UInt8), (108 : UInt8)]] [(32 : UInt8)])) from join10 _ _ _ _ _ _ _ _ _ _ w1 w2 w3 w4 w5 w6 w7 w8 w9 (by simp)) ⟨rfl, rfl⟩ ⟨rfl, rfl⟩ <| .fin ((ARes.ret (AV.str (Lib.join [p.name, dashB p.owner, itoaF p.prio, textOf aText p.need, textOf pText p.labels, textOf mText p.sel, textOf lText p.tols, p.key ++ [(47 : UInt8)] ++ itoaF p.most, dashB p.node, [(114 : UInt8), (101 : UInt8), (97 : UInt8), (108 : UInt8)]] [(32 : UInt8)])), { boxes := [[AV.str p.name, AV.str p.owner, AV.int IntKind.i64 p.prio, AV.sl SK.sh (List.map encA p.need), AV.sl SK.sh (List.map encP p.labels), AV.sl SK.sh (List.map encM p.sel), AV.sl SK.sh (List.map encL p.tols), AV.str p.key, AV.int IntKind.i64 p.most, AV.str p.node, AV.bool p.hold]], toks := [], loops := [] : Heap })) (by have e1 := h1; simp only [beq_iff_eq] at e1; simp [IsRet, textPd, wordsPd, spreadB, endB, e1, h2])))) (by kernel_rfl)
theorem podTells (a b : Pod) (sa : SmallPd a) (sb : SmallPd b) : Gives cfg 12 [encPd a, encPd b] (.bool true) := by
  refine Gives.run (l12 _ _) ?_
  have ha : fewPd a = true → Gives cfg 51 [encPd a] (encPd a) := ofPd_any a
  have hb : fewPd b = true → Gives cfg 51 [encPd b] (encPd b) := ofPd_any b
  have ta : fewPd a = true → Gives cfg 54 [encPd a] (.str (textPd a)) := fun h => textPd_any a h sa
  have tb : fewPd b = true → Gives cfg 54 [encPd b] (.str (textPd b)) := fun h => textPd_any b h sb
  have hs : fewPd a = true → Gives cfg 55 [encPd a, encPd b] (.bool (samePB a b)) := fun h => by
    have d := fewPod h
    exact samePd_any a b (by have := d.need; omega) (by have := d.labels; omega) (by have := d.sel; omega) (by have := d.tols; omega)
  have hx : ckPd a = 0 → ckPd b = 0 → samePB a b = (textPd a == textPd b) := fun h1 h2 => by
    rw [Bool.eq_iff_iff, samePB_iff, beq_iff_eq]
    exact ⟨fun e => by rw [e], fun e => text_inj h1 h2 (fun x hx => (sa.need x hx).2) (fun x hx => (sb.need x hx).2) e⟩
  have ca := ckPd_ref a
  have cb := ckPd_ref b
  generalize ckPd a = c at ca hx
  generalize ckPd b = d at cb hx
  exact goG 120 []  trivial  (.callG ([]) (AV.bool true) (show Gives cfg (46 : FuncId) [] (AV.bool true) from known46') ⟨rfl, rfl⟩ ⟨rfl, rfl⟩ <| .ff <| .callG ([AV.agg [AV.str a.name, AV.str a.owner, AV.int IntKind.i64 a.prio, AV.sl SK.sh (List.map encA a.need), AV.sl SK.sh (List.map encP a.labels), AV.sl SK.sh (List.map encM a.sel), AV.sl SK.sh (List.map encL a.tols), AV.str a.key, AV.int IntKind.i64 a.most, AV.str a.node, AV.bool a.hold]]) (AV.bool (fewPd a)) (show Gives cfg (15 : FuncId) [encPd a] (AV.bool (fewPd a)) from fewPd_any _) ⟨rfl, rfl⟩ ⟨rfl, rfl⟩ <| .split (fewPd a = true) (fun h1 => .no (show (!fewPd a) = false from by have hh : fewPd a = true := h1; simp [hh]) <| .callG ([AV.agg [AV.str b.name, AV.str b.owner, AV.int IntKind.i64 b.prio, AV.sl SK.sh (List.map encA b.need), AV.sl SK.sh (List.map encP b.labels), AV.sl SK.sh (List.map encM b.sel), AV.sl SK.sh (List.map encL b.tols), AV.str b.key, AV.int IntKind.i64 b.most, AV.str b.node, AV.bool b.hold]]) (AV.bool (fewPd b)) (show Gives cfg (15 : FuncId) [encPd b] (AV.bool (fewPd b)) from fewPd_any _) ⟨rfl, rfl⟩ ⟨rfl, rfl⟩ <| .split (fewPd b = true) (fun h2 => .no (show (!fewPd b) = false from by have hh : fewPd b = true := h2; simp [hh]) <| .callG ([AV.agg [AV.str a.name, AV.str a.owner, AV.int IntKind.i64 a.prio, AV.sl SK.sh (List.map encA a.need), AV.sl SK.sh (List.map encP a.labels), AV.sl SK.sh (List.map encM a.sel), AV.sl SK.sh (List.map encL a.tols), AV.str a.key, AV.int IntKind.i64 a.most, AV.str a.node, AV.bool a.hold]]) (AV.agg [AV.str a.name, AV.str a.owner, AV.int IntKind.i64 a.prio, AV.sl SK.sh (List.map encA a.need), AV.sl SK.sh (List.map encP a.labels), AV.sl SK.sh (List.map encM a.sel), AV.sl SK.sh (List.map encL a.tols), AV.str a.key, AV.int IntKind.i64 a.most, AV.str a.node, AV.bool a.hold]) (show Gives cfg (51 : FuncId) [encPd a] (encPd a) from ha h1) ⟨rfl, rfl⟩ ⟨rfl, rfl⟩ <| .callG ([AV.agg [AV.str a.name, AV.str a.owner, AV.int IntKind.i64 a.prio, AV.sl SK.sh (List.map encA a.need), AV.sl SK.sh (List.map encP a.labels), AV.sl SK.sh (List.map encM a.sel), AV.sl SK.sh (List.map encL a.tols), AV.str a.key, AV.int IntKind.i64 a.most, AV.str a.node, AV.bool a.hold]]) (AV.int IntKind.i64 c) (show Gives cfg (53 : FuncId) [encPd a] (AV.int IntKind.i64 c) from ca) ⟨rfl, rfl⟩ ⟨rfl, rfl⟩ <| .split ((c != (0 : Int)) = true) (fun h3 => .yes (show (c != (0 : Int)) = true from h3) <| .tt <| .fin ((ARes.ret (AV.bool true), { boxes := [[AV.str a.name, AV.str a.owner, AV.int IntKind.i64 a.prio, AV.sl SK.sh (List.map encA a.need), AV.sl SK.sh (List.map encP a.labels), AV.sl SK.sh (List.map encM a.sel), AV.sl SK.sh (List.map encL a.tols), AV.str a.key, AV.int IntKind.i64 a.most, AV.str a.node, AV.bool a.hold], [AV.str b.name, AV.str b.owner, AV.int IntKind.i64 b.prio, AV.sl SK.sh (List.map encA b.need), AV.sl SK.sh (List.map encP b.labels), AV.sl SK.sh (List.map encM b.sel), AV.sl SK.sh (List.map encL b.tols), AV.str b.key, AV.int IntKind.i64 b.most, AV.str b.node, AV.bool b.hold]], toks := [], loops := [] : Heap })) rfl) (fun h3 => .no (show (c != (0 : Int)) = false from Bool.eq_false_iff.2 (show ¬ ((c != (0 : Int)) = true) from h3)) <| .callG ([AV.agg [AV.str b.name, AV.str b.owner, AV.int IntKind.i64 b.prio, AV.sl SK.sh (List.map encA b.need), AV.sl SK.sh (List.map encP b.labels), AV.sl SK.sh (List.map encM b.sel), AV.sl SK.sh (List.map encL b.tols), AV.str b.key, AV.int IntKind.i64 b.most, AV.str b.node, AV.bool b.hold]]) (AV.agg [AV.str b.name, AV.str b.owner, AV.int IntKind.i64 b.prio, AV.sl SK.sh (List.map encA b.need), AV.sl SK.sh (List.map encP b.labels), AV.sl SK.sh (List.map encM b.sel), AV.sl SK.sh (List.map encL b.tols), AV.str b.key, AV.int IntKind.i64 b.most, AV.str b.node, AV.bool b.hold]) (show Gives cfg (51 : FuncId) [encPd b] (encPd b) from hb h2) ⟨rfl, rfl⟩ ⟨rfl, rfl⟩ <| .callG ([AV.agg [AV.str b.name, AV.str b.owner, AV.int IntKind.i64 b.prio, AV.sl SK.sh (List.map encA b.need), AV.sl SK.sh (List.map encP b.labels), AV.sl SK.sh (List.map encM b.sel), AV.sl SK.sh (List.map encL b.tols), AV.str b.key, AV.int IntKind.i64 b.most, AV.str b.node, AV.bool b.hold]]) (AV.int IntKind.i64 d) (show Gives cfg (53 : FuncId) [encPd b] (AV.int IntKind.i64 d) from cb) ⟨rfl, rfl⟩ ⟨rfl, rfl⟩ <| .split ((d != (0 : Int)) = true) (fun h4 => .yes (show (d != (0 : Int)) = true from h4) <| .fin ((ARes.ret (AV.bool true), { boxes := [[AV.str a.name, AV.str a.owner, AV.int IntKind.i64 a.prio, AV.sl SK.sh (List.map encA a.need), AV.sl SK.sh (List.map encP a.labels), AV.sl SK.sh (List.map encM a.sel), AV.sl SK.sh (List.map encL a.tols), AV.str a.key, AV.int IntKind.i64 a.most, AV.str a.node, AV.bool a.hold], [AV.str b.name, AV.str b.owner, AV.int IntKind.i64 b.prio, AV.sl SK.sh (List.map encA b.need), AV.sl SK.sh (List.map encP b.labels), AV.sl SK.sh (List.map encM b.sel), AV.sl SK.sh (List.map encL b.tols), AV.str b.key, AV.int IntKind.i64 b.most, AV.str b.node, AV.bool b.hold]], toks := [], loops := [] : Heap })) rfl) (fun h4 => .no (show (d != (0 : Int)) = false from Bool.eq_false_iff.2 (show ¬ ((d != (0 : Int)) = true) from h4)) <| .callG ([AV.agg [AV.str a.name, AV.str a.owner, AV.int IntKind.i64 a.prio, AV.sl SK.sh (List.map encA a.need), AV.sl SK.sh (List.map encP a.labels), AV.sl SK.sh (List.map encM a.sel), AV.sl SK.sh (List.map encL a.tols), AV.str a.key, AV.int IntKind.i64 a.most, AV.str a.node, AV.bool a.hold]]) (AV.str (textPd a)) (show Gives cfg (54 : FuncId) [encPd a] (AV.str (textPd a)) from ta h1) ⟨rfl, rfl⟩ ⟨rfl, rfl⟩ <| .callG ([AV.agg [AV.str b.name, AV.str b.owner, AV.int IntKind.i64 b.prio, AV.sl SK.sh (List.map encA b.need), AV.sl SK.sh (List.map encP b.labels), AV.sl SK.sh (List.map encM b.sel), AV.sl SK.sh (List.map encL b.tols), AV.str b.key, AV.int IntKind.i64 b.most, AV.str b.node, AV.bool b.hold]]) (AV.str (textPd b)) (show Gives cfg (54 : FuncId) [encPd b] (AV.str (textPd b)) from tb h2) ⟨rfl, rfl⟩ ⟨rfl, rfl⟩ <| .callG ([AV.agg [AV.str a.name, AV.str a.owner, AV.int IntKind.i64 a.prio, AV.sl SK.sh (List.map encA a.need), AV.sl SK.sh (List.map encP a.labels), AV.sl SK.sh (List.map encM a.sel), AV.sl SK.sh (List.map encL a.tols), AV.str a.key, AV.int IntKind.i64 a.most, AV.str a.node, AV.bool a.hold], AV.agg [AV.str b.name, AV.str b.owner, AV.int IntKind.i64 b.prio, AV.sl SK.sh (List.map encA b.need), AV.sl SK.sh (List.map encP b.labels), AV.sl SK.sh (List.map encM b.sel), AV.sl SK.sh (List.map encL b.tols), AV.str b.key, AV.int IntKind.i64 b.most, AV.str b.node, AV.bool b.hold]]) (AV.bool (samePB a b)) (show Gives cfg (55 : FuncId) [encPd a, encPd b] (AV.bool (samePB a b)) from hs h1) ⟨rfl, rfl⟩ ⟨rfl, rfl⟩ <| .fin ((ARes.ret (AV.bool (if false = true then !(textPd a == textPd b) == samePB a b else (textPd a == textPd b) == samePB a b)), { boxes := [[AV.str a.name, AV.str a.owner, AV.int IntKind.i64 a.prio, AV.sl SK.sh (List.map encA a.need), AV.sl SK.sh (List.map encP a.labels), AV.sl SK.sh (List.map encM a.sel), AV.sl SK.sh (List.map encL a.tols), AV.str a.key, AV.int IntKind.i64 a.most, AV.str a.node, AV.bool a.hold], [AV.str b.name, AV.str b.owner, AV.int IntKind.i64 b.prio, AV.sl SK.sh (List.map encA b.need), AV.sl SK.sh (List.map encP b.labels), AV.sl SK.sh (List.map encM b.sel), AV.sl SK.sh (List.map encL b.tols), AV.str b.key, AV.int IntKind.i64 b.most, AV.str b.node, AV.bool b.hold]], toks := [], loops := [] : Heap })) (by have e3 := hx (by simpa using h3) (by simpa using h4); simp only [IsRet]; rw [e3]; simp)))) (fun h2 => .yes (show (!fewPd b) = true from by have hh : ¬ (fewPd b = true) := h2; simp [hh]) <| .tt <| .tt <| .fin ((ARes.ret (AV.bool true), { boxes := [[AV.str a.name, AV.str a.owner, AV.int IntKind.i64 a.prio, AV.sl SK.sh (List.map encA a.need), AV.sl SK.sh (List.map encP a.labels), AV.sl SK.sh (List.map encM a.sel), AV.sl SK.sh (List.map encL a.tols), AV.str a.key, AV.int IntKind.i64 a.most, AV.str a.node, AV.bool a.hold], [AV.str b.name, AV.str b.owner, AV.int IntKind.i64 b.prio, AV.sl SK.sh (List.map encA b.need), AV.sl SK.sh (List.map encP b.labels), AV.sl SK.sh (List.map encM b.sel), AV.sl SK.sh (List.map encL b.tols), AV.str b.key, AV.int IntKind.i64 b.most, AV.str b.node, AV.bool b.hold]], toks := [], loops := [] : Heap })) rfl)) (fun h1 => .yes (show (!fewPd a) = true from by have hh : ¬ (fewPd a = true) := h1; simp [hh]) <| .tt <| .tt <| .tt <| .fin ((ARes.ret (AV.bool true), { boxes := [[AV.str a.name, AV.str a.owner, AV.int IntKind.i64 a.prio, AV.sl SK.sh (List.map encA a.need), AV.sl SK.sh (List.map encP a.labels), AV.sl SK.sh (List.map encM a.sel), AV.sl SK.sh (List.map encL a.tols), AV.str a.key, AV.int IntKind.i64 a.most, AV.str a.node, AV.bool a.hold], [AV.str b.name, AV.str b.owner, AV.int IntKind.i64 b.prio, AV.sl SK.sh (List.map encA b.need), AV.sl SK.sh (List.map encP b.labels), AV.sl SK.sh (List.map encM b.sel), AV.sl SK.sh (List.map encL b.tols), AV.str b.key, AV.int IntKind.i64 b.most, AV.str b.node, AV.bool b.hold]], toks := [], loops := [] : Heap })) rfl)) (by kernel_rfl)
end Go.Aa.T

set_option linter.unusedVariables false
set_option linter.unusedSimpArgs false
set_option maxRecDepth 100000
namespace Go.Aa.T
open Go.Aa Go.Proofs
theorem map_of2 {α : Type} {f : α → AV} {Q : AV → Prop} {S : α → Prop} (h : ∀ y, Q y → ∃ x, y = f x ∧ S x) : ∀ (l : List AV), (∀ y ∈ l, Q y) → ∃ t : List α, l = t.map f ∧ ∀ x ∈ t, S x
  | [], _ => ⟨[], rfl, by simp⟩
  | y :: l, hl => by
    obtain ⟨x, rfl, hx⟩ := h y (hl y (by simp))
    obtain ⟨t, rfl, ht⟩ := map_of2 h l (fun z hz => hl z (by simp [hz]))
    exact ⟨x :: t, rfl, by simpa using ⟨hx, ht⟩⟩
theorem i64_range {m : Int} (h : (Lit.int .i64 m).wf = true) : -9223372036854775808 ≤ m ∧ m ≤ 9223372036854775807 := by
  have h' : IntKind.i64.min ≤ m ∧ m ≤ IntKind.i64.max := by simpa [Lit.wf, IntKind.has] using h
  have e1 : IntKind.i64.min = -9223372036854775808 := rfl
  have e2 : IntKind.i64.max = 9223372036854775807 := rfl
  omega
theorem tys2 {R : TypeId → List AV → Prop} {f1 f2 : Field} {cs : List AV} (h : Tys R (#[f1, f2] : Array Field).toList cs) : ∃ a1 a2, cs = a1 ++ (a2) ∧ R f1.type a1 ∧ R f2.type a2 := by
  obtain ⟨a1, b1, rfl, h1, a2, b2, rfl, h2, e⟩ := (show Tys R [f1, f2] cs from h)
  cases e
  exact ⟨a1, a2, by simp, h1, h2⟩
theorem tys3 {R : TypeId → List AV → Prop} {f1 f2 f3 : Field} {cs : List AV} (h : Tys R (#[f1, f2, f3] : Array Field).toList cs) : ∃ a1 a2 a3, cs = a1 ++ (a2 ++ (a3)) ∧ R f1.type a1 ∧ R f2.type a2 ∧ R f3.type a3 := by
  obtain ⟨a1, b1, rfl, h1, a2, b2, rfl, h2, a3, b3, rfl, h3, e⟩ := (show Tys R [f1, f2, f3] cs from h)
  cases e
  exact ⟨a1, a2, a3, by simp, h1, h2, h3⟩
theorem tys11 {R : TypeId → List AV → Prop} {f1 f2 f3 f4 f5 f6 f7 f8 f9 f10 f11 : Field} {cs : List AV} (h : Tys R (#[f1, f2, f3, f4, f5, f6, f7, f8, f9, f10, f11] : Array Field).toList cs) : ∃ a1 a2 a3 a4 a5 a6 a7 a8 a9 a10 a11, cs = a1 ++ (a2 ++ (a3 ++ (a4 ++ (a5 ++ (a6 ++ (a7 ++ (a8 ++ (a9 ++ (a10 ++ (a11)))))))))) ∧ R f1.type a1 ∧ R f2.type a2 ∧ R f3.type a3 ∧ R f4.type a4 ∧ R f5.type a5 ∧ R f6.type a6 ∧ R f7.type a7 ∧ R f8.type a8 ∧ R f9.type a9 ∧ R f10.type a10 ∧ R f11.type a11 := by
  obtain ⟨a1, b1, rfl, h1, a2, b2, rfl, h2, a3, b3, rfl, h3, a4, b4, rfl, h4, a5, b5, rfl, h5, a6, b6, rfl, h6, a7, b7, rfl, h7, a8, b8, rfl, h8, a9, b9, rfl, h9, a10, b10, rfl, h10, a11, b11, rfl, h11, e⟩ := (show Tys R [f1, f2, f3, f4, f5, f6, f7, f8, f9, f10, f11] cs from h)
  cases e
  exact ⟨a1, a2, a3, a4, a5, a6, a7, a8, a9, a10, a11, by simp, h1, h2, h3, h4, h5, h6, h7, h8, h9, h10, h11⟩
theorem ty100 {k : Nat} {y : AV} (h : TyV Tryz.prog (k + 2) 100 y) : ∃ x : Amount, y = encA x ∧ (-9223372036854775808 ≤ x.n ∧ x.n ≤ 9223372036854775807) := by
  obtain ⟨cs, rfl, hh⟩ := tyv_struct Tryz.underlying100 h
  obtain ⟨a1, a2, rfl, h1, h2⟩ := tys2 hh
  obtain ⟨s1, rfl, -⟩ := ty_string Tryz.underlying9 h1
  obtain ⟨s2, rfl, w2⟩ := ty_int Tryz.underlying2 h2
  have r2 := i64_range w2
  exact ⟨⟨s1, s2⟩, rfl, r2⟩
theorem ty28s {k : Nat} {y : List AV} (h : Ty Tryz.prog (k + 3) 28 y) : ∃ t : List Amount, y = [.sl .sh (t.map encA)] ∧ ∀ x ∈ t, -9223372036854775808 ≤ x.n ∧ x.n ≤ 9223372036854775807 := by
  obtain ⟨l, rfl, -, hl⟩ := ty_slice Tryz.underlying28 h
  obtain ⟨t, rfl, hs⟩ := map_of2 (S := fun x : Amount => -9223372036854775808 ≤ x.n ∧ x.n ≤ 9223372036854775807) (fun y hy => ty100 hy) l hl
  exact ⟨t, rfl, hs⟩
theorem ty64 {k : Nat} {y : AV} (h : TyV Tryz.prog (k + 2) 64 y) : ∃ x : Pair, y = encP x ∧ (True) := by
  obtain ⟨cs, rfl, hh⟩ := tyv_struct Tryz.underlying64 h
  obtain ⟨a1, a2, rfl, h1, h2⟩ := tys2 hh
  obtain ⟨s1, rfl, -⟩ := ty_string Tryz.underlying9 h1
  obtain ⟨s2, rfl, -⟩ := ty_string Tryz.underlying9 h2
  exact ⟨⟨s1, s2⟩, rfl, trivial⟩
theorem ty30s {k : Nat} {y : List AV} (h : Ty Tryz.prog (k + 3) 30 y) : ∃ t : List Pair, y = [.sl .sh (t.map encP)] ∧ ∀ x ∈ t, True := by
  obtain ⟨l, rfl, -, hl⟩ := ty_slice Tryz.underlying30 h
  obtain ⟨t, rfl, hs⟩ := map_of2 (S := fun x : Pair => True) (fun y hy => ty64 hy) l hl
  exact ⟨t, rfl, hs⟩
theorem ty66 {k : Nat} {y : AV} (h : TyV Tryz.prog (k + 2) 66 y) : ∃ x : Term, y = encM x ∧ (True) := by
  obtain ⟨cs, rfl, hh⟩ := tyv_struct Tryz.underlying66 h
  obtain ⟨a1, a2, a3, rfl, h1, h2, h3⟩ := tys3 hh
  obtain ⟨s1, rfl, w1⟩ := ty_int Tryz.underlying3 h1
  have r1 := i64_range w1
  obtain ⟨s2, rfl, -⟩ := ty_string Tryz.underlying9 h2
  obtain ⟨s3, rfl, -⟩ := ty_string Tryz.underlying9 h3
  exact ⟨⟨s1, s2, s3⟩, rfl, trivial⟩
theorem ty32s {k : Nat} {y : List AV} (h : Ty Tryz.prog (k + 3) 32 y) : ∃ t : List Term, y = [.sl .sh (t.map encM)] ∧ ∀ x ∈ t, True := by
  obtain ⟨l, rfl, -, hl⟩ := ty_slice Tryz.underlying32 h
  obtain ⟨t, rfl, hs⟩ := map_of2 (S := fun x : Term => True) (fun y hy => ty66 hy) l hl
  exact ⟨t, rfl, hs⟩
theorem ty198 {k : Nat} {y : AV} (h : TyV Tryz.prog (k + 2) 198 y) : ∃ x : Tol, y = encL x ∧ (True) := by
  obtain ⟨cs, rfl, hh⟩ := tyv_struct Tryz.underlying198 h
  obtain ⟨a1, a2, a3, rfl, h1, h2, h3⟩ := tys3 hh
  obtain ⟨s1, rfl, -⟩ := ty_string Tryz.underlying9 h1
  obtain ⟨s2, rfl, -⟩ := ty_string Tryz.underlying9 h2
  obtain ⟨s3, rfl⟩ := ty_bool Tryz.underlying4 h3
  exact ⟨⟨s1, s2, s3⟩, rfl, trivial⟩
theorem ty33s {k : Nat} {y : List AV} (h : Ty Tryz.prog (k + 3) 33 y) : ∃ t : List Tol, y = [.sl .sh (t.map encL)] ∧ ∀ x ∈ t, True := by
  obtain ⟨l, rfl, -, hl⟩ := ty_slice Tryz.underlying33 h
  obtain ⟨t, rfl, hs⟩ := map_of2 (S := fun x : Tol => True) (fun y hy => ty198 hy) l hl
  exact ⟨t, rfl, hs⟩
theorem ty35 {k : Nat} {y : AV} (h : TyV Tryz.prog (k + 4) 35 y) : ∃ x : Pod, y = encPd x ∧ (SmallPd x) := by
  obtain ⟨cs, rfl, hh⟩ := tyv_struct Tryz.underlying35 h
  obtain ⟨a1, a2, a3, a4, a5, a6, a7, a8, a9, a10, a11, rfl, h1, h2, h3, h4, h5, h6, h7, h8, h9, h10, h11⟩ := tys11 hh
  obtain ⟨s1, rfl, -⟩ := ty_string Tryz.underlying9 h1
  obtain ⟨s2, rfl, -⟩ := ty_string Tryz.underlying9 h2
  obtain ⟨s3, rfl, w3⟩ := ty_int Tryz.underlying3 h3
  have r3 := i64_range w3
  obtain ⟨s4, rfl, w4⟩ := ty28s h4
  obtain ⟨s5, rfl, w5⟩ := ty30s h5
  obtain ⟨s6, rfl, w6⟩ := ty32s h6
  obtain ⟨s7, rfl, w7⟩ := ty33s h7
  obtain ⟨s8, rfl, -⟩ := ty_string Tryz.underlying9 h8
  obtain ⟨s9, rfl, w9⟩ := ty_int Tryz.underlying3 h9
  have r9 := i64_range w9
  obtain ⟨s10, rfl, -⟩ := ty_string Tryz.underlying9 h10
  obtain ⟨s11, rfl⟩ := ty_bool Tryz.underlying4 h11
  exact ⟨⟨s1, s2, s3, s4, s5, s6, s7, s8, s9, s10, s11⟩, rfl, ⟨w4, r3, r9⟩⟩
end Go.Aa.T

set_option linter.unusedVariables false
set_option linter.unusedSimpArgs false
set_option maxRecDepth 100000
namespace Go.Aa.T
open Go.Aa Go.Proofs
end Go.Aa.T

set_option linter.unusedVariables false
set_option linter.unusedSimpArgs false
set_option maxRecDepth 100000
namespace Go.Aa.T
open Go.Aa Go.Proofs
theorem law12 (xs : List AV) (h : TyAll Tryz.prog 5 [35, 35] xs) (hz : SzAll Tryz.prog [35, 35] xs) : ∃ H', lim cfg (.fn 12) xs Heap.nil = some (.ret (.bool true), H') := by
  obtain ⟨x1, x2, rfl, h1, h2⟩ := tyall_2 h
  obtain ⟨a, rfl, sa⟩ := ty35 (k := 1) h1
  obtain ⟨b, rfl, sb⟩ := ty35 (k := 1) h2
  exact (podTells a b sa sb).ret
end Go.Aa.T

set_option linter.unusedVariables false
set_option linter.unusedSimpArgs false
namespace Go.Aa
variable {P : Program}
theorem grown_add : ∀ (a b : Nat) (s : List TypeId), P.grown (a + b) s = P.grown b (P.grown a s)
  | 0, b, s => by rw [Nat.zero_add]; rfl
  | a + 1, b, s => by
    rw [show a + 1 + b = (a + b) + 1 by omega]
    exact grown_add a b (P.grow s)
theorem grown_fix {s : List TypeId} (h : P.grow s = s) : ∀ n, P.grown n s = s
  | 0 => rfl
  | n + 1 => by
    show P.grown n (P.grow s) = s
    rw [h]; exact grown_fix h n
def stableB (P : Program) (d : Nat) (t : TypeId) : Bool := P.grow (P.grown d [t]) == P.grown d [t]
theorem book_eq {d : Nat} {t : TypeId} (hd : Nat.ble d P.types.size = true) (h : stableB P d t = true) : P.book t = P.grown d [t] := by
  have h' : P.grow (P.grown d [t]) = P.grown d [t] := by simpa [stableB] using h
  unfold Program.book
  obtain ⟨b, hb⟩ := Nat.exists_eq_add_of_le (Nat.le_of_ble_eq_true hd)
  rw [hb, grown_add, grown_fix h']
def loopsB (P : Program) (d : Nat) (t : TypeId) : Bool := (P.grown d [t]).all fun u => (P.partsOf u).all fun v => stableB P d v && !(P.grown d [v]).contains u
theorem loops_of {d : Nat} {t : TypeId} (hd : Nat.ble d P.types.size = true) (h0 : stableB P d t = true) (h : loopsB P d t = true) : P.loopsFrom t = false := by
  unfold Program.loopsFrom
  rw [book_eq hd h0, List.any_eq_false]
  intro u hu
  have h1 := List.all_eq_true.1 h u hu
  simp only [Bool.not_eq_true]
  rw [List.any_eq_false]
  intro v hv
  have h2 := List.all_eq_true.1 h1 v hv
  simp only [Bool.and_eq_true, Bool.not_eq_true'] at h2
  rw [book_eq hd h2.1, h2.2]
  exact Bool.false_ne_true
theorem loops_all {d : Nat} : ∀ {ts : List TypeId}, Nat.ble d P.types.size = true → (ts.all fun t => stableB P d t && loopsB P d t) = true → ts.any (P.loopsFrom ·) = false := by
  intro ts hd h
  rw [List.any_eq_false]
  intro t ht
  have h1 := List.all_eq_true.1 h t ht
  simp only [Bool.and_eq_true] at h1
  rw [loops_of hd h1.1 h1.2]
  exact Bool.false_ne_true
end Go.Aa

set_option linter.unusedVariables false
set_option linter.unusedSimpArgs false
set_option maxRecDepth 100000
namespace Go.Aa.T
open Go.Aa Go.Proofs Go.RowKit Go.ChangeShapes Go.Proofs.YtppplbpilpjokaaGreatDoor
theorem star : "*" ++ "errors.errorString" = "*errors.errorString" := by decide
theorem rowES (u : TypeId) (h : Tryz.prog.typeName? 3 u = some "*errors.errorString") : u = 331 :=
  typeName_ptr_named (nm := "errors.errorString") (by rw [star]; kernel_rfl) (by kernel_rfl) (by decide) u (by rw [star]; exact h)
theorem var_heap {P : Program} {W : World} {n : String} {cs : Array Value} {g : Nat} (h : W.var? P n = some cs) (hg : P.globalNamed n = some g) : ∃ e m, W.heap[g]? = some (.cells cs e m) := by
  simp only [World.var?, hg, Option.bind_some] at h
  split at h
  · rename_i cs' e m hc
    cases h
    exact ⟨e, m, hc⟩
  · cases h
def laidL : List (String × DataW Unit) := Rows.podEdgesRow.laid
theorem pow_eq : (Rows.laid_internal_strconv_uint64pow10 : DataW Unit) = Lib.tabData .u64 Lib.pow10Tab := by kernel_rfl
theorem cellsES : Tryz.prog.cellsOf 333 = 1 := by kernel_rfl
theorem cellsS : Tryz.prog.cellsOf 9 = 1 := by kernel_rfl
theorem glob0Z {W : World} (h : laidMet Tryz.prog laidL W) : Glob0 Tryz.prog W := by
  have h2 := laidMet.tail (laidMet.tail h)
  have ht : Lib.TabIs Tryz.prog W "internal/strconv.uint64pow10" .u64 Lib.pow10Tab := by
    have h3 : laidMet Tryz.prog (("internal/strconv.uint64pow10", Rows.laid_internal_strconv_uint64pow10) :: _) W := h2
    rw [pow_eq] at h3
    exact Lib.tabIs_of_head (g := 1) (t := 303) (n := 20) (by kernel_rfl) (by kernel_rfl) Tryz.underlying303 Tryz.underlying282 (by kernel_rfl) (by kernel_rfl) h3
  have h4 := laidMet.tail (laidMet.tail h2)
  obtain ⟨a1, s1, hv1, -, -, -⟩ := laid_sentinel h4 (g := 5) (ti := 238) (tp := 331) (te := 333) (ts := 9) (by kernel_rfl) (by kernel_rfl) Tryz.underlying238 rowES Tryz.underlying331 Tryz.underlying333 rfl rfl Tryz.underlying9 cellsES cellsS
  have h5 := laidMet.tail h4
  obtain ⟨a2, s2, hv2, -, -, -⟩ := laid_sentinel h5 (g := 4) (ti := 238) (tp := 331) (te := 333) (ts := 9) (by kernel_rfl) (by kernel_rfl) Tryz.underlying238 rowES Tryz.underlying331 Tryz.underlying333 rfl rfl Tryz.underlying9 cellsES cellsS
  intro s hs g hg
  simp only [globSpec, List.mem_cons, List.not_mem_nil, or_false] at hs
  rcases hs with rfl | rfl | rfl
  · obtain ⟨e, m, hh⟩ := var_heap ht hg
    exact ⟨_, e, m, hh, rfl⟩
  · obtain ⟨e, m, hh⟩ := var_heap hv2 hg
    exact ⟨_, e, m, hh, _, _, rfl⟩
  · obtain ⟨e, m, hh⟩ := var_heap hv1 hg
    exact ⟨_, e, m, hh, _, _, rfl⟩
end Go.Aa.T
