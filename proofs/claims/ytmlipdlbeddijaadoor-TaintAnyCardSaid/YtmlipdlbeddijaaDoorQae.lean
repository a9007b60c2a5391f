/-
  WHAT THE LAW LEANS ON, part 5 of 5: a machine of values and its soundness; the functions of the law upon it; what they come to.
-/
import Derived.Test.YtmlipdlbeddijaaDoorQad

set_option linter.unusedVariables false
set_option linter.unusedSimpArgs false
set_option maxRecDepth 100000
namespace Go.Aa.T
open Go.Aa Go.Proofs
def tText (x : Taint) : List UInt8 := if x.hard then x.key ++ [58] ++ x.val ++ [33] else x.key ++ [58] ++ x.val
def lText (x : Tol) : List UInt8 := if x.any then (if x.key = [] then [42] else x.key) else (if x.key = [] then [42] else x.key) ++ [58] ++ x.val
def textOf {α : Type} (f : α → List UInt8) (l : List α) : List UInt8 := if l.isEmpty then [45] else Lib.join (l.map f) [44]
theorem tail_len : ∀ (r : List (List UInt8)), (∀ s ∈ r, s.length ≤ 103) → (Lib.joinTail [44] r).length ≤ r.length * 104
  | [], _ => by simp [Lib.joinTail]
  | s :: r, h => by
    have h1 := h s (by simp)
    have h2 := tail_len r (fun y hy => h y (by simp [hy]))
    simp only [Lib.joinTail, List.map_cons, List.flatten_cons, List.length_append, List.length_cons, List.length_nil] at h2 ⊢
    omega
theorem join_len (ss : List (List UInt8)) (h : ∀ s ∈ ss, s.length ≤ 103) (hn : ss.length ≤ 20) : (Lib.join ss [44]).length ≤ 3000 := by
  cases ss with
  | nil => simp [Lib.join_nil]
  | cons x r =>
    rw [Lib.join_cons, List.length_append]
    have h1 := h x (by simp)
    have h2 := tail_len r (fun y hy => h y (by simp [hy]))
    simp only [List.length_cons] at hn
    omega
theorem strsA_map (ss : List (List UInt8)) : strsA (ss.map AV.str) = some ss := by
  induction ss with
  | nil => rfl
  | cons s ss ih => simp [strsA, ih]
theorem join_any (ss : List (List UInt8)) (h1 : ss.length ≤ 140737488355328) (h2 : (Lib.join ss [44]).length ≤ 140737488355328) : Gives cfg 99 [.sl .sh (ss.map AV.str), .str [44]] (.str (Lib.join ss [44])) := by
  refine Gives.of (H' := Heap.nil) ?_
  rw [lim_ext (g := joinE) rfl rfl]
  have : joinE [.sl .sh (ss.map AV.str), .str [44]] Heap.nil = some (.str (Lib.join ss [44]), Heap.nil) := by
    simp only [joinE, strsA_map]
    exact if_pos ⟨h1, h2⟩
  rw [this]; rfl
theorem lenSt {l : List (List UInt8)} : lenOk 1 (l.map AV.str) = true := lenOk_map fun _ => rfl

theorem joined_loop (ss : List (List UInt8)) (total : List UInt8) (hb : total.length ≤ 4611686018427387904) (hn : ss.length ≤ 20) : ∀ (post : List (List UInt8)) (i : Nat) (s : List UInt8) (hd : ss.drop i = post) (hs : s ++ Lib.joinTail [44] post = total) (T : Env)
    (hT : Has T [(0, .sl .sh (ss.map AV.str)), (3, .str s), (4, .int .i64 i)]),
    Goes cfg a67 k67_0 T Heap.nil (IsRet (.str total)) := by
  intro post
  induction post with
  | nil =>
    intro i s hd hs T hT
    have hge := drop_ge hd
    have e : s = total := by simpa [Lib.joinTail] using hs
    subst e
    exact goG 60 _  hT  (.len (show lenA false (AV.sl SK.sh (List.map AV.str ss)) = some (AV.int IntKind.i64 (↑ss.length : Int)) from len_map _) <| .no (show (decide ((↑i : Int) < (↑ss.length : Int))) = false from decide_eq_false (show ¬ ((↑i : Int) < (↑ss.length : Int)) from (by omega))) <| .fin ((ARes.ret (AV.str s), Heap.mk [] [] [])) rfl) (by kernel_rfl)
  | cons y post ih =>
    intro i s hd hs T hT
    have hlt := drop_lt hd
    have hnx := drop_next hd
    have hlen : s.length + 1 + y.length ≤ 4611686018427387904 := by
      rw [← hs] at hb
      simp only [Lib.joinTail, List.map_cons, List.flatten_cons, List.length_append, List.length_cons, List.length_nil] at hb
      omega
    have hs2 : s ++ [44] ++ y ++ Lib.joinTail [44] post = total := by rw [← hs]; simp [Lib.joinTail]
    exact goG 60 _  hT  (.len (show lenA false (AV.sl SK.sh (List.map AV.str ss)) = some (AV.int IntKind.i64 (↑ss.length : Int)) from len_map _) <| .yes (show (decide ((↑i : Int) < (↑ss.length : Int))) = true from decide_eq_true (show (↑i : Int) < (↑ss.length : Int) from (by simp; omega))) <| .bin (show binA BinOp.add (AV.str s) (AV.str [(44 : UInt8)]) = some (AV.str (s ++ [(44 : UInt8)])) from str_add (by simp; omega)) <| .idx (show idxA (1 : Nat) (AV.sl SK.sh (List.map AV.str ss)) (AV.int IntKind.i64 (↑i : Int)) = some (AV.ref (AV.str y).cells) from idx_row hd (by rfl)) <| .bin (show binA BinOp.add (AV.str (s ++ [(44 : UInt8)])) (AV.str y) = some (AV.str (s ++ [(44 : UInt8)] ++ y)) from str_add (by simp; omega)) <| .bin (show binA BinOp.add (AV.int IntKind.i64 (↑i : Int)) (AV.int IntKind.i64 (1 : Int)) = some (AV.int IntKind.i64 (↑(i + (1 : Nat)) : Int)) from inc_i (by omega)) <| .cutQ k67_0 [(0, AV.sl SK.sh (List.map AV.str ss)), (3, AV.str (s ++ [(44 : UInt8)] ++ y)), (4, AV.int IntKind.i64 (↑(i + (1 : Nat)) : Int))] (Heap.mk [] [] []) (fun T hT => (ih (i + (1 : Nat)) (s ++ [(44 : UInt8)] ++ y) hnx hs2 T hT))) (by kernel_rfl)
theorem joined_any (ss : List (List UInt8)) (hn : ss.length ≤ 20) (hb : (Lib.join ss [44]).length ≤ 3000) : Gives cfg 67 [.sl .sh (ss.map AV.str)] (.str (textOf id ss)) := by
  refine Gives.run (l67 _ _) ?_
  by_cases hs : ss = []
  · subst hs
    exact goG 60 []  trivial  (.len (show lenA false (AV.sl SK.sh []) = some (AV.int IntKind.i64 (↑[].length : Int)) from len_sl _ _) <| .tt <| .fin ((ARes.ret (AV.str [(45 : UInt8)]), Heap.mk [] [] [])) rfl) (by kernel_rfl)
  · obtain ⟨x, r, e⟩ := List.exists_cons_of_ne_nil hs
    have hp : 0 < ss.length := List.length_pos_iff.2 hs
    have h0 : ss[0]? = some x := by rw [e]; rfl
    have hd1 : ss.drop 1 = r := by rw [e]; rfl
    have h := fun hb hn => joined_loop ss (Lib.join ss [44]) hb hn r 1 x hd1 (by rw [e]; exact (Lib.join_cons x r [44]).symm)
    have e : textOf id ss = Lib.join ss [44] := by simp [textOf, hs]
    rw [e]
    exact goG 60 []  trivial  (.len (show lenA false (AV.sl SK.sh (List.map AV.str ss)) = some (AV.int IntKind.i64 (↑ss.length : Int)) from len_map _) <| .no (show ((↑ss.length : Int) == (0 : Int)) = false from beq_eq_false_iff_ne.2 (show ¬ ((↑ss.length : Int) = (0 : Int)) from (by simp at *; omega))) <| .idx (show idxA (1 : Nat) (AV.sl SK.sh (List.map AV.str ss)) (AV.int IntKind.i64 (0 : Int)) = some (AV.ref (AV.str x).cells) from idx_zero h0 (by rfl)) <| .cutQ k67_0 [(0, AV.sl SK.sh (List.map AV.str ss)), (3, AV.str x), (4, AV.int IntKind.i64 (1 : Int))] (Heap.mk [] [] []) (fun T hT => (h (by simp at *; omega) hn T hT))) (by kernel_rfl)

theorem tText_len (x : Taint) (hk : x.key.length ≤ 50) (hv : x.val.length ≤ 50) : (tText x).length ≤ 103 := by
  unfold tText
  repeat' split
  all_goals (try simp)
  all_goals omega
theorem tText_one (x : Taint) (hk : x.key.length ≤ 50) (hv : x.val.length ≤ 50) : Gives cfg 66 [encT x] (.str (tText x)) := by
  refine Gives.run (l66 _ _) ?_
  exact goG 60 []  trivial  (.split (x.hard = true) (fun g1 => .yes (show (x.hard) = true from g1) <| .bin (show binA BinOp.add (AV.str x.key) (AV.str [(58 : UInt8)]) = some (AV.str (x.key ++ [(58 : UInt8)])) from str_add (by simp; omega)) <| .bin (show binA BinOp.add (AV.str (x.key ++ [(58 : UInt8)])) (AV.str x.val) = some (AV.str (x.key ++ [(58 : UInt8)] ++ x.val)) from str_add (by simp; omega)) <| .bin (show binA BinOp.add (AV.str (x.key ++ [(58 : UInt8)] ++ x.val)) (AV.str [(33 : UInt8)]) = some (AV.str (x.key ++ [(58 : UInt8)] ++ x.val ++ [(33 : UInt8)])) from str_add (by simp; omega)) <| .fin ((ARes.ret (AV.str (x.key ++ [(58 : UInt8)] ++ x.val ++ [(33 : UInt8)])), Heap.mk [[AV.str x.key, AV.str x.val, AV.bool x.hard]] [] [])) (by simp [IsRet, tText, *])) (fun g1 => .no (show (x.hard) = false from Bool.eq_false_iff.2 (show ¬ (x.hard = true) from g1)) <| .bin (show binA BinOp.add (AV.str x.key) (AV.str [(58 : UInt8)]) = some (AV.str (x.key ++ [(58 : UInt8)])) from str_add (by simp; omega)) <| .bin (show binA BinOp.add (AV.str (x.key ++ [(58 : UInt8)])) (AV.str x.val) = some (AV.str (x.key ++ [(58 : UInt8)] ++ x.val)) from str_add (by simp; omega)) <| .fin ((ARes.ret (AV.str (x.key ++ [(58 : UInt8)] ++ x.val)), Heap.mk [[AV.str x.key, AV.str x.val, AV.bool x.hard]] [] [])) (by simp [IsRet, tText, *]))) (by kernel_rfl)
theorem tText_loop (l : List Taint) (hn : l.length ≤ 20) (hf : ∀ x ∈ l, x.key.length ≤ 50 ∧ x.val.length ≤ 50) (hj : (Lib.join (l.map tText) [44]).length ≤ 3000) : ∀ (post : List Taint) (i : Nat) (acc : List (List UInt8)) (bs : List (List AV)) (hd : l.drop i = post) (ha : acc.length = i) (hall : acc ++ post.map tText = l.map tText) (T : Env)
    (hT : Has T [(1, .func 66 []), (5, rowS Heap.nil (acc.map AV.str)), (11, .sl .sh (l.map encT)), (12, .int .i64 l.length), (13, .int .i64 i)]),
    Goes cfg a65 k65_0 T (rowH ⟨bs, [], []⟩ (acc.map AV.str)) (IsRet (.str (Lib.join (l.map tText) [44]))) := by
  intro post
  induction post with
  | nil =>
    intro i acc bs hd ha hall T hT
    have hge := drop_ge hd
    have e : acc = l.map tText := by simpa using hall
    subst e
    exact goG 60 _  hT  (.no (show (decide ((↑i : Int) < (↑l.length : Int))) = false from decide_eq_false (show ¬ ((↑i : Int) < (↑l.length : Int)) from (by simp; omega))) <| .callG ([rowS Heap.nil (List.map AV.str (List.map tText l)), AV.str [(44 : UInt8)]]) (AV.str (Lib.join (List.map tText l) [(44 : UInt8)])) (show Gives cfg (99 : FuncId) [AV.sl SK.sh (List.map AV.str (List.map tText l)), AV.str [(44 : UInt8)]] (AV.str (Lib.join (List.map tText l) [(44 : UInt8)])) from join_any _ (by simp; omega) (by omega)) Shuts.p ⟨rfl, rfl⟩ <| .fin ((ARes.ret (AV.str (Lib.join (List.map tText l) [(44 : UInt8)])), rowH (Heap.mk bs [] []) (List.map AV.str (List.map tText l)))) rfl) (by kernel_rfl)
  | cons x post ih =>
    intro i acc bs hd ha hall T hT
    have hlt := drop_lt hd
    have hnx := drop_next hd
    obtain ⟨hk, hv⟩ := hf x (drop_mem hd)
    have hall2 : (acc ++ [tText x]) ++ post.map tText = l.map tText := by rw [← hall]; simp
    exact goG 60 _  hT  (.yes (show (decide ((↑i : Int) < (↑l.length : Int))) = true from decide_eq_true (show (↑i : Int) < (↑l.length : Int) from (by simp; omega))) <| .idx (show idxA (3 : Nat) (AV.sl SK.sh (List.map encT l)) (AV.int IntKind.i64 (↑i : Int)) = some (AV.ref (encT x).cells) from idx_row hd (by rfl)) <| .load (row_load (ys := List.map AV.str acc) (show loadA true (3 : Nat) (Heap.mk bs [] []) (AV.ref [AV.str x.key, AV.str x.val, AV.bool x.hard]) = some (AV.agg [AV.str x.key, AV.str x.val, AV.bool x.hard]) from rfl)) <| .boxR (AV.agg [AV.str [], AV.str [], AV.bool false]) (Heap.mk bs [] []) (List.map AV.str acc) rfl <| .store (row_store (ys := List.map AV.str acc) (show storeA (3 : Nat) (Heap.mk (bs ++ [[AV.str [], AV.str [], AV.bool false]]) [] []) (AV.ptr (Heap.mk bs [] []).boxes.length (0 : Nat)) (AV.agg [AV.str x.key, AV.str x.val, AV.bool x.hard]) = some (Heap.mk (bs ++ [[AV.str x.key, AV.str x.val, AV.bool x.hard]]) [] []) from store_box2 (cs := [AV.str [], AV.str [], AV.bool false]) (cs' := [AV.str x.key, AV.str x.val, AV.bool x.hard]) (by simp [List.set_append]) rfl (by simp [List.set_append]))) <| .load (row_load (ys := List.map AV.str acc) (show loadA true (3 : Nat) (Heap.mk (bs ++ [[AV.str x.key, AV.str x.val, AV.bool x.hard]]) [] []) (AV.ptr (Heap.mk bs [] []).boxes.length (0 : Nat)) = some (AV.agg [AV.str x.key, AV.str x.val, AV.bool x.hard]) from load_box (cs := [AV.str x.key, AV.str x.val, AV.bool x.hard]) (by simp [List.set_append]) rfl)) <| .callG ([AV.agg [AV.str x.key, AV.str x.val, AV.bool x.hard]]) (AV.str (tText x)) (show Gives cfg (66 : FuncId) [encT x] (AV.str (tText x)) from tText_one _ hk hv) ⟨rfl, rfl⟩ ⟨rfl, rfl⟩ <| .append (show appendA (1 : Nat) (16 : Nat) (rowH (Heap.mk (bs ++ [[AV.str x.key, AV.str x.val, AV.bool x.hard]]) [] []) (List.map AV.str acc)) (rowS Heap.nil (List.map AV.str acc)) (AV.sl SK.full [AV.str (tText x)]) = some ((rowS Heap.nil (List.map AV.str (acc ++ [tText x])), rowH (Heap.mk (bs ++ [[AV.str x.key, AV.str x.val, AV.bool x.hard]]) [] []) (List.map AV.str (acc ++ [tText x])))) from row_append_B (by simp; omega) (by exact lenSt) (by rfl) (by rfl)) <| .bin (show binA BinOp.add (AV.int IntKind.i64 (↑i : Int)) (AV.int IntKind.i64 (1 : Int)) = some (AV.int IntKind.i64 (↑(i + (1 : Nat)) : Int)) from inc_i (by omega)) <| .cutQ k65_0 [(1, AV.func (66 : FuncId) []), (5, rowS Heap.nil (List.map AV.str (acc ++ [tText x]))), (11, AV.sl SK.sh (List.map encT l)), (12, AV.int IntKind.i64 (↑l.length : Int)), (13, AV.int IntKind.i64 (↑(i + (1 : Nat)) : Int))] (rowH (Heap.mk (bs ++ [[AV.str x.key, AV.str x.val, AV.bool x.hard]]) [] []) (List.map AV.str (acc ++ [tText x]))) (fun T hT => (ih (i + (1 : Nat)) (acc ++ [tText x]) (bs ++ [[AV.str x.key, AV.str x.val, AV.bool x.hard]]) hnx (by simp; omega) hall2 T hT))) (by kernel_rfl)
theorem tText_any (l : List Taint) (hf : fewT l = true) : Gives cfg 26 [.sl .sh (l.map encT)] (.str (textOf tText l)) := by
  have hn := fewT_len hf
  have hf2 : ∀ x ∈ l, x.key.length ≤ 50 ∧ x.val.length ≤ 50 := by
    simp only [fewT, few, Bool.and_eq_true, List.all_eq_true, decide_eq_true_eq] at hf
    exact hf.2
  have hj : (Lib.join (l.map tText) [44]).length ≤ 3000 := join_len _ (by
    intro s hs
    obtain ⟨x, hx, rfl⟩ := List.mem_map.1 hs
    exact tText_len x (hf2 x hx).1 (hf2 x hx).2) (by simpa using hn)
  have hjoin : Gives cfg 65 [.sl .sh (l.map encT), .func 66 []] (.str (textOf tText l)) := by
    refine Gives.run (l65 _ _) ?_
    have h := tText_loop l hn hf2 hj l 0 [] [] rfl rfl rfl
    by_cases hl : l = []
    · subst hl
      exact goG 60 []  trivial  (.len (show lenA false (AV.sl SK.sh []) = some (AV.int IntKind.i64 (↑[].length : Int)) from len_sl _ _) <| .tt <| .fin ((ARes.ret (AV.str [(45 : UInt8)]), Heap.mk [] [] [])) rfl) (by kernel_rfl)
    · have hp : 0 < l.length := List.length_pos_iff.2 hl
      have e : textOf tText l = Lib.join (l.map tText) [44] := by simp [textOf, hl]
      rw [e]
      exact goG 60 []  trivial  (.len (show lenA false (AV.sl SK.sh (List.map encT l)) = some (AV.int IntKind.i64 (↑l.length : Int)) from len_map _) <| .no (show ((↑l.length : Int) == (0 : Int)) = false from beq_eq_false_iff_ne.2 (show ¬ ((↑l.length : Int) = (0 : Int)) from (by omega))) <| .len (show lenA false (AV.sl SK.sh (List.map encT l)) = some (AV.int IntKind.i64 (↑l.length : Int)) from len_map _) <| .cutQ k65_0 [(1, AV.func (66 : FuncId) []), (5, AV.sl SK.full []), (11, AV.sl SK.sh (List.map encT l)), (12, AV.int IntKind.i64 (↑l.length : Int)), (13, AV.int IntKind.i64 (0 : Int))] (Heap.mk [] [] []) (fun T hT => (h T hT))) (by kernel_rfl)
  refine Gives.run (l26 _ _) ?_
  exact goG 60 []  trivial  (.callG ([AV.sl SK.sh (List.map encT l), AV.func (66 : FuncId) []]) (AV.str (textOf tText l)) (show Gives cfg (65 : FuncId) [AV.sl SK.sh (List.map encT l), AV.func (66 : FuncId) []] (AV.str (textOf tText l)) from hjoin) ⟨rfl, rfl⟩ ⟨rfl, rfl⟩ <| .fin ((ARes.ret (AV.str (textOf tText l)), Heap.mk [] [] [])) rfl) (by kernel_rfl)
theorem tText_ref_loop (l : List Taint) (hn : l.length ≤ 20) (hf : ∀ x ∈ l, x.key.length ≤ 50 ∧ x.val.length ≤ 50) (hj : (Lib.join (l.map tText) [44]).length ≤ 3000) : ∀ (post : List Taint) (i : Nat) (acc : List (List UInt8)) (hd : l.drop i = post) (ha : acc.length = i) (hall : acc ++ post.map tText = l.map tText) (T : Env)
    (hT : Has T [(0, .sl .sh (l.map encT)), (3, rowS Heap.nil (acc.map AV.str)), (4, .int .i64 i)]),
    Goes cfg a27 k27_0 T (rowH Heap.nil (acc.map AV.str)) (IsRet (.str (textOf tText l))) := by
  intro post
  induction post with
  | nil =>
    intro i acc hd ha hall T hT
    have hge := drop_ge hd
    have e : acc = l.map tText := by simpa using hall
    subst e
    have hj2 : Gives cfg 67 [.sl .sh ((l.map tText).map AV.str)] (.str (textOf tText l)) := by
      have := joined_any (l.map tText) (by simpa using hn) hj
      cases l with
      | nil => exact this
      | cons => simpa [textOf] using this
    exact goG 60 _  hT  (.len (show lenA false (AV.sl SK.sh (List.map encT l)) = some (AV.int IntKind.i64 (↑l.length : Int)) from len_map _) <| .no (show (decide ((↑i : Int) < (↑l.length : Int))) = false from decide_eq_false (show ¬ ((↑i : Int) < (↑l.length : Int)) from (by simp; omega))) <| .callG ([rowS Heap.nil (List.map AV.str (List.map tText l))]) (AV.str (textOf tText l)) (show Gives cfg (67 : FuncId) [AV.sl SK.sh (List.map AV.str (List.map tText l))] (AV.str (textOf tText l)) from hj2) Shuts.p ⟨rfl, rfl⟩ <| .fin ((ARes.ret (AV.str (textOf tText l)), rowH Heap.nil (List.map AV.str (List.map tText l)))) rfl) (by kernel_rfl)
  | cons x post ih =>
    intro i acc hd ha hall T hT
    have hlt := drop_lt hd
    have hnx := drop_next hd
    obtain ⟨hk, hv⟩ := hf x (drop_mem hd)
    have hall2 : (acc ++ [tText x]) ++ post.map tText = l.map tText := by rw [← hall]; simp
    exact goG 90 _  hT  (.len (show lenA false (AV.sl SK.sh (List.map encT l)) = some (AV.int IntKind.i64 (↑l.length : Int)) from len_map _) <| .yes (show (decide ((↑i : Int) < (↑l.length : Int))) = true from decide_eq_true (show (↑i : Int) < (↑l.length : Int) from (by simp; omega))) <| .idx (show idxA (3 : Nat) (AV.sl SK.sh (List.map encT l)) (AV.int IntKind.i64 (↑i : Int)) = some (AV.ref (encT x).cells) from idx_row hd (by rfl)) <| .load (row_load (ys := List.map AV.str acc) (show loadA false (1 : Nat) Heap.nil (AV.ref [AV.str x.key]) = some (AV.str x.key) from rfl)) <| .bin (show binA BinOp.add (AV.str x.key) (AV.str [(58 : UInt8)]) = some (AV.str (x.key ++ [(58 : UInt8)])) from str_add (by simp; omega)) <| .idx (show idxA (3 : Nat) (AV.sl SK.sh (List.map encT l)) (AV.int IntKind.i64 (↑i : Int)) = some (AV.ref (encT x).cells) from idx_row hd (by rfl)) <| .load (row_load (ys := List.map AV.str acc) (show loadA false (1 : Nat) Heap.nil (AV.ref [AV.str x.val]) = some (AV.str x.val) from rfl)) <| .bin (show binA BinOp.add (AV.str (x.key ++ [(58 : UInt8)])) (AV.str x.val) = some (AV.str (x.key ++ [(58 : UInt8)] ++ x.val)) from str_add (by simp; omega)) <| .idx (show idxA (3 : Nat) (AV.sl SK.sh (List.map encT l)) (AV.int IntKind.i64 (↑i : Int)) = some (AV.ref (encT x).cells) from idx_row hd (by rfl)) <| .load (row_load (ys := List.map AV.str acc) (show loadA false (1 : Nat) Heap.nil (AV.ref [AV.bool x.hard]) = some (AV.bool x.hard) from rfl)) <| .split (x.hard = true) (fun g1 => .yes (show (x.hard) = true from g1) <| .bin (show binA BinOp.add (AV.str (x.key ++ [(58 : UInt8)] ++ x.val)) (AV.str [(33 : UInt8)]) = some (AV.str (x.key ++ [(58 : UInt8)] ++ x.val ++ [(33 : UInt8)])) from str_add (by simp; omega)) <| .append (show appendA (1 : Nat) (16 : Nat) (rowH Heap.nil (List.map AV.str acc)) (rowS Heap.nil (List.map AV.str acc)) (AV.sl SK.full [AV.str (x.key ++ [(58 : UInt8)] ++ x.val ++ [(33 : UInt8)])]) = some ((rowS Heap.nil (List.map AV.str (acc ++ [x.key ++ [(58 : UInt8)] ++ x.val ++ [(33 : UInt8)]])), rowH Heap.nil (List.map AV.str (acc ++ [x.key ++ [(58 : UInt8)] ++ x.val ++ [(33 : UInt8)]])))) from row_append_map (by simp; omega) (by exact lenSt) (by rfl) (by rfl)) <| .bin (show binA BinOp.add (AV.int IntKind.i64 (↑i : Int)) (AV.int IntKind.i64 (1 : Int)) = some (AV.int IntKind.i64 (↑(i + (1 : Nat)) : Int)) from inc_i (by omega)) <| .cutQ k27_0 [(0, AV.sl SK.sh (List.map encT l)), (3, rowS Heap.nil (List.map AV.str (acc ++ [x.key ++ [(58 : UInt8)] ++ x.val ++ [(33 : UInt8)]]))), (4, AV.int IntKind.i64 (↑(i + (1 : Nat)) : Int))] (rowH Heap.nil (List.map AV.str (acc ++ [x.key ++ [(58 : UInt8)] ++ x.val ++ [(33 : UInt8)]]))) (fun T hT => (ih (i + (1 : Nat)) (acc ++ [x.key ++ [(58 : UInt8)] ++ x.val ++ [(33 : UInt8)]]) hnx (by simp; omega) (by refine Eq.trans ?_ hall2; clear hall hall2 ih hT hj hf; simp [tText, *]) T hT))) (fun g1 => .no (show (x.hard) = false from Bool.eq_false_iff.2 (show ¬ (x.hard = true) from g1)) <| .append (show appendA (1 : Nat) (16 : Nat) (rowH Heap.nil (List.map AV.str acc)) (rowS Heap.nil (List.map AV.str acc)) (AV.sl SK.full [AV.str (x.key ++ [(58 : UInt8)] ++ x.val)]) = some ((rowS Heap.nil (List.map AV.str (acc ++ [x.key ++ [(58 : UInt8)] ++ x.val])), rowH Heap.nil (List.map AV.str (acc ++ [x.key ++ [(58 : UInt8)] ++ x.val])))) from row_append_map (by simp; omega) (by exact lenSt) (by rfl) (by rfl)) <| .bin (show binA BinOp.add (AV.int IntKind.i64 (↑i : Int)) (AV.int IntKind.i64 (1 : Int)) = some (AV.int IntKind.i64 (↑(i + (1 : Nat)) : Int)) from inc_i (by omega)) <| .cutQ k27_0 [(0, AV.sl SK.sh (List.map encT l)), (3, rowS Heap.nil (List.map AV.str (acc ++ [x.key ++ [(58 : UInt8)] ++ x.val]))), (4, AV.int IntKind.i64 (↑(i + (1 : Nat)) : Int))] (rowH Heap.nil (List.map AV.str (acc ++ [x.key ++ [(58 : UInt8)] ++ x.val]))) (fun T hT => (ih (i + (1 : Nat)) (acc ++ [x.key ++ [(58 : UInt8)] ++ x.val]) hnx (by simp; omega) (by refine Eq.trans ?_ hall2; clear hall hall2 ih hT hj hf; simp [tText, *]) T hT)))) (by kernel_rfl)
theorem tText_ref (l : List Taint) (hf : fewT l = true) : Gives cfg 27 [.sl .sh (l.map encT)] (.str (textOf tText l)) := by
  have hn := fewT_len hf
  have hf2 : ∀ x ∈ l, x.key.length ≤ 50 ∧ x.val.length ≤ 50 := by
    simp only [fewT, few, Bool.and_eq_true, List.all_eq_true, decide_eq_true_eq] at hf
    exact hf.2
  have hj : (Lib.join (l.map tText) [44]).length ≤ 3000 := join_len _ (by
    intro s hs
    obtain ⟨x, hx, rfl⟩ := List.mem_map.1 hs
    exact tText_len x (hf2 x hx).1 (hf2 x hx).2) (by simpa using hn)
  refine Gives.run (l27 _ _) ?_
  have h := tText_ref_loop l hn hf2 hj l 0 [] rfl rfl rfl
  exact goG 60 []  trivial  (.cutQ k27_0 [(0, AV.sl SK.sh (List.map encT l)), (3, AV.sl SK.full []), (4, AV.int IntKind.i64 (0 : Int))] (Heap.mk [] [] []) (fun T hT => (h T hT))) (by kernel_rfl)

theorem lText_len (x : Tol) (hk : x.key.length ≤ 50) (hv : x.val.length ≤ 50) : (lText x).length ≤ 103 := by
  unfold lText
  repeat' split
  all_goals (try simp)
  all_goals omega
theorem lText_one (x : Tol) (hk : x.key.length ≤ 50) (hv : x.val.length ≤ 50) : Gives cfg 69 [encL x] (.str (lText x)) := by
  refine Gives.run (l69 _ _) ?_
  exact goG 60 []  trivial  (.split (x.key = []) (fun g1 => .yes (show (x.key == []) = true from beq_iff_eq.2 (show x.key = [] from g1)) <| .split (x.any = true) (fun g2 => .yes (show (x.any) = true from g2) <| .fin ((ARes.ret (AV.str [(42 : UInt8)]), Heap.mk [[AV.str x.key, AV.str x.val, AV.bool x.any]] [] [])) (by simp [IsRet, lText, *])) (fun g2 => .no (show (x.any) = false from Bool.eq_false_iff.2 (show ¬ (x.any = true) from g2)) <| .bin (show binA BinOp.add (AV.str [(42 : UInt8)]) (AV.str [(58 : UInt8)]) = some (AV.str [(42 : UInt8), (58 : UInt8)]) from rfl) <| .bin (show binA BinOp.add (AV.str [(42 : UInt8), (58 : UInt8)]) (AV.str x.val) = some (AV.str ([(42 : UInt8), (58 : UInt8)] ++ x.val)) from str_add (by simp; omega)) <| .fin ((ARes.ret (AV.str ((42 : UInt8) :: (58 : UInt8) :: x.val)), Heap.mk [[AV.str x.key, AV.str x.val, AV.bool x.any]] [] [])) (by simp [IsRet, lText, *]))) (fun g1 => .no (show (x.key == []) = false from beq_eq_false_iff_ne.2 (show ¬ (x.key = []) from g1)) <| .split (x.any = true) (fun g2 => .yes (show (x.any) = true from g2) <| .fin ((ARes.ret (AV.str x.key), Heap.mk [[AV.str x.key, AV.str x.val, AV.bool x.any]] [] [])) (by simp [IsRet, lText, *])) (fun g2 => .no (show (x.any) = false from Bool.eq_false_iff.2 (show ¬ (x.any = true) from g2)) <| .bin (show binA BinOp.add (AV.str x.key) (AV.str [(58 : UInt8)]) = some (AV.str (x.key ++ [(58 : UInt8)])) from str_add (by simp; omega)) <| .bin (show binA BinOp.add (AV.str (x.key ++ [(58 : UInt8)])) (AV.str x.val) = some (AV.str (x.key ++ [(58 : UInt8)] ++ x.val)) from str_add (by simp; omega)) <| .fin ((ARes.ret (AV.str (x.key ++ [(58 : UInt8)] ++ x.val)), Heap.mk [[AV.str x.key, AV.str x.val, AV.bool x.any]] [] [])) (by simp [IsRet, lText, *])))) (by kernel_rfl)
theorem lText_loop (l : List Tol) (hn : l.length ≤ 20) (hf : ∀ x ∈ l, x.key.length ≤ 50 ∧ x.val.length ≤ 50) (hj : (Lib.join (l.map lText) [44]).length ≤ 3000) : ∀ (post : List Tol) (i : Nat) (acc : List (List UInt8)) (bs : List (List AV)) (hd : l.drop i = post) (ha : acc.length = i) (hall : acc ++ post.map lText = l.map lText) (T : Env)
    (hT : Has T [(1, .func 69 []), (5, rowS Heap.nil (acc.map AV.str)), (11, .sl .sh (l.map encL)), (12, .int .i64 l.length), (13, .int .i64 i)]),
    Goes cfg a68 k68_0 T (rowH ⟨bs, [], []⟩ (acc.map AV.str)) (IsRet (.str (Lib.join (l.map lText) [44]))) := by
  intro post
  induction post with
  | nil =>
    intro i acc bs hd ha hall T hT
    have hge := drop_ge hd
    have e : acc = l.map lText := by simpa using hall
    subst e
    exact goG 60 _  hT  (.no (show (decide ((↑i : Int) < (↑l.length : Int))) = false from decide_eq_false (show ¬ ((↑i : Int) < (↑l.length : Int)) from (by simp; omega))) <| .callG ([rowS Heap.nil (List.map AV.str (List.map lText l)), AV.str [(44 : UInt8)]]) (AV.str (Lib.join (List.map lText l) [(44 : UInt8)])) (show Gives cfg (99 : FuncId) [AV.sl SK.sh (List.map AV.str (List.map lText l)), AV.str [(44 : UInt8)]] (AV.str (Lib.join (List.map lText l) [(44 : UInt8)])) from join_any _ (by simp; omega) (by omega)) Shuts.p ⟨rfl, rfl⟩ <| .fin ((ARes.ret (AV.str (Lib.join (List.map lText l) [(44 : UInt8)])), rowH (Heap.mk bs [] []) (List.map AV.str (List.map lText l)))) rfl) (by kernel_rfl)
  | cons x post ih =>
    intro i acc bs hd ha hall T hT
    have hlt := drop_lt hd
    have hnx := drop_next hd
    obtain ⟨hk, hv⟩ := hf x (drop_mem hd)
    have hall2 : (acc ++ [lText x]) ++ post.map lText = l.map lText := by rw [← hall]; simp
    exact goG 60 _  hT  (.yes (show (decide ((↑i : Int) < (↑l.length : Int))) = true from decide_eq_true (show (↑i : Int) < (↑l.length : Int) from (by simp; omega))) <| .idx (show idxA (3 : Nat) (AV.sl SK.sh (List.map encL l)) (AV.int IntKind.i64 (↑i : Int)) = some (AV.ref (encL x).cells) from idx_row hd (by rfl)) <| .load (row_load (ys := List.map AV.str acc) (show loadA true (3 : Nat) (Heap.mk bs [] []) (AV.ref [AV.str x.key, AV.str x.val, AV.bool x.any]) = some (AV.agg [AV.str x.key, AV.str x.val, AV.bool x.any]) from rfl)) <| .boxR (AV.agg [AV.str [], AV.str [], AV.bool false]) (Heap.mk bs [] []) (List.map AV.str acc) rfl <| .store (row_store (ys := List.map AV.str acc) (show storeA (3 : Nat) (Heap.mk (bs ++ [[AV.str [], AV.str [], AV.bool false]]) [] []) (AV.ptr (Heap.mk bs [] []).boxes.length (0 : Nat)) (AV.agg [AV.str x.key, AV.str x.val, AV.bool x.any]) = some (Heap.mk (bs ++ [[AV.str x.key, AV.str x.val, AV.bool x.any]]) [] []) from store_box2 (cs := [AV.str [], AV.str [], AV.bool false]) (cs' := [AV.str x.key, AV.str x.val, AV.bool x.any]) (by simp [List.set_append]) rfl (by simp [List.set_append]))) <| .load (row_load (ys := List.map AV.str acc) (show loadA true (3 : Nat) (Heap.mk (bs ++ [[AV.str x.key, AV.str x.val, AV.bool x.any]]) [] []) (AV.ptr (Heap.mk bs [] []).boxes.length (0 : Nat)) = some (AV.agg [AV.str x.key, AV.str x.val, AV.bool x.any]) from load_box (cs := [AV.str x.key, AV.str x.val, AV.bool x.any]) (by simp [List.set_append]) rfl)) <| .callG ([AV.agg [AV.str x.key, AV.str x.val, AV.bool x.any]]) (AV.str (lText x)) (show Gives cfg (69 : FuncId) [encL x] (AV.str (lText x)) from lText_one _ hk hv) ⟨rfl, rfl⟩ ⟨rfl, rfl⟩ <| .append (show appendA (1 : Nat) (16 : Nat) (rowH (Heap.mk (bs ++ [[AV.str x.key, AV.str x.val, AV.bool x.any]]) [] []) (List.map AV.str acc)) (rowS Heap.nil (List.map AV.str acc)) (AV.sl SK.full [AV.str (lText x)]) = some ((rowS Heap.nil (List.map AV.str (acc ++ [lText x])), rowH (Heap.mk (bs ++ [[AV.str x.key, AV.str x.val, AV.bool x.any]]) [] []) (List.map AV.str (acc ++ [lText x])))) from row_append_B (by simp; omega) (by exact lenSt) (by rfl) (by rfl)) <| .bin (show binA BinOp.add (AV.int IntKind.i64 (↑i : Int)) (AV.int IntKind.i64 (1 : Int)) = some (AV.int IntKind.i64 (↑(i + (1 : Nat)) : Int)) from inc_i (by omega)) <| .cutQ k68_0 [(1, AV.func (69 : FuncId) []), (5, rowS Heap.nil (List.map AV.str (acc ++ [lText x]))), (11, AV.sl SK.sh (List.map encL l)), (12, AV.int IntKind.i64 (↑l.length : Int)), (13, AV.int IntKind.i64 (↑(i + (1 : Nat)) : Int))] (rowH (Heap.mk (bs ++ [[AV.str x.key, AV.str x.val, AV.bool x.any]]) [] []) (List.map AV.str (acc ++ [lText x]))) (fun T hT => (ih (i + (1 : Nat)) (acc ++ [lText x]) (bs ++ [[AV.str x.key, AV.str x.val, AV.bool x.any]]) hnx (by simp; omega) hall2 T hT))) (by kernel_rfl)
theorem lText_any (l : List Tol) (hf : fewL l = true) : Gives cfg 28 [.sl .sh (l.map encL)] (.str (textOf lText l)) := by
  have hn := fewL_len hf
  have hf2 : ∀ x ∈ l, x.key.length ≤ 50 ∧ x.val.length ≤ 50 := by
    simp only [fewL, few, Bool.and_eq_true, List.all_eq_true, decide_eq_true_eq] at hf
    exact hf.2
  have hj : (Lib.join (l.map lText) [44]).length ≤ 3000 := join_len _ (by
    intro s hs
    obtain ⟨x, hx, rfl⟩ := List.mem_map.1 hs
    exact lText_len x (hf2 x hx).1 (hf2 x hx).2) (by simpa using hn)
  have hjoin : Gives cfg 68 [.sl .sh (l.map encL), .func 69 []] (.str (textOf lText l)) := by
    refine Gives.run (l68 _ _) ?_
    have h := lText_loop l hn hf2 hj l 0 [] [] rfl rfl rfl
    by_cases hl : l = []
    · subst hl
      exact goG 60 []  trivial  (.len (show lenA false (AV.sl SK.sh []) = some (AV.int IntKind.i64 (↑[].length : Int)) from len_sl _ _) <| .tt <| .fin ((ARes.ret (AV.str [(45 : UInt8)]), Heap.mk [] [] [])) rfl) (by kernel_rfl)
    · have hp : 0 < l.length := List.length_pos_iff.2 hl
      have e : textOf lText l = Lib.join (l.map lText) [44] := by simp [textOf, hl]
      rw [e]
      exact goG 60 []  trivial  (.len (show lenA false (AV.sl SK.sh (List.map encL l)) = some (AV.int IntKind.i64 (↑l.length : Int)) from len_map _) <| .no (show ((↑l.length : Int) == (0 : Int)) = false from beq_eq_false_iff_ne.2 (show ¬ ((↑l.length : Int) = (0 : Int)) from (by omega))) <| .len (show lenA false (AV.sl SK.sh (List.map encL l)) = some (AV.int IntKind.i64 (↑l.length : Int)) from len_map _) <| .cutQ k68_0 [(1, AV.func (69 : FuncId) []), (5, AV.sl SK.full []), (11, AV.sl SK.sh (List.map encL l)), (12, AV.int IntKind.i64 (↑l.length : Int)), (13, AV.int IntKind.i64 (0 : Int))] (Heap.mk [] [] []) (fun T hT => (h T hT))) (by kernel_rfl)
  refine Gives.run (l28 _ _) ?_
  exact goG 60 []  trivial  (.callG ([AV.sl SK.sh (List.map encL l), AV.func (69 : FuncId) []]) (AV.str (textOf lText l)) (show Gives cfg (68 : FuncId) [AV.sl SK.sh (List.map encL l), AV.func (69 : FuncId) []] (AV.str (textOf lText l)) from hjoin) ⟨rfl, rfl⟩ ⟨rfl, rfl⟩ <| .fin ((ARes.ret (AV.str (textOf lText l)), Heap.mk [] [] [])) rfl) (by kernel_rfl)
theorem lText_ref_loop (l : List Tol) (hn : l.length ≤ 20) (hf : ∀ x ∈ l, x.key.length ≤ 50 ∧ x.val.length ≤ 50) (hj : (Lib.join (l.map lText) [44]).length ≤ 3000) : ∀ (post : List Tol) (i : Nat) (acc : List (List UInt8)) (hd : l.drop i = post) (ha : acc.length = i) (hall : acc ++ post.map lText = l.map lText) (T : Env)
    (hT : Has T [(0, .sl .sh (l.map encL)), (3, rowS Heap.nil (acc.map AV.str)), (4, .int .i64 i)]),
    Goes cfg a29 k29_0 T (rowH Heap.nil (acc.map AV.str)) (IsRet (.str (textOf lText l))) := by
  intro post
  induction post with
  | nil =>
    intro i acc hd ha hall T hT
    have hge := drop_ge hd
    have e : acc = l.map lText := by simpa using hall
    subst e
    have hj2 : Gives cfg 67 [.sl .sh ((l.map lText).map AV.str)] (.str (textOf lText l)) := by
      have := joined_any (l.map lText) (by simpa using hn) hj
      cases l with
      | nil => exact this
      | cons => simpa [textOf] using this
    exact goG 60 _  hT  (.len (show lenA false (AV.sl SK.sh (List.map encL l)) = some (AV.int IntKind.i64 (↑l.length : Int)) from len_map _) <| .no (show (decide ((↑i : Int) < (↑l.length : Int))) = false from decide_eq_false (show ¬ ((↑i : Int) < (↑l.length : Int)) from (by simp; omega))) <| .callG ([rowS Heap.nil (List.map AV.str (List.map lText l))]) (AV.str (textOf lText l)) (show Gives cfg (67 : FuncId) [AV.sl SK.sh (List.map AV.str (List.map lText l))] (AV.str (textOf lText l)) from hj2) Shuts.p ⟨rfl, rfl⟩ <| .fin ((ARes.ret (AV.str (textOf lText l)), rowH Heap.nil (List.map AV.str (List.map lText l)))) rfl) (by kernel_rfl)
  | cons x post ih =>
    intro i acc hd ha hall T hT
    have hlt := drop_lt hd
    have hnx := drop_next hd
    obtain ⟨hk, hv⟩ := hf x (drop_mem hd)
    have hall2 : (acc ++ [lText x]) ++ post.map lText = l.map lText := by rw [← hall]; simp
    exact goG 90 _  hT  (.len (show lenA false (AV.sl SK.sh (List.map encL l)) = some (AV.int IntKind.i64 (↑l.length : Int)) from len_map _) <| .yes (show (decide ((↑i : Int) < (↑l.length : Int))) = true from decide_eq_true (show (↑i : Int) < (↑l.length : Int) from (by simp; omega))) <| .idx (show idxA (3 : Nat) (AV.sl SK.sh (List.map encL l)) (AV.int IntKind.i64 (↑i : Int)) = some (AV.ref (encL x).cells) from idx_row hd (by rfl)) <| .load (row_load (ys := List.map AV.str acc) (show loadA false (1 : Nat) Heap.nil (AV.ref [AV.str x.key]) = some (AV.str x.key) from rfl)) <| .split (x.key = []) (fun g1 => .yes (show (x.key == []) = true from beq_iff_eq.2 (show x.key = [] from g1)) <| .idx (show idxA (3 : Nat) (AV.sl SK.sh (List.map encL l)) (AV.int IntKind.i64 (↑i : Int)) = some (AV.ref (encL x).cells) from idx_row hd (by rfl)) <| .load (row_load (ys := List.map AV.str acc) (show loadA false (1 : Nat) Heap.nil (AV.ref [AV.bool x.any]) = some (AV.bool x.any) from rfl)) <| .split (x.any = true) (fun g2 => .no (show (!x.any) = false from not_f (show x.any = true from g2)) <| .append (show appendA (1 : Nat) (16 : Nat) (rowH Heap.nil (List.map AV.str acc)) (rowS Heap.nil (List.map AV.str acc)) (AV.sl SK.full [AV.str [(42 : UInt8)]]) = some ((rowS Heap.nil (List.map AV.str (acc ++ [[(42 : UInt8)]])), rowH Heap.nil (List.map AV.str (acc ++ [[(42 : UInt8)]])))) from row_append_map (by simp; omega) (by exact lenSt) (by rfl) (by rfl)) <| .bin (show binA BinOp.add (AV.int IntKind.i64 (↑i : Int)) (AV.int IntKind.i64 (1 : Int)) = some (AV.int IntKind.i64 (↑(i + (1 : Nat)) : Int)) from inc_i (by omega)) <| .cutQ k29_0 [(0, AV.sl SK.sh (List.map encL l)), (3, rowS Heap.nil (List.map AV.str (acc ++ [[(42 : UInt8)]]))), (4, AV.int IntKind.i64 (↑(i + (1 : Nat)) : Int))] (rowH Heap.nil (List.map AV.str (acc ++ [[(42 : UInt8)]]))) (fun T hT => (ih (i + (1 : Nat)) (acc ++ [[(42 : UInt8)]]) hnx (by simp; omega) (by refine Eq.trans ?_ hall2; clear hall hall2 ih hT hj hf; simp [lText, *]) T hT))) (fun g2 => .yes (show (!x.any) = true from not_t (show ¬ (x.any = true) from g2)) <| .bin (show binA BinOp.add (AV.str [(42 : UInt8)]) (AV.str [(58 : UInt8)]) = some (AV.str [(42 : UInt8), (58 : UInt8)]) from rfl) <| .idx (show idxA (3 : Nat) (AV.sl SK.sh (List.map encL l)) (AV.int IntKind.i64 (↑i : Int)) = some (AV.ref (encL x).cells) from idx_row hd (by rfl)) <| .load (row_load (ys := List.map AV.str acc) (show loadA false (1 : Nat) Heap.nil (AV.ref [AV.str x.val]) = some (AV.str x.val) from rfl)) <| .bin (show binA BinOp.add (AV.str [(42 : UInt8), (58 : UInt8)]) (AV.str x.val) = some (AV.str ([(42 : UInt8), (58 : UInt8)] ++ x.val)) from str_add (by simp; omega)) <| .append (show appendA (1 : Nat) (16 : Nat) (rowH Heap.nil (List.map AV.str acc)) (rowS Heap.nil (List.map AV.str acc)) (AV.sl SK.full [AV.str ((42 : UInt8) :: (58 : UInt8) :: x.val)]) = some ((rowS Heap.nil (List.map AV.str (acc ++ [(42 : UInt8) :: (58 : UInt8) :: x.val])), rowH Heap.nil (List.map AV.str (acc ++ [(42 : UInt8) :: (58 : UInt8) :: x.val])))) from row_append_map (by simp; omega) (by exact lenSt) (by rfl) (by rfl)) <| .bin (show binA BinOp.add (AV.int IntKind.i64 (↑i : Int)) (AV.int IntKind.i64 (1 : Int)) = some (AV.int IntKind.i64 (↑(i + (1 : Nat)) : Int)) from inc_i (by omega)) <| .cutQ k29_0 [(0, AV.sl SK.sh (List.map encL l)), (3, rowS Heap.nil (List.map AV.str (acc ++ [(42 : UInt8) :: (58 : UInt8) :: x.val]))), (4, AV.int IntKind.i64 (↑(i + (1 : Nat)) : Int))] (rowH Heap.nil (List.map AV.str (acc ++ [(42 : UInt8) :: (58 : UInt8) :: x.val]))) (fun T hT => (ih (i + (1 : Nat)) (acc ++ [(42 : UInt8) :: (58 : UInt8) :: x.val]) hnx (by simp; omega) (by refine Eq.trans ?_ hall2; clear hall hall2 ih hT hj hf; simp [lText, *]) T hT)))) (fun g1 => .no (show (x.key == []) = false from beq_eq_false_iff_ne.2 (show ¬ (x.key = []) from g1)) <| .idx (show idxA (3 : Nat) (AV.sl SK.sh (List.map encL l)) (AV.int IntKind.i64 (↑i : Int)) = some (AV.ref (encL x).cells) from idx_row hd (by rfl)) <| .load (row_load (ys := List.map AV.str acc) (show loadA false (1 : Nat) Heap.nil (AV.ref [AV.bool x.any]) = some (AV.bool x.any) from rfl)) <| .split (x.any = true) (fun g2 => .no (show (!x.any) = false from not_f (show x.any = true from g2)) <| .append (show appendA (1 : Nat) (16 : Nat) (rowH Heap.nil (List.map AV.str acc)) (rowS Heap.nil (List.map AV.str acc)) (AV.sl SK.full [AV.str x.key]) = some ((rowS Heap.nil (List.map AV.str (acc ++ [x.key])), rowH Heap.nil (List.map AV.str (acc ++ [x.key])))) from row_append_map (by simp; omega) (by exact lenSt) (by rfl) (by rfl)) <| .bin (show binA BinOp.add (AV.int IntKind.i64 (↑i : Int)) (AV.int IntKind.i64 (1 : Int)) = some (AV.int IntKind.i64 (↑(i + (1 : Nat)) : Int)) from inc_i (by omega)) <| .cutQ k29_0 [(0, AV.sl SK.sh (List.map encL l)), (3, rowS Heap.nil (List.map AV.str (acc ++ [x.key]))), (4, AV.int IntKind.i64 (↑(i + (1 : Nat)) : Int))] (rowH Heap.nil (List.map AV.str (acc ++ [x.key]))) (fun T hT => (ih (i + (1 : Nat)) (acc ++ [x.key]) hnx (by simp; omega) (by refine Eq.trans ?_ hall2; clear hall hall2 ih hT hj hf; simp [lText, *]) T hT))) (fun g2 => .yes (show (!x.any) = true from not_t (show ¬ (x.any = true) from g2)) <| .bin (show binA BinOp.add (AV.str x.key) (AV.str [(58 : UInt8)]) = some (AV.str (x.key ++ [(58 : UInt8)])) from str_add (by simp; omega)) <| .idx (show idxA (3 : Nat) (AV.sl SK.sh (List.map encL l)) (AV.int IntKind.i64 (↑i : Int)) = some (AV.ref (encL x).cells) from idx_row hd (by rfl)) <| .load (row_load (ys := List.map AV.str acc) (show loadA false (1 : Nat) Heap.nil (AV.ref [AV.str x.val]) = some (AV.str x.val) from rfl)) <| .bin (show binA BinOp.add (AV.str (x.key ++ [(58 : UInt8)])) (AV.str x.val) = some (AV.str (x.key ++ [(58 : UInt8)] ++ x.val)) from str_add (by simp; omega)) <| .append (show appendA (1 : Nat) (16 : Nat) (rowH Heap.nil (List.map AV.str acc)) (rowS Heap.nil (List.map AV.str acc)) (AV.sl SK.full [AV.str (x.key ++ [(58 : UInt8)] ++ x.val)]) = some ((rowS Heap.nil (List.map AV.str (acc ++ [x.key ++ [(58 : UInt8)] ++ x.val])), rowH Heap.nil (List.map AV.str (acc ++ [x.key ++ [(58 : UInt8)] ++ x.val])))) from row_append_map (by simp; omega) (by exact lenSt) (by rfl) (by rfl)) <| .bin (show binA BinOp.add (AV.int IntKind.i64 (↑i : Int)) (AV.int IntKind.i64 (1 : Int)) = some (AV.int IntKind.i64 (↑(i + (1 : Nat)) : Int)) from inc_i (by omega)) <| .cutQ k29_0 [(0, AV.sl SK.sh (List.map encL l)), (3, rowS Heap.nil (List.map AV.str (acc ++ [x.key ++ [(58 : UInt8)] ++ x.val]))), (4, AV.int IntKind.i64 (↑(i + (1 : Nat)) : Int))] (rowH Heap.nil (List.map AV.str (acc ++ [x.key ++ [(58 : UInt8)] ++ x.val]))) (fun T hT => (ih (i + (1 : Nat)) (acc ++ [x.key ++ [(58 : UInt8)] ++ x.val]) hnx (by simp; omega) (by refine Eq.trans ?_ hall2; clear hall hall2 ih hT hj hf; simp [lText, *]) T hT))))) (by kernel_rfl)
theorem lText_ref (l : List Tol) (hf : fewL l = true) : Gives cfg 29 [.sl .sh (l.map encL)] (.str (textOf lText l)) := by
  have hn := fewL_len hf
  have hf2 : ∀ x ∈ l, x.key.length ≤ 50 ∧ x.val.length ≤ 50 := by
    simp only [fewL, few, Bool.and_eq_true, List.all_eq_true, decide_eq_true_eq] at hf
    exact hf.2
  have hj : (Lib.join (l.map lText) [44]).length ≤ 3000 := join_len _ (by
    intro s hs
    obtain ⟨x, hx, rfl⟩ := List.mem_map.1 hs
    exact lText_len x (hf2 x hx).1 (hf2 x hx).2) (by simpa using hn)
  refine Gives.run (l29 _ _) ?_
  have h := lText_ref_loop l hn hf2 hj l 0 [] rfl rfl rfl
  exact goG 60 []  trivial  (.cutQ k29_0 [(0, AV.sl SK.sh (List.map encL l)), (3, AV.sl SK.full []), (4, AV.int IntKind.i64 (0 : Int))] (Heap.mk [] [] []) (fun T hT => (h T hT))) (by kernel_rfl)


end Go.Aa.T

set_option linter.unusedVariables false
set_option linter.unusedSimpArgs false
set_option maxRecDepth 100000
namespace Go.Aa.T
open Go.Aa Go.Proofs

theorem ib_none {c : UInt8} : ∀ {a : List UInt8}, c ∉ a → Lib.indexByte a c = -1
  | [], _ => rfl
  | b :: a, h => by
    simp only [List.mem_cons, not_or] at h
    have hb : (b == c) = false := by rw [beq_eq_false_iff_ne]; exact fun e => h.1 e.symm
    unfold Lib.indexByte
    rw [ib_none h.2, hb]
    rfl
theorem ib_at {c : UInt8} {b : List UInt8} : ∀ {a : List UInt8}, c ∉ a → Lib.indexByte (a ++ c :: b) c = (a.length : Int)
  | [], _ => by simp [Lib.indexByte]
  | x :: a, h => by
    simp only [List.mem_cons, not_or] at h
    have hb : (x == c) = false := by rw [beq_eq_false_iff_ne]; exact fun e => h.1 e.symm
    rw [List.cons_append, Lib.indexByte, ib_at h.2, hb]
    have : ((a.length : Int) == -1) = false := by rw [beq_eq_false_iff_ne]; omega
    simp [this]
theorem index1 (f : FuncId) (s : List UInt8) (c : UInt8) (ht : cfg.tryF f = false) (hx : cfg.ext f = some indexE) : Gives cfg f [.str s, .str [c]] (.int .i64 (Lib.indexByte s c)) := by
  refine Gives.of (H' := Heap.nil) ?_
  rw [lim_ext ht hx]; rfl
theorem cut_hit (a b : List UInt8) (c : UInt8) (h : c ∉ a) (hl : a.length + b.length ≤ 1000) : Gives cfg 74 [.str (a ++ c :: b), .str [c]] (.tuple [.str a, .str b, .bool true]) := by
  have hi : Gives cfg 125 [.str (a ++ c :: b), .str [c]] (.int .i64 (a.length : Nat)) := by
    have := index1 125 (a ++ c :: b) c rfl rfl
    rwa [ib_at h] at this
  have e1 : (a ++ c :: b).take a.length = a := by simp
  have e2 : (a ++ c :: b).drop (a.length + 1) = b := by rw [List.drop_append]; simp
  have hc : Gives cfg 104 [.str (a ++ c :: b), .str [c]] (.tuple [.str a, .str b, .bool true]) := by
    refine Gives.run (l104 _ _) ?_
    exact goG 60 []  trivial  (.callG ([AV.str (a ++ c :: b), AV.str [c]]) (AV.int IntKind.i64 (↑a.length : Int)) (show Gives cfg (125 : FuncId) [AV.str (a ++ c :: b), AV.str [c]] (AV.int IntKind.i64 (↑a.length : Int)) from hi) ⟨rfl, rfl⟩ ⟨rfl, rfl⟩ <| .tt <| .slice (show sliceA (0 : Nat) (AV.str (a ++ c :: b)) none (some (AV.int IntKind.i64 (↑a.length : Int))) none = some (AV.str (List.take a.length (a ++ c :: b))) from sstr_to (by simp)) <| .len (show lenA true (AV.str [c]) = some (AV.int IntKind.i64 (↑[c].length : Int)) from len_str _) <| .bin (show binA BinOp.add (AV.int IntKind.i64 (↑a.length : Int)) (AV.int IntKind.i64 (↑[c].length : Int)) = some (AV.int IntKind.i64 (↑(a.length + (1 : Nat)) : Int)) from inc_i (by omega)) <| .slice (show sliceA (0 : Nat) (AV.str (a ++ c :: b)) (some (AV.int IntKind.i64 (↑(a.length + (1 : Nat)) : Int))) none none = some (AV.str (List.drop (a.length + (1 : Nat)) (a ++ c :: b))) from sstr_from (by simp)) <| .fin ((ARes.ret (AV.tuple [AV.str (List.take a.length (a ++ c :: b)), AV.str (List.drop (a.length + (1 : Nat)) (a ++ c :: b)), AV.bool true]), Heap.mk [] [] [])) (by simp only [IsRet, e1, e2])) (by kernel_rfl)
  refine Gives.run (l74 _ _) ?_
  exact goG 60 []  trivial  (.callG ([AV.str (a ++ c :: b), AV.str [c]]) (AV.tuple [AV.str a, AV.str b, AV.bool true]) (show Gives cfg (104 : FuncId) [AV.str (a ++ c :: b), AV.str [c]] (AV.tuple [AV.str a, AV.str b, AV.bool true]) from hc) ⟨rfl, rfl⟩ ⟨rfl, rfl⟩ <| .fin ((ARes.ret (AV.tuple [AV.str a, AV.str b, AV.bool true]), Heap.mk [] [] [])) rfl) (by kernel_rfl)
theorem cut_miss (a : List UInt8) (c : UInt8) (h : c ∉ a) : Gives cfg 74 [.str a, .str [c]] (.tuple [.str a, .str [], .bool false]) := by
  have hi : Gives cfg 125 [.str a, .str [c]] (.int .i64 (-1)) := by
    have := index1 125 a c rfl rfl
    rwa [ib_none h] at this
  have hc : Gives cfg 104 [.str a, .str [c]] (.tuple [.str a, .str [], .bool false]) := by
    refine Gives.run (l104 _ _) ?_
    exact goG 60 []  trivial  (.callG ([AV.str a, AV.str [c]]) (AV.int IntKind.i64 (-1 : Int)) (show Gives cfg (125 : FuncId) [AV.str a, AV.str [c]] (AV.int IntKind.i64 (-1 : Int)) from hi) ⟨rfl, rfl⟩ ⟨rfl, rfl⟩ <| .ff <| .fin ((ARes.ret (AV.tuple [AV.str a, AV.str [], AV.bool false]), Heap.mk [] [] [])) rfl) (by kernel_rfl)
  refine Gives.run (l74 _ _) ?_
  exact goG 60 []  trivial  (.callG ([AV.str a, AV.str [c]]) (AV.tuple [AV.str a, AV.str [], AV.bool false]) (show Gives cfg (104 : FuncId) [AV.str a, AV.str [c]] (AV.tuple [AV.str a, AV.str [], AV.bool false]) from hc) ⟨rfl, rfl⟩ ⟨rfl, rfl⟩ <| .fin ((ARes.ret (AV.tuple [AV.str a, AV.str [], AV.bool false]), Heap.mk [] [] [])) rfl) (by kernel_rfl)
theorem contains_no (a : List UInt8) (c : UInt8) (h : c ∉ a) : Gives cfg 75 [.str a, .str [c]] (.bool false) := by
  have hi : Gives cfg 105 [.str a, .str [c]] (.int .i64 (-1)) := by
    have := index1 105 a c rfl rfl
    rwa [ib_none h] at this
  refine Gives.run (l75 _ _) ?_
  exact goG 60 []  trivial  (.callG ([AV.str a, AV.str [c]]) (AV.int IntKind.i64 (-1 : Int)) (show Gives cfg (105 : FuncId) [AV.str a, AV.str [c]] (AV.int IntKind.i64 (-1 : Int)) from hi) ⟨rfl, rfl⟩ ⟨rfl, rfl⟩ <| .fin ((ARes.ret (AV.bool (decide ((0 : Int) ≤ (-1 : Int)))), Heap.mk [] [] [])) rfl) (by kernel_rfl)
theorem suffix_hit (a : List UInt8) (c : UInt8) (hl : a.length ≤ 1000) : Gives cfg 77 [.str (a ++ [c]), .str [c]] (.tuple [.str a, .bool true]) := by
  have e1 : (a ++ [c]).take a.length = a := by simp
  have e2 : (a ++ [c]).drop a.length = [c] := by simp
  have es : ((a ++ [c]).length : Int) - 1 = (a.length : Nat) := by simp
  have hsub : binA .sub (.int .i64 ((a ++ [c]).length : Nat)) (.int .i64 1) = some (.int .i64 (a.length : Nat)) := by rw [subI (by simp <;> omega) (by simp <;> omega), es]
  have h1 : Gives cfg 126 [.str (a ++ [c]), .str [c]] (.bool true) := by
    refine Gives.run (l126 _ _) ?_
    exact goG 60 []  trivial  (.len (show lenA true (AV.str (a ++ [c])) = some (AV.int IntKind.i64 (↑(a ++ [c]).length : Int)) from len_str _) <| .len (show lenA true (AV.str [c]) = some (AV.int IntKind.i64 (↑[c].length : Int)) from len_str _) <| .yes (show (decide ((↑[c].length : Int) ≤ (↑(a ++ [c]).length : Int))) = true from decide_eq_true (show (↑[c].length : Int) ≤ (↑(a ++ [c]).length : Int) from (by simp; omega))) <| .len (show lenA true (AV.str (a ++ [c])) = some (AV.int IntKind.i64 (↑(a ++ [c]).length : Int)) from len_str _) <| .len (show lenA true (AV.str [c]) = some (AV.int IntKind.i64 (↑[c].length : Int)) from len_str _) <| .bin (show binA BinOp.sub (AV.int IntKind.i64 (↑(a ++ [c]).length : Int)) (AV.int IntKind.i64 (↑[c].length : Int)) = some (AV.int IntKind.i64 (↑a.length : Int)) from hsub) <| .slice (show sliceA (0 : Nat) (AV.str (a ++ [c])) (some (AV.int IntKind.i64 (↑a.length : Int))) none none = some (AV.str (List.drop a.length (a ++ [c]))) from sstr_from (by simp)) <| .fin ((ARes.ret (AV.bool (List.drop a.length (a ++ [c]) == [c])), Heap.mk [] [] [])) (by simp [IsRet, e2])) (by kernel_rfl)
  have h2 : Gives cfg 106 [.str (a ++ [c]), .str [c]] (.tuple [.str a, .bool true]) := by
    refine Gives.run (l106 _ _) ?_
    exact goG 60 []  trivial  (.callG ([AV.str (a ++ [c]), AV.str [c]]) (AV.bool true) (show Gives cfg (126 : FuncId) [AV.str (a ++ [c]), AV.str [c]] (AV.bool true) from h1) ⟨rfl, rfl⟩ ⟨rfl, rfl⟩ <| .ff <| .len (show lenA true (AV.str (a ++ [c])) = some (AV.int IntKind.i64 (↑(a ++ [c]).length : Int)) from len_str _) <| .len (show lenA true (AV.str [c]) = some (AV.int IntKind.i64 (↑[c].length : Int)) from len_str _) <| .bin (show binA BinOp.sub (AV.int IntKind.i64 (↑(a ++ [c]).length : Int)) (AV.int IntKind.i64 (↑[c].length : Int)) = some (AV.int IntKind.i64 (↑a.length : Int)) from hsub) <| .slice (show sliceA (0 : Nat) (AV.str (a ++ [c])) none (some (AV.int IntKind.i64 (↑a.length : Int))) none = some (AV.str (List.take a.length (a ++ [c]))) from sstr_to (by simp)) <| .fin ((ARes.ret (AV.tuple [AV.str (List.take a.length (a ++ [c])), AV.bool true]), Heap.mk [] [] [])) (by simp only [IsRet, e1])) (by kernel_rfl)
  refine Gives.run (l77 _ _) ?_
  exact goG 60 []  trivial  (.callG ([AV.str (a ++ [c]), AV.str [c]]) (AV.tuple [AV.str a, AV.bool true]) (show Gives cfg (106 : FuncId) [AV.str (a ++ [c]), AV.str [c]] (AV.tuple [AV.str a, AV.bool true]) from h2) ⟨rfl, rfl⟩ ⟨rfl, rfl⟩ <| .fin ((ARes.ret (AV.tuple [AV.str a, AV.bool true]), Heap.mk [] [] [])) rfl) (by kernel_rfl)

theorem name_no {s : List UInt8} (h : isName s = true) {c : UInt8} (hc : nameCh c = false) : c ∉ s := by
  intro hm
  simp only [isName, Bool.and_eq_true, List.all_eq_true] at h
  rw [h.2 c hm] at hc; cases hc
theorem name_len {s : List UInt8} (h : isName s = true) : s.length ≤ 12 := by
  simp only [isName, Bool.and_eq_true, decide_eq_true_eq] at h
  exact h.1.2

def goodT (x : Taint) : Bool := isName x.key && isName x.val
end Go.Aa.T

set_option linter.unusedVariables false
set_option linter.unusedSimpArgs false
set_option maxRecDepth 100000
namespace Go.Aa.T
open Go.Aa Go.Proofs
def starK (x : Tol) : List UInt8 := if x.key = [] then [42] else x.key
theorem star_no (x : Tol) (h : okL x = true) {c : UInt8} (hc : nameCh c = false) (h2 : c ≠ 42) : c ∉ starK x := by
  unfold starK
  split
  · simp [h2]
  · rename_i hk
    simp only [okL, Bool.and_eq_true, Bool.or_eq_true, decide_eq_true_eq, hk, false_or] at h
    exact name_no h.1 hc
theorem star_len (x : Tol) (h : okL x = true) : (starK x).length ≤ 12 ∧ starK x ≠ [] := by
  unfold starK
  split
  · simp
  · rename_i hk
    simp only [okL, Bool.and_eq_true, Bool.or_eq_true, decide_eq_true_eq, hk, false_or] at h
    exact ⟨name_len h.1, hk⟩
theorem star_back (x : Tol) (h : okL x = true) : (if starK x = [42] then [] else starK x) = x.key := by
  unfold starK
  by_cases hk : x.key = []
  · simp [hk]
  · simp only [okL, Bool.and_eq_true, Bool.or_eq_true, decide_eq_true_eq, hk, false_or] at h
    have : x.key ≠ [42] := fun e => absurd (name_no h.1 (c := 42) rfl) (by rw [e]; simp)
    simp [hk, this]

theorem tText_ok (x : Taint) (h : goodT x = true) : tText x ≠ [] ∧ (44 : UInt8) ∉ tText x := by
  simp only [goodT, Bool.and_eq_true] at h
  unfold tText
  split <;> simp [name_no h.1 (c := 44) rfl, name_no h.2 (c := 44) rfl]
theorem lText_ok (x : Tol) (h : okL x = true) : lText x ≠ [] ∧ (44 : UInt8) ∉ lText x := by
  have h1 := star_no x h (c := 44) rfl (by decide)
  have h2 := (star_len x h).2
  unfold starK at h1 h2
  cases hh : x.any with
  | true => simp only [lText, hh, if_true]; exact ⟨h2, h1⟩
  | false =>
    have hv : isName x.val = true := by simp only [okL, hh, Bool.and_eq_true, Bool.false_eq_true, if_false] at h; exact h.2
    simp only [lText, hh, Bool.false_eq_true, if_false, List.append_assoc]
    refine ⟨by simp, ?_⟩
    simp only [List.mem_append, not_or]
    exact ⟨h1, by simp, name_no hv rfl⟩
end Go.Aa.T

set_option linter.unusedVariables false
set_option linter.unusedSimpArgs false
set_option maxRecDepth 100000
namespace Go.Aa.T
open Go.Aa Go.Proofs
def cutAt (c : UInt8) : List UInt8 → Option (List UInt8 × List UInt8)
  | [] => none
  | b :: r => if b = c then some ([], r) else (cutAt c r).map fun p => (b :: p.1, p.2)
theorem cutAt_none {c : UInt8} : ∀ {w : List UInt8}, cutAt c w = none → c ∉ w
  | [], _ => by simp
  | b :: r, h => by
    unfold cutAt at h
    split at h
    · cases h
    · rename_i hb
      have := cutAt_none (w := r) (by simpa using h)
      simp only [List.mem_cons, not_or]
      exact ⟨fun e => hb e.symm, this⟩
theorem cutAt_some {c : UInt8} : ∀ {w a b : List UInt8}, cutAt c w = some (a, b) → w = a ++ c :: b ∧ c ∉ a
  | [], _, _, h => by cases h
  | x :: r, a, b, h => by
    unfold cutAt at h
    split at h
    · rename_i hx
      simp only [Option.some.injEq, Prod.mk.injEq] at h
      obtain ⟨rfl, rfl⟩ := h
      subst hx
      simp
    · rename_i hx
      simp only [Option.map_eq_some_iff, Prod.mk.injEq, Prod.exists] at h
      obtain ⟨a', b', h1, rfl, rfl⟩ := h
      obtain ⟨e, hn⟩ := cutAt_some h1
      refine ⟨by rw [e]; rfl, ?_⟩
      simp only [List.mem_cons, not_or]
      exact ⟨fun e => hx e.symm, hn⟩
def parts (c : UInt8) : List UInt8 → List (List UInt8)
  | [] => [[]]
  | b :: r => if b = c then [] :: parts c r else match parts c r with
    | [] => [[b]]
    | x :: xs => (b :: x) :: xs
theorem parts_none {c : UInt8} : ∀ {w : List UInt8}, c ∉ w → parts c w = [w]
  | [], _ => rfl
  | b :: r, h => by
    simp only [List.mem_cons, not_or] at h
    have hb : ¬ b = c := fun e => h.1 e.symm
    simp only [parts, if_neg hb, parts_none h.2]
theorem parts_some {c : UInt8} {b : List UInt8} : ∀ {a : List UInt8}, c ∉ a → parts c (a ++ c :: b) = a :: parts c b
  | [], _ => by simp [parts]
  | x :: a, h => by
    simp only [List.mem_cons, not_or] at h
    have hb : ¬ x = c := fun e => h.1 e.symm
    simp only [List.cons_append, parts, if_neg hb, parts_some h.2]
def foldE {α : Type} (f : α → List UInt8 → Option α) (a : α) : List (List UInt8) → Option α
  | [] => some a
  | p :: ps => match f a p with
    | some a' => foldE f a' ps
    | none => none
section
variable {α : Type} (o0 o1 o2 o3 : α → List AV) (tk : α → List Nat) (rc : LRec) (v : AV) (I : α → Nat → Prop)
def hS (a : α) (rest : List UInt8) : Heap := ⟨[o0 a, o1 a, o2 a, o3 a, [.str rest], [.str [44]], [.int .i64 0]], tk a, [rc]⟩
def hB (a : α) (rest : List UInt8) : Heap := ⟨[o0 a, o1 a, o2 a, o3 a, [.str rest], [.str [44]], [.int .i64 0]], tk a, [{ rc with busy := true }]⟩
def SeqR (f : α → List UInt8 → Option α) (a : α) (rest : List UInt8) (r : ARes × Heap) : Prop := match foldE f a (parts 44 rest) with
  | some a' => ∃ last, r = (.ret (.tuple []), hS o0 o1 o2 o3 tk rc a' last)
  | none => ∃ a' last, r = (.pan v, hB o0 o1 o2 o3 tk rc a' last)
theorem Goes.imp {A : AFunc} {k : List AIt} {T : Env} {H : Heap} {R R' : ARes × Heap → Prop} (h : Goes cfg A k T H R) (i : ∀ r, R r → R' r) : Goes cfg A k T H R' := by
  obtain ⟨r, h1, h2⟩ := h
  exact ⟨r, h1, i r h2⟩
theorem seq_run (f : α → List UInt8 → Option α) (hI : ∀ a x a' m, I a (x.length + 1 + m) → f a x = some a' → I a' m)
    (hy : ∀ a p rest a', p.length ≤ 1000 → I a rest.length → f a p = some a' → Does cfg (.call (.c (.yield 0)) [.c (.str p)]) (hS o0 o1 o2 o3 tk rc a rest) (.bool true) (hS o0 o1 o2 o3 tk rc a' rest))
    (hn : ∀ a p rest, p.length ≤ 1000 → I a rest.length → f a p = none → DoesP cfg (.call (.c (.yield 0)) [.c (.str p)]) (hS o0 o1 o2 o3 tk rc a rest) v (hB o0 o1 o2 o3 tk rc a rest)) :
    ∀ (n : Nat) (rest : List UInt8) (hr : rest.length ≤ n) (hl : rest.length ≤ 1000) (a : α) (ha : I a rest.length) (T : Env) (hT : Has T [(0, .yield 0), (1, .ptr 5 0), (2, .ptr 4 0), (3, .ptr 6 0)]),
      Goes cfg a136 k136_1 T (hS o0 o1 o2 o3 tk rc a rest) (SeqR o0 o1 o2 o3 tk rc v f a rest) := by
  intro n
  induction n with
  | zero =>
    intro rest hr hl a ha T hT
    have e : rest = [] := List.length_eq_zero_iff.1 (by omega)
    subst e
    have hi : Gives cfg 105 [.str [], .str [44]] (.int .i64 (-1)) := index1 105 [] 44 rfl rfl
    cases hf : f a [] with
    | some a' =>
      have hd := hy a [] [] a' (by simp) ha hf
      have key : Goes cfg a136 k136_1 T (hS o0 o1 o2 o3 tk rc a []) (fun r => r = (.ret (.tuple []), hS o0 o1 o2 o3 tk rc a' [])) := by
        exact goG 60 _  hT  (.callG ([AV.str [], AV.str [(44 : UInt8)]]) (AV.int IntKind.i64 (-1 : Int)) (show Gives cfg (105 : FuncId) [AV.str [], AV.str [(44 : UInt8)]] (AV.int IntKind.i64 (-1 : Int)) from hi) ⟨rfl, rfl⟩ ⟨rfl, rfl⟩ <| .tt <| .effY (show Does cfg (AOp.call (Opd.c (AV.yield (0 : Nat))) [Opd.c (AV.str [])]) (hS o0 o1 o2 o3 tk rc a []) (AV.bool true) (hS o0 o1 o2 o3 tk rc a' []) from hd) <| .fin ((ARes.ret (AV.tuple []), { boxes := [o0 a', o1 a', o2 a', o3 a', [AV.str []], [AV.str [(44 : UInt8)]], [AV.int IntKind.i64 (0 : Int)]], toks := tk a', loops := [rc] : Heap })) rfl) (by kernel_rfl)
      refine Goes.imp key ?_
      rintro r rfl
      simp only [SeqR, parts, foldE, hf]
      exact ⟨_, rfl⟩
    | none =>
      have hd := hn a [] [] (by simp) ha hf
      have key : Goes cfg a136 k136_1 T (hS o0 o1 o2 o3 tk rc a []) (fun r => r = (.pan v, hB o0 o1 o2 o3 tk rc a [])) := by
        exact goG 60 _  hT  (.callG ([AV.str [], AV.str [(44 : UInt8)]]) (AV.int IntKind.i64 (-1 : Int)) (show Gives cfg (105 : FuncId) [AV.str [], AV.str [(44 : UInt8)]] (AV.int IntKind.i64 (-1 : Int)) from hi) ⟨rfl, rfl⟩ ⟨rfl, rfl⟩ <| .tt <| .panY (show DoesP cfg (AOp.call (Opd.c (AV.yield (0 : Nat))) [Opd.c (AV.str [])]) (hS o0 o1 o2 o3 tk rc a []) v (hB o0 o1 o2 o3 tk rc a []) from hd) rfl) (by kernel_rfl)
      refine Goes.imp key ?_
      rintro r rfl
      simp only [SeqR, parts, foldE, hf]
      exact ⟨_, _, rfl⟩
  | succ n ih =>
    intro rest hr hl a ha T hT
    cases hc : cutAt 44 rest with
    | none =>
      have hm := cutAt_none hc
      have hi : Gives cfg 105 [.str rest, .str [44]] (.int .i64 (-1)) := by
        have := index1 105 rest 44 rfl rfl
        rwa [ib_none hm] at this
      have ep := parts_none hm
      cases hf : f a rest with
      | some a' =>
        have hd := hy a rest rest a' hl ha hf
        have key : Goes cfg a136 k136_1 T (hS o0 o1 o2 o3 tk rc a rest) (fun r => r = (.ret (.tuple []), hS o0 o1 o2 o3 tk rc a' rest)) := by
          exact goG 60 _  hT  (.callG ([AV.str rest, AV.str [(44 : UInt8)]]) (AV.int IntKind.i64 (-1 : Int)) (show Gives cfg (105 : FuncId) [AV.str rest, AV.str [(44 : UInt8)]] (AV.int IntKind.i64 (-1 : Int)) from hi) ⟨rfl, rfl⟩ ⟨rfl, rfl⟩ <| .tt <| .effY (show Does cfg (AOp.call (Opd.c (AV.yield (0 : Nat))) [Opd.c (AV.str rest)]) (hS o0 o1 o2 o3 tk rc a rest) (AV.bool true) (hS o0 o1 o2 o3 tk rc a' rest) from hd) <| .fin ((ARes.ret (AV.tuple []), { boxes := [o0 a', o1 a', o2 a', o3 a', [AV.str rest], [AV.str [(44 : UInt8)]], [AV.int IntKind.i64 (0 : Int)]], toks := tk a', loops := [rc] : Heap })) rfl) (by kernel_rfl)
        refine Goes.imp key ?_
        rintro r rfl
        simp only [SeqR, ep, foldE, hf]
        exact ⟨_, rfl⟩
      | none =>
        have hd := hn a rest rest hl ha hf
        have key : Goes cfg a136 k136_1 T (hS o0 o1 o2 o3 tk rc a rest) (fun r => r = (.pan v, hB o0 o1 o2 o3 tk rc a rest)) := by
          exact goG 60 _  hT  (.callG ([AV.str rest, AV.str [(44 : UInt8)]]) (AV.int IntKind.i64 (-1 : Int)) (show Gives cfg (105 : FuncId) [AV.str rest, AV.str [(44 : UInt8)]] (AV.int IntKind.i64 (-1 : Int)) from hi) ⟨rfl, rfl⟩ ⟨rfl, rfl⟩ <| .tt <| .panY (show DoesP cfg (AOp.call (Opd.c (AV.yield (0 : Nat))) [Opd.c (AV.str rest)]) (hS o0 o1 o2 o3 tk rc a rest) v (hB o0 o1 o2 o3 tk rc a rest) from hd) rfl) (by kernel_rfl)
        refine Goes.imp key ?_
        rintro r rfl
        simp only [SeqR, ep, foldE, hf]
        exact ⟨_, _, rfl⟩
    | some p =>
      obtain ⟨x, y⟩ := p
      obtain ⟨rfl, hm⟩ := cutAt_some hc
      have hi : Gives cfg 105 [.str (x ++ 44 :: y), .str [44]] (.int .i64 (x.length : Nat)) := by
        have := index1 105 (x ++ 44 :: y) 44 rfl rfl
        rwa [ib_at hm] at this
      have ep : parts 44 (x ++ 44 :: y) = x :: parts 44 y := parts_some hm
      have hlx : x.length + y.length + 1 ≤ 1000 := by simpa [Nat.add_assoc] using hl
      have hry : y.length ≤ n := by
        have : x.length + (y.length + 1) ≤ n + 1 := by simpa using hr
        omega
      have h0 : binA .add (.int .i64 (x.length : Nat)) (.int .i64 0) = some (.int .i64 (x.length : Nat)) := by
        rw [addI (by omega) (by omega), Int.add_zero]
      have s1 : sliceA 0 (.str (x ++ 44 :: y)) none (some (.int .i64 (x.length : Nat))) none = some (.str x) := by
        rw [sstr_to (by simp)]; simp
      have s2 : sliceA 0 (.str (x ++ 44 :: y)) (some (.int .i64 ((x.length + 1 : Nat) : Int))) none none = some (.str y) := by
        rw [sstr_from (by simp), List.drop_append]; simp
      cases hf : f a x with
      | some a' =>
        have hd := hy a x (x ++ 44 :: y) a' (by omega) ha hf
        have e : SeqR o0 o1 o2 o3 tk rc v f a (x ++ 44 :: y) = SeqR o0 o1 o2 o3 tk rc v f a' y := by
          funext r
          simp only [SeqR, ep, foldE, hf]
        rw [e]
        have ha2 : I a' y.length := hI a x a' y.length (by simpa [Nat.add_assoc, Nat.add_comm 1] using ha) hf
        have ih2 := ih y hry (by omega) a' ha2
        exact goG 60 _  hT  (.callG ([AV.str (x ++ (44 : UInt8) :: y), AV.str [(44 : UInt8)]]) (AV.int IntKind.i64 (↑x.length : Int)) (show Gives cfg (105 : FuncId) [AV.str (x ++ (44 : UInt8) :: y), AV.str [(44 : UInt8)]] (AV.int IntKind.i64 (↑x.length : Int)) from hi) ⟨rfl, rfl⟩ ⟨rfl, rfl⟩ <| .ff <| .bin (show binA BinOp.add (AV.int IntKind.i64 (↑x.length : Int)) (AV.int IntKind.i64 (0 : Int)) = some (AV.int IntKind.i64 (↑x.length : Int)) from h0) <| .slice (show sliceA (0 : Nat) (AV.str (x ++ (44 : UInt8) :: y)) none (some (AV.int IntKind.i64 (↑x.length : Int))) none = some (AV.str x) from s1) <| .effY (show Does cfg (AOp.call (Opd.c (AV.yield (0 : Nat))) [Opd.c (AV.str x)]) (hS o0 o1 o2 o3 tk rc a (x ++ (44 : UInt8) :: y)) (AV.bool true) (hS o0 o1 o2 o3 tk rc a' (x ++ (44 : UInt8) :: y)) from hd) <| .ff <| .len (show lenA true (AV.str [(44 : UInt8)]) = some (AV.int IntKind.i64 (↑[(44 : UInt8)].length : Int)) from len_str _) <| .bin (show binA BinOp.add (AV.int IntKind.i64 (↑x.length : Int)) (AV.int IntKind.i64 (↑[(44 : UInt8)].length : Int)) = some (AV.int IntKind.i64 (↑(x.length + (1 : Nat)) : Int)) from inc_i (by omega)) <| .slice (show sliceA (0 : Nat) (AV.str (x ++ (44 : UInt8) :: y)) (some (AV.int IntKind.i64 (↑(x.length + (1 : Nat)) : Int))) none none = some (AV.str y) from s2) <| .cutQ k136_1 [(0, AV.yield (0 : Nat)), (1, AV.ptr (5 : Nat) (0 : Nat)), (2, AV.ptr (4 : Nat) (0 : Nat)), (3, AV.ptr (6 : Nat) (0 : Nat))] ({ boxes := [o0 a', o1 a', o2 a', o3 a', [AV.str y], [AV.str [(44 : UInt8)]], [AV.int IntKind.i64 (0 : Int)]], toks := tk a', loops := [rc] : Heap }) (fun T hT => (ih2 T hT))) (by kernel_rfl)
      | none =>
        have hd := hn a x (x ++ 44 :: y) (by omega) ha hf
        have key : Goes cfg a136 k136_1 T (hS o0 o1 o2 o3 tk rc a (x ++ 44 :: y)) (fun r => r = (.pan v, hB o0 o1 o2 o3 tk rc a (x ++ 44 :: y))) := by
          exact goG 60 _  hT  (.callG ([AV.str (x ++ (44 : UInt8) :: y), AV.str [(44 : UInt8)]]) (AV.int IntKind.i64 (↑x.length : Int)) (show Gives cfg (105 : FuncId) [AV.str (x ++ (44 : UInt8) :: y), AV.str [(44 : UInt8)]] (AV.int IntKind.i64 (↑x.length : Int)) from hi) ⟨rfl, rfl⟩ ⟨rfl, rfl⟩ <| .ff <| .bin (show binA BinOp.add (AV.int IntKind.i64 (↑x.length : Int)) (AV.int IntKind.i64 (0 : Int)) = some (AV.int IntKind.i64 (↑x.length : Int)) from h0) <| .slice (show sliceA (0 : Nat) (AV.str (x ++ (44 : UInt8) :: y)) none (some (AV.int IntKind.i64 (↑x.length : Int))) none = some (AV.str x) from s1) <| .panY (show DoesP cfg (AOp.call (Opd.c (AV.yield (0 : Nat))) [Opd.c (AV.str x)]) (hS o0 o1 o2 o3 tk rc a (x ++ (44 : UInt8) :: y)) v (hB o0 o1 o2 o3 tk rc a (x ++ (44 : UInt8) :: y)) from hd) rfl) (by kernel_rfl)
        refine Goes.imp key ?_
        rintro r rfl
        simp only [SeqR, ep, foldE, hf]
        exact ⟨_, _, rfl⟩
theorem seq_call (f : α → List UInt8 → Option α) (hI : ∀ a x a' m, I a (x.length + 1 + m) → f a x = some a' → I a' m)
    (hy : ∀ a p rest a', p.length ≤ 1000 → I a rest.length → f a p = some a' → Does cfg (.call (.c (.yield 0)) [.c (.str p)]) (hS o0 o1 o2 o3 tk rc a rest) (.bool true) (hS o0 o1 o2 o3 tk rc a' rest))
    (hn : ∀ a p rest, p.length ≤ 1000 → I a rest.length → f a p = none → DoesP cfg (.call (.c (.yield 0)) [.c (.str p)]) (hS o0 o1 o2 o3 tk rc a rest) v (hB o0 o1 o2 o3 tk rc a rest))
    (rest : List UInt8) (hl : rest.length ≤ 1000) (a : α) (ha : I a rest.length) : ∃ r, lim cfg (.fn 136) [.yield 0, .ptr 5 0, .ptr 4 0, .ptr 6 0] (hS o0 o1 o2 o3 tk rc a rest) = some r ∧ SeqR o0 o1 o2 o3 tk rc v f a rest r := by
  rw [l136]
  have h := seq_run o0 o1 o2 o3 tk rc v I f hI hy hn rest.length rest (Nat.le_refl _) hl a ha
  have key : Goes cfg a136 [.c c136] (initEnv [.yield 0, .ptr 5 0, .ptr 4 0, .ptr 6 0]) (hS o0 o1 o2 o3 tk rc a rest) (SeqR o0 o1 o2 o3 tk rc v f a rest) := by
    exact goG 60 []  trivial  (.len (show lenA true (AV.str [(44 : UInt8)]) = some (AV.int IntKind.i64 (↑[(44 : UInt8)].length : Int)) from len_str _) <| .ff <| .cutQ k136_1 [(0, AV.yield (0 : Nat)), (1, AV.ptr (5 : Nat) (0 : Nat)), (2, AV.ptr (4 : Nat) (0 : Nat)), (3, AV.ptr (6 : Nat) (0 : Nat))] ({ boxes := [o0 a, o1 a, o2 a, o3 a, [AV.str rest], [AV.str [(44 : UInt8)]], [AV.int IntKind.i64 (0 : Int)]], toks := tk a, loops := [rc] : Heap }) (fun T hT => (h T hT))) (by kernel_rfl)
  exact key
end
end Go.Aa.T

set_option linter.unusedVariables false
set_option linter.unusedSimpArgs false
set_option maxRecDepth 100000
namespace Go.Aa.T
open Go.Aa Go.Proofs
def stopV (e : Int) : AV := .iface 159 (.agg [.int .i64 e])
theorem stop_ok : Gives cfg 76 [.int .i64 0] (.tuple []) := by
  refine Gives.run (l76 _ _) ?_
  exact goG 60 []  trivial  (.ff <| .fin ((ARes.ret (AV.tuple []), { boxes := [], toks := [], loops := [] : Heap })) rfl) (by kernel_rfl)
theorem stop_pan {e : Int} (h : ¬ e = 0) : Pans cfg 76 [.int .i64 e] (stopV e) := by
  refine Pans.run (l76 _ _) ?_
  exact goG 60 [] trivial (.op (.bin .neq (.c (.int .i64 e)) (.c (.int .i64 0))) (.bool true) (pure_step (fun _ => neqT (k := .i64) h) fun _ _ _ => rfl) <| .tt <| .panicI 159 (.agg [.int .i64 e]) Heap.nil rfl) (by kernel_rfl)
def collect {X : Type} (pf : List UInt8 → Option X) (acc : List X) (p : List UInt8) : Option (List X) := if p = [] then none else (pf p).map fun x => acc ++ [x]
def parsed {X : Type} (pf : List UInt8 → Option X) (ck : List X → Int) (s : List UInt8) : List X × Int :=
  if s = [45] then ([], 0) else match foldE (collect pf) [] (parts 44 s) with
  | none => ([], 2)
  | some l => if ck l = 0 then (l, 0) else ([], ck l)
def skF {X : Type} : List X → SK
  | [] => .full
  | _ :: _ => .own 0
instance {X : Type} (l : List X) (xs : List AV) : Shut (.sl (skF l) xs) (.sl .sh xs) := ⟨by cases l <;> exact ⟨rfl, rfl⟩⟩
section
variable {X : Type} (enc : X → AV)
def tkR (acc : List X) : List Nat := (rowH Heap.nil (acc.map enc)).toks
theorem tk_nil : tkR enc [] = [] := rfl
theorem tk_cons (x : X) (l : List X) : tkR enc (x :: l) = [l.length + 1] := by simp [tkR, rowH, Heap.nil]
def rowF (l : List X) : AV := .sl (skF l) (l.map enc)
instance (l : List X) : Shut (rowF enc l) (.sl .sh (l.map enc)) := ⟨by cases l <;> exact ⟨rfl, rfl⟩⟩
theorem rowF_eq (l : List X) : rowF enc l = rowS Heap.nil (l.map enc) := by cases l <;> rfl
theorem row_append_T {x : X} {es bytes : Nat} {bs : List (List AV)} {ls : List LRec} {ys : List X} (h : ((ys.map enc).length + 1) * bytes ≤ 140737488355328) (hl : lenOk es (ys.map enc) = true) (hv : cellsN es (enc x) = true) (hd : dataOk [enc x] = true) :
    appendA es bytes ⟨bs, tkR enc ys, ls⟩ (rowF enc ys) (.sl .full [enc x]) = some (rowF enc (ys ++ [x]), ⟨bs, tkR enc (ys ++ [x]), ls⟩) := by
  rw [rowF_eq, rowF_eq]
  have hh := row_append_map (f := enc) (x := x) (H := Heap.nil) h hl hv hd
  cases ys with
  | nil =>
    simp only [rowS, rowH, List.map_nil, List.nil_append, List.map_cons, tkR, Heap.nil] at hh ⊢
    simp only [appendA] at hh ⊢
    split at hh
    · rename_i hc; rw [if_pos hc]; rfl
    · cases hh
  | cons y ys =>
    simp only [rowS, rowH, List.cons_append, List.map_cons, tkR, Heap.nil] at hh ⊢
    simp only [appendA] at hh ⊢
    split at hh
    · rename_i hc
      rw [if_pos hc]
      split at hh
      · rename_i hc2
        rw [if_pos hc2]
        simp only [Option.some.injEq, Prod.mk.injEq, Heap.mk.injEq, true_and, and_true] at hh ⊢
        exact hh
      · cases hh
    · cases hh
end

section
variable (s0 : List UInt8)
def oTaint0 (_ : List Taint) : List AV := [.str s0]
def oTaint1 (_ : List Taint) : List AV := [.func 73 []]
def oTaint2 (_ : List Taint) : List AV := [.func 20 []]
def oTaint3 (acc : List Taint) : List AV := [rowF encT acc]
theorem trTaint (rc : LRec) (h1 : rc.nb = 7) (h2 : rc.nt = 0) (acc : List Taint) (rest : List UInt8) (n : Nat) (hn : n ≤ 1) (h0 : n = 1 → acc ≠ []) (v : AV) (hv : within 7 n v = true) :
    trunc 7 n v ⟨[oTaint0 s0 acc, oTaint1 acc, oTaint2 acc, oTaint3 acc, [.str rest], [.str [44]], [.int .i64 0]], tkR encT acc, [rc]⟩ = ⟨[oTaint0 s0 acc, oTaint1 acc, oTaint2 acc, oTaint3 acc, [.str rest], [.str [44]], [.int .i64 0]], tkR encT acc, [rc]⟩ := by
  have hb : ∀ (b : Bool) (l : List (List AV)), l.length = 7 → (if b = true then l.take 7 else l) = l := fun b l hl => by
    split
    · exact List.take_of_length_le (by omega)
    · rfl
  unfold trunc
  simp only
  rw [hb _ _ rfl]
  simp only [Heap.mk.injEq, true_and, and_true]
  cases acc with
  | nil => simp [tk_nil]
  | cons x l =>
    rw [tk_cons]
    rcases Nat.lt_or_ge n 1 with h | h
    · have : n = 0 := by omega
      subst this
      have hf : (([oTaint0 s0 (x :: l), oTaint1 (x :: l), oTaint2 (x :: l), oTaint3 (x :: l), [.str rest], [.str [44]], [.int .i64 0]] : List (List AV)).all fun x_1 => x_1.all (in2 ([oTaint0 s0 (x :: l), oTaint1 (x :: l), oTaint2 (x :: l), oTaint3 (x :: l), [.str rest], [.str [44]], [.int .i64 0]] : List (List AV)).length 0)) = false := rfl
      rw [hf]
      simp
    · have : n = 1 := by omega
      subst this
      split <;> rfl
theorem ylTaint (pf : List UInt8 → Option Taint) (rc : LRec) (T0 : Env) (hA : rc.A = a102) (hT0 : rc.T = T0) (hps : rc.ps = [7]) (has : rc.assign = ra102_0) (hbd : rc.body = rb102_0) (hbu : rc.busy = false) (h1 : rc.nb = 7) (h2 : rc.nt = 0) (hT : Has T0 [(1, .ptr 3 0), (2, .ptr 1 0)])
    (hp : ∀ p x, p.length ≤ 1000 → pf p = some x → Gives cfg 73 [.str p] (encT x)) (acc : List Taint) (p rest : List UInt8) (acc' : List Taint) (hl : p.length ≤ 1000) (hacc : acc.length ≤ 100000) (hf : collect pf acc p = some acc') :
    Does cfg (.call (.c (.yield 0)) [.c (.str p)]) (hS (oTaint0 s0) oTaint1 oTaint2 oTaint3 (tkR encT) rc acc rest) (.bool true) (hS (oTaint0 s0) oTaint1 oTaint2 oTaint3 (tkR encT) rc acc' rest) := by
  unfold collect at hf
  split at hf
  · cases hf
  rename_i hne
  simp only [Option.map_eq_some_iff] at hf
  obtain ⟨x, hx, rfl⟩ := hf
  have hg := hp p x hl hx
  have key : Goes cfg roundA [.c rb102_0] (upd (psetA T0 [7] [.str p]) 4 (.str p)) (hB (oTaint0 s0) oTaint1 oTaint2 oTaint3 (tkR encT) rc acc rest) (fun r => r = (.ret (.tuple []), hB (oTaint0 s0) oTaint1 oTaint2 oTaint3 (tkR encT) rc (acc ++ [x]) rest)) := by
    have hT' : Has (upd (psetA T0 [7] [.str p]) 4 (.str p)) [(1, .ptr 3 0), (2, .ptr 1 0), (4, .str p)] := ⟨hT.1, hT.2.1, rfl, trivial⟩
    exact goG 60 _  hT'  (.no (show (p == []) = false from Bool.eq_false_iff.2 (show ¬ ((p == []) = true) from (by simpa using hne))) <| .callG ([AV.str p]) (AV.agg [AV.str x.key, AV.str x.val, AV.bool x.hard]) (show Gives cfg (73 : FuncId) [AV.str p] (encT x) from hg) ⟨rfl, rfl⟩ ⟨rfl, rfl⟩ <| .append (show appendA (3 : Nat) (40 : Nat) { boxes := [[AV.str s0], [AV.func (73 : Nat) []], [AV.func (20 : Nat) []], [AV.sl (skF acc) (List.map encT acc)], [AV.str rest], [AV.str [(44 : UInt8)]], [AV.int IntKind.i64 (0 : Int)]], toks := tkR encT acc, loops := [{ A := rc.A, T := rc.T, ps := rc.ps, assign := rc.assign, body := rc.body, busy := true, nb := rc.nb, nt := rc.nt, nl := rc.nl : LRec }] : Heap } (AV.sl (skF acc) (List.map encT acc)) (AV.sl SK.full [AV.agg [AV.str x.key, AV.str x.val, AV.bool x.hard]]) = some ((rowF encT (acc ++ [x]), { boxes := [[AV.str s0], [AV.func (73 : Nat) []], [AV.func (20 : Nat) []], [AV.sl (skF acc) (List.map encT acc)], [AV.str rest], [AV.str [(44 : UInt8)]], [AV.int IntKind.i64 (0 : Int)]], toks := tkR encT (acc ++ [x]), loops := [{ A := rc.A, T := rc.T, ps := rc.ps, assign := rc.assign, body := rc.body, busy := true, nb := rc.nb, nt := rc.nt, nl := rc.nl : LRec }] : Heap })) from row_append_T _ (by simp; omega) (by exact lenT) (by rfl) (by rfl)) <| .fin ((ARes.ret (AV.tuple []), { boxes := [[AV.str s0], [AV.func (73 : Nat) []], [AV.func (20 : Nat) []], [AV.sl (skF (acc ++ [x])) (List.map encT (acc ++ [x]))], [AV.str rest], [AV.str [(44 : UInt8)]], [AV.int IntKind.i64 (0 : Int)]], toks := tkR encT (acc ++ [x]), loops := [{ A := rc.A, T := rc.T, ps := rc.ps, assign := rc.assign, body := rc.body, busy := true, nb := rc.nb, nt := rc.nt, nl := rc.nl : LRec }] : Heap })) rfl) (by kernel_rfl)
  obtain ⟨r, hr, rfl⟩ := key
  have hrun : runL cfg roundA [.c rc.assign, .beg 0, .c rc.body] (psetA rc.T rc.ps [.str p]) (hS (oTaint0 s0) oTaint1 oTaint2 oTaint3 (tkR encT) rc acc rest) = some (.ret (.tuple []), hB (oTaint0 s0) oTaint1 oTaint2 oTaint3 (tkR encT) rc (acc ++ [x]) rest) := by
    rw [hT0, hps, has, hbd]
    rw [show (ra102_0 : ACode) = .region [⟨some 4, .mov (.t 7), none, []⟩] false from rfl, runL_assign, runL_beg (r := rc) rfl hbu]
    exact hr
  have h3 := yl_ret (cfg := cfg) (l := 0) (args := [.str p]) (r := rc) (r' := { rc with busy := true }) rfl (by rw [hps]; rfl) hrun rfl
  have e1 : ({ ({ rc with busy := true } : LRec) with busy := false } : LRec) = rc := by cases rc; simp only at hbu; subst hbu; rfl
  have h4 := does_yield h3 rfl
  refine Eq.mp ?_ h4
  congr 1
  show trunc 7 (tkR encT acc).length (.bool true) ⟨[oTaint0 s0 (acc ++ [x]), oTaint1 (acc ++ [x]), oTaint2 (acc ++ [x]), oTaint3 (acc ++ [x]), [.str rest], [.str [44]], [.int .i64 0]], tkR encT (acc ++ [x]), [{ ({ rc with busy := true } : LRec) with busy := false }]⟩ = _
  rw [e1]
  refine trTaint s0 rc h1 h2 _ rest _ ?_ (fun _ => by simp) _ rfl
  cases acc with
  | nil => simp [tk_nil]
  | cons y l => simp [tk_cons]
theorem ynTaint (pf : List UInt8 → Option Taint) (rc : LRec) (T0 : Env) (hA : rc.A = a102) (hT0 : rc.T = T0) (hps : rc.ps = [7]) (has : rc.assign = ra102_0) (hbd : rc.body = rb102_0) (hbu : rc.busy = false) (h1 : rc.nb = 7) (h2 : rc.nt = 0) (hT : Has T0 [(1, .ptr 3 0), (2, .ptr 1 0)])
    (hp : ∀ p, p.length ≤ 1000 → p ≠ [] → pf p = none → Pans cfg 73 [.str p] (stopV 2)) (acc : List Taint) (p rest : List UInt8) (hl : p.length ≤ 1000) (hf : collect pf acc p = none) :
    DoesP cfg (.call (.c (.yield 0)) [.c (.str p)]) (hS (oTaint0 s0) oTaint1 oTaint2 oTaint3 (tkR encT) rc acc rest) (stopV 2) (hB (oTaint0 s0) oTaint1 oTaint2 oTaint3 (tkR encT) rc acc rest) := by
  have key : Goes cfg roundA [.c rb102_0] (upd (psetA T0 [7] [.str p]) 4 (.str p)) (hB (oTaint0 s0) oTaint1 oTaint2 oTaint3 (tkR encT) rc acc rest) (fun r => r = (.pan (stopV 2), hB (oTaint0 s0) oTaint1 oTaint2 oTaint3 (tkR encT) rc acc rest)) := by
    have hT' : Has (upd (psetA T0 [7] [.str p]) 4 (.str p)) [(1, .ptr 3 0), (2, .ptr 1 0), (4, .str p)] := ⟨hT.1, hT.2.1, rfl, trivial⟩
    by_cases hne : p = []
    · subst hne
      have hs : Pans cfg 76 [.int .i64 2] (stopV 2) := stop_pan (by decide)
      exact goG 60 _  hT'  (.tt <| .callP ([AV.int IntKind.i64 (2 : Int)]) ({ boxes := [[AV.str s0], [AV.func (73 : Nat) []], [AV.func (20 : Nat) []], [AV.sl (skF acc) (List.map encT acc)], [AV.str rest], [AV.str [(44 : UInt8)]], [AV.int IntKind.i64 (0 : Int)]], toks := tkR encT acc, loops := [{ A := rc.A, T := rc.T, ps := rc.ps, assign := rc.assign, body := rc.body, busy := true, nb := rc.nb, nt := rc.nt, nl := rc.nl : LRec }] : Heap }) (show Pans cfg (76 : FuncId) [AV.int IntKind.i64 (2 : Int)] (stopV (2 : Int)) from hs) ⟨rfl, rfl⟩ rfl rfl) (by kernel_rfl)
    · have hx : pf p = none := by
        unfold collect at hf
        rw [if_neg hne] at hf
        simpa using hf
      have hg := hp p hl hne hx
      exact goG 60 _  hT'  (.no (show (p == []) = false from Bool.eq_false_iff.2 (show ¬ ((p == []) = true) from (by simpa using hne))) <| .callP ([AV.str p]) ({ boxes := [[AV.str s0], [AV.func (73 : Nat) []], [AV.func (20 : Nat) []], [AV.sl (skF acc) (List.map encT acc)], [AV.str rest], [AV.str [(44 : UInt8)]], [AV.int IntKind.i64 (0 : Int)]], toks := tkR encT acc, loops := [{ A := rc.A, T := rc.T, ps := rc.ps, assign := rc.assign, body := rc.body, busy := true, nb := rc.nb, nt := rc.nt, nl := rc.nl : LRec }] : Heap }) (show Pans cfg (73 : FuncId) [AV.str p] (stopV (2 : Int)) from hg) ⟨rfl, rfl⟩ rfl rfl) (by kernel_rfl)
  obtain ⟨r, hr, rfl⟩ := key
  have hrun : runL cfg roundA [.c rc.assign, .beg 0, .c rc.body] (psetA rc.T rc.ps [.str p]) (hS (oTaint0 s0) oTaint1 oTaint2 oTaint3 (tkR encT) rc acc rest) = some (.pan (stopV 2), hB (oTaint0 s0) oTaint1 oTaint2 oTaint3 (tkR encT) rc acc rest) := by
    rw [hT0, hps, has, hbd]
    rw [show (ra102_0 : ACode) = .region [⟨some 4, .mov (.t 7), none, []⟩] false from rfl, runL_assign, runL_beg (r := rc) rfl hbu]
    exact hr
  have h3 := yl_pan (cfg := cfg) (l := 0) (args := [.str p]) (r := rc) rfl (by rw [hps]; rfl) hrun
  have h4 := does_yieldP h3 rfl
  refine Eq.mp ?_ h4
  congr 1
  refine trTaint s0 { rc with busy := true } h1 h2 _ rest _ ?_ (fun h => ?_) _ rfl
  · show (tkR encT acc).length ≤ 1
    cases acc with
    | nil => simp [tk_nil]
    | cons y l => simp [tk_cons]
  · rintro rfl
    change (tkR encT []).length = 1 at h
    simp [tk_nil] at h
theorem inTaint (acc : List Taint) (rest : List UInt8) : ([oTaint0 s0 acc, oTaint1 acc, oTaint2 acc, oTaint3 acc, [.str rest], [.str [44]], [.int .i64 0]] : List (List AV)).all (fun b => b.all (in2 7 (tkR encT acc).length)) = true := by
  cases acc with
  | nil => rfl
  | cons x l => rw [tk_cons]; rfl
theorem rgTaint (pf : List UInt8 → Option Taint) (hp : ∀ p x, p.length ≤ 1000 → pf p = some x → Gives cfg 73 [.str p] (encT x)) (hpn : ∀ p, p.length ≤ 1000 → p ≠ [] → pf p = none → Pans cfg 73 [.str p] (stopV 2))
    (s : List UInt8) (hl : s.length ≤ 1000) (T : Env) (hT : Has T [(0, .ptr 0 0), (1, .ptr 3 0), (2, .ptr 1 0), (3, .ptr 2 0), (6, .func 136 [.ptr 5 0, .ptr 4 0, .ptr 6 0])]) :
    (∀ l, foldE (collect pf) [] (parts 44 s) = some l → ∃ last, runL cfg a102 kr102_0 T ⟨[oTaint0 s0 [], oTaint1 [], oTaint2 [], oTaint3 [], [.str s], [.str [44]], [.int .i64 0]], [], []⟩ = runL cfg a102 kr102_0.tail T ⟨[oTaint0 s0 l, oTaint1 l, oTaint2 l, oTaint3 l, [.str last], [.str [44]], [.int .i64 0]], tkR encT l, []⟩) ∧
    (foldE (collect pf) [] (parts 44 s) = none → ∃ H', runL cfg a102 kr102_0 T ⟨[oTaint0 s0 [], oTaint1 [], oTaint2 [], oTaint3 [], [.str s], [.str [44]], [.int .i64 0]], [], []⟩ = some (.pan (stopV 2), H')) := by
  let rc : LRec := ⟨a102, T, [7], ra102_0, rb102_0, false, 7, 0, 0⟩
  have hT12 : Has T [(1, .ptr 3 0), (2, .ptr 1 0)] := ⟨hT.2.1, hT.2.2.1, trivial⟩
  obtain ⟨r, hr, hs⟩ := seq_call (oTaint0 s0) oTaint1 oTaint2 oTaint3 (tkR encT) rc (stopV 2) (fun acc m => acc.length + m ≤ 2000) (collect pf)
    (fun a x a' m h hc => by
      unfold collect at hc
      split at hc
      · cases hc
      · simp only [Option.map_eq_some_iff] at hc
        obtain ⟨y, -, rfl⟩ := hc
        simp only [List.length_append, List.length_cons, List.length_nil]
        omega)
    (fun a p rest a' h1 h2 h3 => ylTaint s0 pf rc T rfl rfl rfl rfl rfl rfl rfl rfl hT12 hp a p rest a' h1 (by omega) h3)
    (fun a p rest h1 h2 h3 => ynTaint s0 pf rc T rfl rfl rfl rfl rfl rfl rfl rfl hT12 hpn a p rest h1 h3)
    s hl [] (by simp; omega)
  have hfv : ev T (.t 6) = .func 136 [.ptr 5 0, .ptr 4 0, .ptr 6 0] := hT.2.2.2.2.1
  have hcall : callV (lim cfg) (.func 136 [.ptr 5 0, .ptr 4 0, .ptr 6 0]) [.yield 0] (hS (oTaint0 s0) oTaint1 oTaint2 oTaint3 (tkR encT) rc [] s) = callE (lim cfg) 136 [.yield 0, .ptr 5 0, .ptr 4 0, .ptr 6 0] (hS (oTaint0 s0) oTaint1 oTaint2 oTaint3 (tkR encT) rc [] s) := by
    rw [callV_func]; rfl
  constructor
  · intro l hf
    simp only [SeqR, hf] at hs
    obtain ⟨last, rfl⟩ := hs
    refine ⟨last, ?_⟩
    have h1 : callV (lim cfg) (.func 136 [.ptr 5 0, .ptr 4 0, .ptr 6 0]) [.yield 0] (hS (oTaint0 s0) oTaint1 oTaint2 oTaint3 (tkR encT) rc [] s) = some (.val (.tuple []) (hS (oTaint0 s0) oTaint1 oTaint2 oTaint3 (tkR encT) rc l last)) := by
      rw [hcall]
      simp only [callE, hr]
      congr 2
      exact trTaint s0 rc rfl rfl l last 0 (by omega) (by intro h; cases h) (.tuple []) rfl
    have h2 : dropL 0 (hS (oTaint0 s0) oTaint1 oTaint2 oTaint3 (tkR encT) rc l last) = some ⟨[oTaint0 s0 l, oTaint1 l, oTaint2 l, oTaint3 l, [.str last], [.str [44]], [.int .i64 0]], tkR encT l, []⟩ := by
      exact dropL_of (r := rc) rfl rfl rfl (inTaint s0 l last)
    have h3 := rangeA_val (call := lim cfg) (A := a102) (T := T) (ps := [7]) (a := ra102_0) (b := rb102_0) (H := ⟨[oTaint0 s0 [], oTaint1 [], oTaint2 [], oTaint3 [], [.str s], [.str [44]], [.int .i64 0]], [], []⟩) h1 h2
    rw [← hfv] at h3
    exact runL_range rfl h3
  · intro hf
    simp only [SeqR, hf] at hs
    obtain ⟨a', last, rfl⟩ := hs
    have h1 : callV (lim cfg) (.func 136 [.ptr 5 0, .ptr 4 0, .ptr 6 0]) [.yield 0] (hS (oTaint0 s0) oTaint1 oTaint2 oTaint3 (tkR encT) rc [] s) = some (.pan (stopV 2) (hB (oTaint0 s0) oTaint1 oTaint2 oTaint3 (tkR encT) rc a' last)) := by
      rw [hcall]
      simp only [callE, hr]
      congr 2
      exact trTaint s0 { rc with busy := true } rfl rfl a' last 0 (by omega) (by intro h; cases h) (stopV 2) rfl
    have h2 : dropP 0 (hB (oTaint0 s0) oTaint1 oTaint2 oTaint3 (tkR encT) rc a' last) = some ⟨[oTaint0 s0 a', oTaint1 a', oTaint2 a', oTaint3 a', [.str last], [.str [44]], [.int .i64 0]], tkR encT a', []⟩ := by
      exact dropP_of (Nat.lt_add_one 0) rfl (inTaint s0 a' last)
    have h3 := rangeA_pan (call := lim cfg) (A := a102) (T := T) (ps := [7]) (a := ra102_0) (b := rb102_0) (H := ⟨[oTaint0 s0 [], oTaint1 [], oTaint2 [], oTaint3 [], [.str s], [.str [44]], [.int .i64 0]], [], []⟩) h1 rfl h2
    rw [← hfv] at h3
    exact ⟨_, runL_rangeP rfl h3⟩
end
theorem seq0Taint (s : List UInt8) : ∃ v0 H0, lim cfg (.fn 103) [.str s, .str [44]] Heap.nil = some (.ret v0, H0) ∧ isData (shutA v0) = false := by
  have h1 : lim cfg (.fn 124) [.str s, .str [44], .int .i64 0] Heap.nil = some (.ret (.func 136 [.ptr 1 0, .ptr 0 0, .ptr 2 0]), ⟨[[.str s], [.str [44]], [.int .i64 0]], [], []⟩) := by
    rw [l124]
    exact go 60 []  trivial  (.fin ((ARes.ret (AV.func (136 : Nat) [AV.ptr (1 : Nat) (0 : Nat), AV.ptr (0 : Nat) (0 : Nat), AV.ptr (2 : Nat) (0 : Nat)]), { boxes := [[AV.str s], [AV.str [(44 : UInt8)]], [AV.int IntKind.i64 (0 : Int)]], toks := [], loops := [] : Heap })) rfl) (by kernel_rfl)
  have hd : Does cfg (.call (.c (.func 124 [])) [.c (.str s), .c (.str [44]), .c (.int .i64 0)]) Heap.nil (.func 136 [.ptr 1 0, .ptr 0 0, .ptr 2 0]) ⟨[[.str s], [.str [44]], [.int .i64 0]], [], []⟩ :=
    does_callN h1 rfl h1 rfl rfl
  refine ⟨.func 136 [.ptr 1 0, .ptr 0 0, .ptr 2 0], ⟨[[.str s], [.str [44]], [.int .i64 0]], [], []⟩, ?_, rfl⟩
  rw [l103]
  exact go 60 []  trivial  (.effY (show Does cfg (AOp.call (Opd.c (AV.func (124 : FuncId) [])) [Opd.c (AV.str s), Opd.c (AV.str [(44 : UInt8)]), Opd.c (AV.int IntKind.i64 (0 : Int))]) Heap.nil (AV.func (136 : FuncId) [AV.ptr (1 : Nat) (0 : Nat), AV.ptr (0 : Nat) (0 : Nat), AV.ptr (2 : Nat) (0 : Nat)]) { boxes := [[AV.str s], [AV.str [(44 : UInt8)]], [AV.int IntKind.i64 (0 : Int)]], toks := [], loops := [] : Heap } from hd) <| .fin ((ARes.ret (AV.func (136 : Nat) [AV.ptr (1 : Nat) (0 : Nat), AV.ptr (0 : Nat) (0 : Nat), AV.ptr (2 : Nat) (0 : Nat)]), { boxes := [[AV.str s], [AV.str [(44 : UInt8)]], [AV.int IntKind.i64 (0 : Int)]], toks := [], loops := [] : Heap })) rfl) (by kernel_rfl)
theorem seq1Taint (s0 s : List UInt8) : lim cfg (.fn 103) [.str s, .str [44]] ⟨[oTaint0 s0 [], oTaint1 [], oTaint2 [], oTaint3 []], [], []⟩ = some (.ret (.func 136 [.ptr 5 0, .ptr 4 0, .ptr 6 0]), ⟨[oTaint0 s0 [], oTaint1 [], oTaint2 [], oTaint3 [], [.str s], [.str [44]], [.int .i64 0]], [], []⟩) := by
  have h0 : lim cfg (.fn 124) [.str s, .str [44], .int .i64 0] Heap.nil = some (.ret (.func 136 [.ptr 1 0, .ptr 0 0, .ptr 2 0]), ⟨[[.str s], [.str [44]], [.int .i64 0]], [], []⟩) := by
    rw [l124]
    exact go 60 []  trivial  (.fin ((ARes.ret (AV.func (136 : Nat) [AV.ptr (1 : Nat) (0 : Nat), AV.ptr (0 : Nat) (0 : Nat), AV.ptr (2 : Nat) (0 : Nat)]), { boxes := [[AV.str s], [AV.str [(44 : UInt8)]], [AV.int IntKind.i64 (0 : Int)]], toks := [], loops := [] : Heap })) rfl) (by kernel_rfl)
  have h1 : lim cfg (.fn 124) [.str s, .str [44], .int .i64 0] ⟨[oTaint0 s0 [], oTaint1 [], oTaint2 [], oTaint3 []], [], []⟩ = some (.ret (.func 136 [.ptr 5 0, .ptr 4 0, .ptr 6 0]), ⟨[oTaint0 s0 [], oTaint1 [], oTaint2 [], oTaint3 [], [.str s], [.str [44]], [.int .i64 0]], [], []⟩) := by
    rw [l124]
    exact go 60 []  trivial  (.fin ((ARes.ret (AV.func (136 : Nat) [AV.ptr (5 : Nat) (0 : Nat), AV.ptr (4 : Nat) (0 : Nat), AV.ptr (6 : Nat) (0 : Nat)]), { boxes := [[AV.str s0], [AV.func (73 : Nat) []], [AV.func (20 : Nat) []], [AV.sl SK.full []], [AV.str s], [AV.str [(44 : UInt8)]], [AV.int IntKind.i64 (0 : Int)]], toks := [], loops := [] : Heap })) rfl) (by kernel_rfl)
  have hd : Does cfg (.call (.c (.func 124 [])) [.c (.str s), .c (.str [44]), .c (.int .i64 0)]) ⟨[oTaint0 s0 [], oTaint1 [], oTaint2 [], oTaint3 []], [], []⟩ (.func 136 [.ptr 5 0, .ptr 4 0, .ptr 6 0]) ⟨[oTaint0 s0 [], oTaint1 [], oTaint2 [], oTaint3 [], [.str s], [.str [44]], [.int .i64 0]], [], []⟩ :=
    does_callN h0 rfl h1 rfl rfl
  rw [l103]
  exact go 60 []  trivial  (.effY (show Does cfg (AOp.call (Opd.c (AV.func (124 : FuncId) [])) [Opd.c (AV.str s), Opd.c (AV.str [(44 : UInt8)]), Opd.c (AV.int IntKind.i64 (0 : Int))]) { boxes := [oTaint0 s0 [], oTaint1 [], oTaint2 [], oTaint3 []], toks := [], loops := [] : Heap } (AV.func (136 : FuncId) [AV.ptr (5 : Nat) (0 : Nat), AV.ptr (4 : Nat) (0 : Nat), AV.ptr (6 : Nat) (0 : Nat)]) { boxes := [oTaint0 s0 [], oTaint1 [], oTaint2 [], oTaint3 [], [AV.str s], [AV.str [(44 : UInt8)]], [AV.int IntKind.i64 (0 : Int)]], toks := [], loops := [] : Heap } from hd) <| .fin ((ARes.ret (AV.func (136 : Nat) [AV.ptr (5 : Nat) (0 : Nat), AV.ptr (4 : Nat) (0 : Nat), AV.ptr (6 : Nat) (0 : Nat)]), { boxes := [[AV.str s0], [AV.func (73 : Nat) []], [AV.func (20 : Nat) []], [AV.sl SK.full []], [AV.str s], [AV.str [(44 : UInt8)]], [AV.int IntKind.i64 (0 : Int)]], toks := [], loops := [] : Heap })) rfl) (by kernel_rfl)
theorem tryTaint (pf : List UInt8 → Option Taint) (ck : List Taint → Int) (hp : ∀ p x, p.length ≤ 1000 → pf p = some x → Gives cfg 73 [.str p] (encT x)) (hpn : ∀ p, p.length ≤ 1000 → p ≠ [] → pf p = none → Pans cfg 73 [.str p] (stopV 2))
    (hck : ∀ l : List Taint, Gives cfg 20 [.sl .sh (l.map encT)] (.int .i64 (ck l))) (s : List UInt8) (hl : s.length ≤ 1000) :
    match foldE (collect pf) [] (parts 44 s) with
    | none => ∃ H', lim cfg (.fn 101) [.func 102 [.ptr 0 0, .ptr 3 0, .ptr 1 0, .ptr 2 0]] ⟨[oTaint0 s [], oTaint1 [], oTaint2 [], oTaint3 []], [], []⟩ = some (.ret (.int .i64 2), H')
    | some l => if ck l = 0 then ∃ last, lim cfg (.fn 101) [.func 102 [.ptr 0 0, .ptr 3 0, .ptr 1 0, .ptr 2 0]] ⟨[oTaint0 s [], oTaint1 [], oTaint2 [], oTaint3 []], [], []⟩ = some (.ret (.int .i64 0), ⟨[oTaint0 s l, oTaint1 l, oTaint2 l, oTaint3 l, [.str last], [.str [44]], [.int .i64 0]], tkR encT l, []⟩)
      else ∃ H', lim cfg (.fn 101) [.func 102 [.ptr 0 0, .ptr 3 0, .ptr 1 0, .ptr 2 0]] ⟨[oTaint0 s [], oTaint1 [], oTaint2 [], oTaint3 []], [], []⟩ = some (.ret (.int .i64 (ck l)), H') := by
  obtain ⟨v0, H0, h0, hn0⟩ := seq0Taint s
  have hd : Does cfg (.call (.c (.func 103 [])) [.c (.str s), .c (.str [44])]) ⟨[oTaint0 s [], oTaint1 [], oTaint2 [], oTaint3 []], [], []⟩ (.func 136 [.ptr 5 0, .ptr 4 0, .ptr 6 0]) ⟨[oTaint0 s [], oTaint1 [], oTaint2 [], oTaint3 [], [.str s], [.str [44]], [.int .i64 0]], [], []⟩ :=
    does_callN h0 hn0 (seq1Taint s s) rfl rfl
  have clo : ∀ R, (∀ T (hT : Has T [(0, .ptr 0 0), (1, .ptr 3 0), (2, .ptr 1 0), (3, .ptr 2 0), (6, .func 136 [.ptr 5 0, .ptr 4 0, .ptr 6 0])]), Goes cfg a102 kr102_0 T ⟨[oTaint0 s [], oTaint1 [], oTaint2 [], oTaint3 [], [.str s], [.str [44]], [.int .i64 0]], [], []⟩ R) →
      ∃ r, lim cfg (.fn 102) [.ptr 0 0, .ptr 3 0, .ptr 1 0, .ptr 2 0] ⟨[oTaint0 s [], oTaint1 [], oTaint2 [], oTaint3 []], [], []⟩ = some r ∧ R r := by
    intro R h
    rw [l102]
    have key : Goes cfg a102 [.c c102] (initEnv [.ptr 0 0, .ptr 3 0, .ptr 1 0, .ptr 2 0]) ⟨[oTaint0 s [], oTaint1 [], oTaint2 [], oTaint3 []], [], []⟩ R := by
      exact goG 60 []  trivial  (.effY (show Does cfg (AOp.call (Opd.c (AV.func (103 : FuncId) [])) [Opd.c (AV.str s), Opd.c (AV.str [(44 : UInt8)])]) { boxes := [oTaint0 s [], oTaint1 [], oTaint2 [], oTaint3 []], toks := [], loops := [] : Heap } (AV.func (136 : FuncId) [AV.ptr (5 : Nat) (0 : Nat), AV.ptr (4 : Nat) (0 : Nat), AV.ptr (6 : Nat) (0 : Nat)]) { boxes := [oTaint0 s [], oTaint1 [], oTaint2 [], oTaint3 [], [AV.str s], [AV.str [(44 : UInt8)]], [AV.int IntKind.i64 (0 : Int)]], toks := [], loops := [] : Heap } from hd) <| .cutQ kr102_0 [(0, AV.ptr (0 : Nat) (0 : Nat)), (1, AV.ptr (3 : Nat) (0 : Nat)), (2, AV.ptr (1 : Nat) (0 : Nat)), (3, AV.ptr (2 : Nat) (0 : Nat)), (6, AV.func (136 : Nat) [AV.ptr (5 : Nat) (0 : Nat), AV.ptr (4 : Nat) (0 : Nat), AV.ptr (6 : Nat) (0 : Nat)])] ({ boxes := [[AV.str s], [AV.func (73 : Nat) []], [AV.func (20 : Nat) []], [AV.sl SK.full []], [AV.str s], [AV.str [(44 : UInt8)]], [AV.int IntKind.i64 (0 : Int)]], toks := [], loops := [] : Heap }) (fun T hT => (h T hT))) (by kernel_rfl)
    exact key
  cases hf : foldE (collect pf) [] (parts 44 s) with
  | none =>
    obtain ⟨r, h1, h2⟩ := clo (fun r => r.1 = .pan (stopV 2)) (fun T hT => by
      obtain ⟨H', e⟩ := (rgTaint s pf hp hpn s hl T hT).2 hf
      exact ⟨_, e, rfl⟩)
    obtain ⟨x, H'⟩ := r
    simp only at h2
    subst h2
    exact ⟨H', by rw [lim_try rfl, h1]; rfl⟩
  | some l =>
    simp only
    have hg := hck l
    by_cases hc : ck l = 0
    · rw [if_pos hc]
      rw [hc] at hg
      obtain ⟨r, h1, h2⟩ := clo (fun r => ∃ last, r = (.ret (.tuple []), ⟨[oTaint0 s l, oTaint1 l, oTaint2 l, oTaint3 l, [.str last], [.str [44]], [.int .i64 0]], tkR encT l, []⟩)) (fun T hT => by
        obtain ⟨last, e⟩ := (rgTaint s pf hp hpn s hl T hT).1 l hf
        have key : Goes cfg a102 kr102_0.tail T ⟨[oTaint0 s l, oTaint1 l, oTaint2 l, oTaint3 l, [.str last], [.str [44]], [.int .i64 0]], tkR encT l, []⟩ (fun r => r = (.ret (.tuple []), ⟨[oTaint0 s l, oTaint1 l, oTaint2 l, oTaint3 l, [.str last], [.str [44]], [.int .i64 0]], tkR encT l, []⟩)) := by
          exact goG 60 _  hT  (.callG ([AV.sl (skF l) (List.map encT l)]) (AV.int IntKind.i64 (0 : Int)) (show Gives cfg (20 : FuncId) [AV.sl SK.sh (List.map encT l)] (AV.int IntKind.i64 (0 : Int)) from hg) Shuts.p ⟨rfl, rfl⟩ <| .callG ([AV.int IntKind.i64 (0 : Int)]) (AV.tuple []) (show Gives cfg (76 : FuncId) [AV.int IntKind.i64 (0 : Int)] (AV.tuple []) from stop_ok) ⟨rfl, rfl⟩ ⟨rfl, rfl⟩ <| .fin ((ARes.ret (AV.tuple []), { boxes := [[AV.str s], [AV.func (73 : Nat) []], [AV.func (20 : Nat) []], [AV.sl (skF l) (List.map encT l)], [AV.str last], [AV.str [(44 : UInt8)]], [AV.int IntKind.i64 (0 : Int)]], toks := tkR encT l, loops := [] : Heap })) rfl) (by kernel_rfl)
        obtain ⟨r, k1, k2⟩ := key
        exact ⟨r, e.trans k1, last, k2⟩)
      obtain ⟨last, rfl⟩ := h2
      exact ⟨last, by rw [lim_try rfl, h1]; rfl⟩
    · rw [if_neg hc]
      obtain ⟨r, h1, h2⟩ := clo (fun r => r.1 = .pan (stopV (ck l))) (fun T hT => by
        obtain ⟨last, e⟩ := (rgTaint s pf hp hpn s hl T hT).1 l hf
        have hst := stop_pan hc
        have key : Goes cfg a102 kr102_0.tail T ⟨[oTaint0 s l, oTaint1 l, oTaint2 l, oTaint3 l, [.str last], [.str [44]], [.int .i64 0]], tkR encT l, []⟩ (fun r => r.1 = .pan (stopV (ck l))) := by
          exact goG 60 _  hT  (.callG ([AV.sl (skF l) (List.map encT l)]) (AV.int IntKind.i64 (ck l)) (show Gives cfg (20 : FuncId) [AV.sl SK.sh (List.map encT l)] (AV.int IntKind.i64 (ck l)) from hg) Shuts.p ⟨rfl, rfl⟩ <| .callP ([AV.int IntKind.i64 (ck l)]) ({ boxes := [[AV.str s], [AV.func (73 : Nat) []], [AV.func (20 : Nat) []], [AV.sl (skF l) (List.map encT l)], [AV.str last], [AV.str [(44 : UInt8)]], [AV.int IntKind.i64 (0 : Int)]], toks := tkR encT l, loops := [] : Heap }) (show Pans cfg (76 : FuncId) [AV.int IntKind.i64 (ck l)] (stopV (ck l)) from hst) ⟨rfl, rfl⟩ rfl rfl) (by kernel_rfl)
        obtain ⟨r, k1, k2⟩ := key
        exact ⟨r, e.trans k1, k2⟩)
      obtain ⟨x, H'⟩ := r
      simp only at h2
      subst h2
      exact ⟨H', by rw [lim_try rfl, h1]; rfl⟩
theorem partsTaint (pf : List UInt8 → Option Taint) (ck : List Taint → Int) (hp : ∀ p x, p.length ≤ 1000 → pf p = some x → Gives cfg 73 [.str p] (encT x)) (hpn : ∀ p, p.length ≤ 1000 → p ≠ [] → pf p = none → Pans cfg 73 [.str p] (stopV 2))
    (hck : ∀ l : List Taint, Gives cfg 20 [.sl .sh (l.map encT)] (.int .i64 (ck l))) (s : List UInt8) (hl : s.length ≤ 1000) :
    Gives cfg 72 [.str s, .func 73 [], .func 20 []] (.tuple [rowF encT (parsed pf ck s).1, .int .i64 (parsed pf ck s).2]) := by
  refine Gives.run (l72 _ _) ?_
  by_cases hs : s = [45]
  · subst hs
    exact goG 60 []  trivial  (.tt <| .fin ((ARes.ret (AV.tuple [AV.sl SK.full [], AV.int IntKind.i64 (0 : Int)]), { boxes := [[AV.str [(45 : UInt8)]], [AV.func (73 : Nat) []], [AV.func (20 : Nat) []]], toks := [], loops := [] : Heap })) rfl) (by kernel_rfl)
  · have ht := tryTaint pf ck hp hpn hck s hl
    simp only [parsed, if_neg hs]
    cases hf : foldE (collect pf) [] (parts 44 s) with
    | none =>
      simp only [hf] at ht ⊢
      obtain ⟨H', ht⟩ := ht
      have hd := does_callE (xs := [.func 102 [.ptr 0 0, .ptr 3 0, .ptr 1 0, .ptr 2 0]]) (caps := []) ht rfl rfl
      generalize trunc _ _ _ H' = H2 at hd
      exact goG 60 []  trivial  (.no (show (s == [(45 : UInt8)]) = false from Bool.eq_false_iff.2 (show ¬ ((s == [(45 : UInt8)]) = true) from (by simpa using hs))) <| .effY (show Does cfg (AOp.call (Opd.c (AV.func (101 : FuncId) [])) (List.map Opd.c [AV.func (102 : FuncId) [AV.ptr (0 : Nat) (0 : Nat), AV.ptr (3 : Nat) (0 : Nat), AV.ptr (1 : Nat) (0 : Nat), AV.ptr (2 : Nat) (0 : Nat)]])) { boxes := [oTaint0 s [], oTaint1 [], oTaint2 [], oTaint3 []], toks := [], loops := [] : Heap } (shutA (AV.int IntKind.i64 (2 : Int))) H2 from hd) <| .tt <| .fin ((ARes.ret (AV.tuple [AV.sl SK.full [], AV.int IntKind.i64 (2 : Int)]), H2)) rfl) (by kernel_rfl)
    | some l =>
      simp only [hf] at ht ⊢
      by_cases hc : ck l = 0
      · rw [if_pos hc] at ht
        simp only [if_pos hc]
        obtain ⟨last, ht⟩ := ht
        have hd : Does cfg (.call (.c (.func 101 [])) [.c (.func 102 [.ptr 0 0, .ptr 3 0, .ptr 1 0, .ptr 2 0])]) ⟨[oTaint0 s [], oTaint1 [], oTaint2 [], oTaint3 []], [], []⟩ (.int .i64 0) ⟨[oTaint0 s l, oTaint1 l, oTaint2 l, oTaint3 l], tkR encT l, []⟩ := by
          have hd := does_callE (xs := [.func 102 [.ptr 0 0, .ptr 3 0, .ptr 1 0, .ptr 2 0]]) (caps := []) ht rfl rfl
          refine Eq.mp ?_ hd
          congr 1
          cases l <;> rfl
        exact goG 60 []  trivial  (.no (show (s == [(45 : UInt8)]) = false from Bool.eq_false_iff.2 (show ¬ ((s == [(45 : UInt8)]) = true) from (by simpa using hs))) <| .effY (show Does cfg (AOp.call (Opd.c (AV.func (101 : FuncId) [])) [Opd.c (AV.func (102 : FuncId) [AV.ptr (0 : Nat) (0 : Nat), AV.ptr (3 : Nat) (0 : Nat), AV.ptr (1 : Nat) (0 : Nat), AV.ptr (2 : Nat) (0 : Nat)])]) { boxes := [oTaint0 s [], oTaint1 [], oTaint2 [], oTaint3 []], toks := [], loops := [] : Heap } (AV.int IntKind.i64 (0 : Int)) { boxes := [oTaint0 s l, oTaint1 l, oTaint2 l, oTaint3 l], toks := tkR encT l, loops := [] : Heap } from hd) <| .ff <| .fin ((ARes.ret (AV.tuple [AV.sl (skF l) (List.map encT l), AV.int IntKind.i64 (0 : Int)]), { boxes := [[AV.str s], [AV.func (73 : Nat) []], [AV.func (20 : Nat) []], [AV.sl (skF l) (List.map encT l)]], toks := tkR encT l, loops := [] : Heap })) rfl) (by kernel_rfl)
      · rw [if_neg hc] at ht
        simp only [if_neg hc]
        obtain ⟨H', ht⟩ := ht
        have hd := does_callE (xs := [.func 102 [.ptr 0 0, .ptr 3 0, .ptr 1 0, .ptr 2 0]]) (caps := []) ht rfl rfl
        generalize trunc _ _ _ H' = H2 at hd
        exact goG 60 []  trivial  (.no (show (s == [(45 : UInt8)]) = false from Bool.eq_false_iff.2 (show ¬ ((s == [(45 : UInt8)]) = true) from (by simpa using hs))) <| .effY (show Does cfg (AOp.call (Opd.c (AV.func (101 : FuncId) [])) (List.map Opd.c [AV.func (102 : FuncId) [AV.ptr (0 : Nat) (0 : Nat), AV.ptr (3 : Nat) (0 : Nat), AV.ptr (1 : Nat) (0 : Nat), AV.ptr (2 : Nat) (0 : Nat)]])) { boxes := [oTaint0 s [], oTaint1 [], oTaint2 [], oTaint3 []], toks := [], loops := [] : Heap } (shutA (AV.int IntKind.i64 (ck l))) H2 from hd) <| .yes (show (ck l != (0 : Int)) = true from (by simpa using hc)) <| .fin ((ARes.ret (AV.tuple [AV.sl SK.full [], AV.int IntKind.i64 (ck l)]), H2)) rfl) (by kernel_rfl)

section
variable (s0 : List UInt8)
def oTol0 (_ : List Tol) : List AV := [.str s0]
def oTol1 (_ : List Tol) : List AV := [.func 79 []]
def oTol2 (_ : List Tol) : List AV := [.func 21 []]
def oTol3 (acc : List Tol) : List AV := [rowF encL acc]
theorem trTol (rc : LRec) (h1 : rc.nb = 7) (h2 : rc.nt = 0) (acc : List Tol) (rest : List UInt8) (n : Nat) (hn : n ≤ 1) (h0 : n = 1 → acc ≠ []) (v : AV) (hv : within 7 n v = true) :
    trunc 7 n v ⟨[oTol0 s0 acc, oTol1 acc, oTol2 acc, oTol3 acc, [.str rest], [.str [44]], [.int .i64 0]], tkR encL acc, [rc]⟩ = ⟨[oTol0 s0 acc, oTol1 acc, oTol2 acc, oTol3 acc, [.str rest], [.str [44]], [.int .i64 0]], tkR encL acc, [rc]⟩ := by
  have hb : ∀ (b : Bool) (l : List (List AV)), l.length = 7 → (if b = true then l.take 7 else l) = l := fun b l hl => by
    split
    · exact List.take_of_length_le (by omega)
    · rfl
  unfold trunc
  simp only
  rw [hb _ _ rfl]
  simp only [Heap.mk.injEq, true_and, and_true]
  cases acc with
  | nil => simp [tk_nil]
  | cons x l =>
    rw [tk_cons]
    rcases Nat.lt_or_ge n 1 with h | h
    · have : n = 0 := by omega
      subst this
      have hf : (([oTol0 s0 (x :: l), oTol1 (x :: l), oTol2 (x :: l), oTol3 (x :: l), [.str rest], [.str [44]], [.int .i64 0]] : List (List AV)).all fun x_1 => x_1.all (in2 ([oTol0 s0 (x :: l), oTol1 (x :: l), oTol2 (x :: l), oTol3 (x :: l), [.str rest], [.str [44]], [.int .i64 0]] : List (List AV)).length 0)) = false := rfl
      rw [hf]
      simp
    · have : n = 1 := by omega
      subst this
      split <;> rfl
theorem ylTol (pf : List UInt8 → Option Tol) (rc : LRec) (T0 : Env) (hA : rc.A = a107) (hT0 : rc.T = T0) (hps : rc.ps = [7]) (has : rc.assign = ra107_0) (hbd : rc.body = rb107_0) (hbu : rc.busy = false) (h1 : rc.nb = 7) (h2 : rc.nt = 0) (hT : Has T0 [(1, .ptr 3 0), (2, .ptr 1 0)])
    (hp : ∀ p x, p.length ≤ 1000 → pf p = some x → Gives cfg 79 [.str p] (encL x)) (acc : List Tol) (p rest : List UInt8) (acc' : List Tol) (hl : p.length ≤ 1000) (hacc : acc.length ≤ 100000) (hf : collect pf acc p = some acc') :
    Does cfg (.call (.c (.yield 0)) [.c (.str p)]) (hS (oTol0 s0) oTol1 oTol2 oTol3 (tkR encL) rc acc rest) (.bool true) (hS (oTol0 s0) oTol1 oTol2 oTol3 (tkR encL) rc acc' rest) := by
  unfold collect at hf
  split at hf
  · cases hf
  rename_i hne
  simp only [Option.map_eq_some_iff] at hf
  obtain ⟨x, hx, rfl⟩ := hf
  have hg := hp p x hl hx
  have key : Goes cfg roundA [.c rb107_0] (upd (psetA T0 [7] [.str p]) 4 (.str p)) (hB (oTol0 s0) oTol1 oTol2 oTol3 (tkR encL) rc acc rest) (fun r => r = (.ret (.tuple []), hB (oTol0 s0) oTol1 oTol2 oTol3 (tkR encL) rc (acc ++ [x]) rest)) := by
    have hT' : Has (upd (psetA T0 [7] [.str p]) 4 (.str p)) [(1, .ptr 3 0), (2, .ptr 1 0), (4, .str p)] := ⟨hT.1, hT.2.1, rfl, trivial⟩
    exact goG 60 _  hT'  (.no (show (p == []) = false from Bool.eq_false_iff.2 (show ¬ ((p == []) = true) from (by simpa using hne))) <| .callG ([AV.str p]) (AV.agg [AV.str x.key, AV.str x.val, AV.bool x.any]) (show Gives cfg (79 : FuncId) [AV.str p] (encL x) from hg) ⟨rfl, rfl⟩ ⟨rfl, rfl⟩ <| .append (show appendA (3 : Nat) (40 : Nat) { boxes := [[AV.str s0], [AV.func (79 : Nat) []], [AV.func (21 : Nat) []], [AV.sl (skF acc) (List.map encL acc)], [AV.str rest], [AV.str [(44 : UInt8)]], [AV.int IntKind.i64 (0 : Int)]], toks := tkR encL acc, loops := [{ A := rc.A, T := rc.T, ps := rc.ps, assign := rc.assign, body := rc.body, busy := true, nb := rc.nb, nt := rc.nt, nl := rc.nl : LRec }] : Heap } (AV.sl (skF acc) (List.map encL acc)) (AV.sl SK.full [AV.agg [AV.str x.key, AV.str x.val, AV.bool x.any]]) = some ((rowF encL (acc ++ [x]), { boxes := [[AV.str s0], [AV.func (79 : Nat) []], [AV.func (21 : Nat) []], [AV.sl (skF acc) (List.map encL acc)], [AV.str rest], [AV.str [(44 : UInt8)]], [AV.int IntKind.i64 (0 : Int)]], toks := tkR encL (acc ++ [x]), loops := [{ A := rc.A, T := rc.T, ps := rc.ps, assign := rc.assign, body := rc.body, busy := true, nb := rc.nb, nt := rc.nt, nl := rc.nl : LRec }] : Heap })) from row_append_T _ (by simp; omega) (by exact lenL) (by rfl) (by rfl)) <| .fin ((ARes.ret (AV.tuple []), { boxes := [[AV.str s0], [AV.func (79 : Nat) []], [AV.func (21 : Nat) []], [AV.sl (skF (acc ++ [x])) (List.map encL (acc ++ [x]))], [AV.str rest], [AV.str [(44 : UInt8)]], [AV.int IntKind.i64 (0 : Int)]], toks := tkR encL (acc ++ [x]), loops := [{ A := rc.A, T := rc.T, ps := rc.ps, assign := rc.assign, body := rc.body, busy := true, nb := rc.nb, nt := rc.nt, nl := rc.nl : LRec }] : Heap })) rfl) (by kernel_rfl)
  obtain ⟨r, hr, rfl⟩ := key
  have hrun : runL cfg roundA [.c rc.assign, .beg 0, .c rc.body] (psetA rc.T rc.ps [.str p]) (hS (oTol0 s0) oTol1 oTol2 oTol3 (tkR encL) rc acc rest) = some (.ret (.tuple []), hB (oTol0 s0) oTol1 oTol2 oTol3 (tkR encL) rc (acc ++ [x]) rest) := by
    rw [hT0, hps, has, hbd]
    rw [show (ra107_0 : ACode) = .region [⟨some 4, .mov (.t 7), none, []⟩] false from rfl, runL_assign, runL_beg (r := rc) rfl hbu]
    exact hr
  have h3 := yl_ret (cfg := cfg) (l := 0) (args := [.str p]) (r := rc) (r' := { rc with busy := true }) rfl (by rw [hps]; rfl) hrun rfl
  have e1 : ({ ({ rc with busy := true } : LRec) with busy := false } : LRec) = rc := by cases rc; simp only at hbu; subst hbu; rfl
  have h4 := does_yield h3 rfl
  refine Eq.mp ?_ h4
  congr 1
  show trunc 7 (tkR encL acc).length (.bool true) ⟨[oTol0 s0 (acc ++ [x]), oTol1 (acc ++ [x]), oTol2 (acc ++ [x]), oTol3 (acc ++ [x]), [.str rest], [.str [44]], [.int .i64 0]], tkR encL (acc ++ [x]), [{ ({ rc with busy := true } : LRec) with busy := false }]⟩ = _
  rw [e1]
  refine trTol s0 rc h1 h2 _ rest _ ?_ (fun _ => by simp) _ rfl
  cases acc with
  | nil => simp [tk_nil]
  | cons y l => simp [tk_cons]
theorem ynTol (pf : List UInt8 → Option Tol) (rc : LRec) (T0 : Env) (hA : rc.A = a107) (hT0 : rc.T = T0) (hps : rc.ps = [7]) (has : rc.assign = ra107_0) (hbd : rc.body = rb107_0) (hbu : rc.busy = false) (h1 : rc.nb = 7) (h2 : rc.nt = 0) (hT : Has T0 [(1, .ptr 3 0), (2, .ptr 1 0)])
    (hp : ∀ p, p.length ≤ 1000 → p ≠ [] → pf p = none → Pans cfg 79 [.str p] (stopV 2)) (acc : List Tol) (p rest : List UInt8) (hl : p.length ≤ 1000) (hf : collect pf acc p = none) :
    DoesP cfg (.call (.c (.yield 0)) [.c (.str p)]) (hS (oTol0 s0) oTol1 oTol2 oTol3 (tkR encL) rc acc rest) (stopV 2) (hB (oTol0 s0) oTol1 oTol2 oTol3 (tkR encL) rc acc rest) := by
  have key : Goes cfg roundA [.c rb107_0] (upd (psetA T0 [7] [.str p]) 4 (.str p)) (hB (oTol0 s0) oTol1 oTol2 oTol3 (tkR encL) rc acc rest) (fun r => r = (.pan (stopV 2), hB (oTol0 s0) oTol1 oTol2 oTol3 (tkR encL) rc acc rest)) := by
    have hT' : Has (upd (psetA T0 [7] [.str p]) 4 (.str p)) [(1, .ptr 3 0), (2, .ptr 1 0), (4, .str p)] := ⟨hT.1, hT.2.1, rfl, trivial⟩
    by_cases hne : p = []
    · subst hne
      have hs : Pans cfg 76 [.int .i64 2] (stopV 2) := stop_pan (by decide)
      exact goG 60 _  hT'  (.tt <| .callP ([AV.int IntKind.i64 (2 : Int)]) ({ boxes := [[AV.str s0], [AV.func (79 : Nat) []], [AV.func (21 : Nat) []], [AV.sl (skF acc) (List.map encL acc)], [AV.str rest], [AV.str [(44 : UInt8)]], [AV.int IntKind.i64 (0 : Int)]], toks := tkR encL acc, loops := [{ A := rc.A, T := rc.T, ps := rc.ps, assign := rc.assign, body := rc.body, busy := true, nb := rc.nb, nt := rc.nt, nl := rc.nl : LRec }] : Heap }) (show Pans cfg (76 : FuncId) [AV.int IntKind.i64 (2 : Int)] (stopV (2 : Int)) from hs) ⟨rfl, rfl⟩ rfl rfl) (by kernel_rfl)
    · have hx : pf p = none := by
        unfold collect at hf
        rw [if_neg hne] at hf
        simpa using hf
      have hg := hp p hl hne hx
      exact goG 60 _  hT'  (.no (show (p == []) = false from Bool.eq_false_iff.2 (show ¬ ((p == []) = true) from (by simpa using hne))) <| .callP ([AV.str p]) ({ boxes := [[AV.str s0], [AV.func (79 : Nat) []], [AV.func (21 : Nat) []], [AV.sl (skF acc) (List.map encL acc)], [AV.str rest], [AV.str [(44 : UInt8)]], [AV.int IntKind.i64 (0 : Int)]], toks := tkR encL acc, loops := [{ A := rc.A, T := rc.T, ps := rc.ps, assign := rc.assign, body := rc.body, busy := true, nb := rc.nb, nt := rc.nt, nl := rc.nl : LRec }] : Heap }) (show Pans cfg (79 : FuncId) [AV.str p] (stopV (2 : Int)) from hg) ⟨rfl, rfl⟩ rfl rfl) (by kernel_rfl)
  obtain ⟨r, hr, rfl⟩ := key
  have hrun : runL cfg roundA [.c rc.assign, .beg 0, .c rc.body] (psetA rc.T rc.ps [.str p]) (hS (oTol0 s0) oTol1 oTol2 oTol3 (tkR encL) rc acc rest) = some (.pan (stopV 2), hB (oTol0 s0) oTol1 oTol2 oTol3 (tkR encL) rc acc rest) := by
    rw [hT0, hps, has, hbd]
    rw [show (ra107_0 : ACode) = .region [⟨some 4, .mov (.t 7), none, []⟩] false from rfl, runL_assign, runL_beg (r := rc) rfl hbu]
    exact hr
  have h3 := yl_pan (cfg := cfg) (l := 0) (args := [.str p]) (r := rc) rfl (by rw [hps]; rfl) hrun
  have h4 := does_yieldP h3 rfl
  refine Eq.mp ?_ h4
  congr 1
  refine trTol s0 { rc with busy := true } h1 h2 _ rest _ ?_ (fun h => ?_) _ rfl
  · show (tkR encL acc).length ≤ 1
    cases acc with
    | nil => simp [tk_nil]
    | cons y l => simp [tk_cons]
  · rintro rfl
    change (tkR encL []).length = 1 at h
    simp [tk_nil] at h
theorem inTol (acc : List Tol) (rest : List UInt8) : ([oTol0 s0 acc, oTol1 acc, oTol2 acc, oTol3 acc, [.str rest], [.str [44]], [.int .i64 0]] : List (List AV)).all (fun b => b.all (in2 7 (tkR encL acc).length)) = true := by
  cases acc with
  | nil => rfl
  | cons x l => rw [tk_cons]; rfl
theorem rgTol (pf : List UInt8 → Option Tol) (hp : ∀ p x, p.length ≤ 1000 → pf p = some x → Gives cfg 79 [.str p] (encL x)) (hpn : ∀ p, p.length ≤ 1000 → p ≠ [] → pf p = none → Pans cfg 79 [.str p] (stopV 2))
    (s : List UInt8) (hl : s.length ≤ 1000) (T : Env) (hT : Has T [(0, .ptr 0 0), (1, .ptr 3 0), (2, .ptr 1 0), (3, .ptr 2 0), (6, .func 136 [.ptr 5 0, .ptr 4 0, .ptr 6 0])]) :
    (∀ l, foldE (collect pf) [] (parts 44 s) = some l → ∃ last, runL cfg a107 kr107_0 T ⟨[oTol0 s0 [], oTol1 [], oTol2 [], oTol3 [], [.str s], [.str [44]], [.int .i64 0]], [], []⟩ = runL cfg a107 kr107_0.tail T ⟨[oTol0 s0 l, oTol1 l, oTol2 l, oTol3 l, [.str last], [.str [44]], [.int .i64 0]], tkR encL l, []⟩) ∧
    (foldE (collect pf) [] (parts 44 s) = none → ∃ H', runL cfg a107 kr107_0 T ⟨[oTol0 s0 [], oTol1 [], oTol2 [], oTol3 [], [.str s], [.str [44]], [.int .i64 0]], [], []⟩ = some (.pan (stopV 2), H')) := by
  let rc : LRec := ⟨a107, T, [7], ra107_0, rb107_0, false, 7, 0, 0⟩
  have hT12 : Has T [(1, .ptr 3 0), (2, .ptr 1 0)] := ⟨hT.2.1, hT.2.2.1, trivial⟩
  obtain ⟨r, hr, hs⟩ := seq_call (oTol0 s0) oTol1 oTol2 oTol3 (tkR encL) rc (stopV 2) (fun acc m => acc.length + m ≤ 2000) (collect pf)
    (fun a x a' m h hc => by
      unfold collect at hc
      split at hc
      · cases hc
      · simp only [Option.map_eq_some_iff] at hc
        obtain ⟨y, -, rfl⟩ := hc
        simp only [List.length_append, List.length_cons, List.length_nil]
        omega)
    (fun a p rest a' h1 h2 h3 => ylTol s0 pf rc T rfl rfl rfl rfl rfl rfl rfl rfl hT12 hp a p rest a' h1 (by omega) h3)
    (fun a p rest h1 h2 h3 => ynTol s0 pf rc T rfl rfl rfl rfl rfl rfl rfl rfl hT12 hpn a p rest h1 h3)
    s hl [] (by simp; omega)
  have hfv : ev T (.t 6) = .func 136 [.ptr 5 0, .ptr 4 0, .ptr 6 0] := hT.2.2.2.2.1
  have hcall : callV (lim cfg) (.func 136 [.ptr 5 0, .ptr 4 0, .ptr 6 0]) [.yield 0] (hS (oTol0 s0) oTol1 oTol2 oTol3 (tkR encL) rc [] s) = callE (lim cfg) 136 [.yield 0, .ptr 5 0, .ptr 4 0, .ptr 6 0] (hS (oTol0 s0) oTol1 oTol2 oTol3 (tkR encL) rc [] s) := by
    rw [callV_func]; rfl
  constructor
  · intro l hf
    simp only [SeqR, hf] at hs
    obtain ⟨last, rfl⟩ := hs
    refine ⟨last, ?_⟩
    have h1 : callV (lim cfg) (.func 136 [.ptr 5 0, .ptr 4 0, .ptr 6 0]) [.yield 0] (hS (oTol0 s0) oTol1 oTol2 oTol3 (tkR encL) rc [] s) = some (.val (.tuple []) (hS (oTol0 s0) oTol1 oTol2 oTol3 (tkR encL) rc l last)) := by
      rw [hcall]
      simp only [callE, hr]
      congr 2
      exact trTol s0 rc rfl rfl l last 0 (by omega) (by intro h; cases h) (.tuple []) rfl
    have h2 : dropL 0 (hS (oTol0 s0) oTol1 oTol2 oTol3 (tkR encL) rc l last) = some ⟨[oTol0 s0 l, oTol1 l, oTol2 l, oTol3 l, [.str last], [.str [44]], [.int .i64 0]], tkR encL l, []⟩ := by
      exact dropL_of (r := rc) rfl rfl rfl (inTol s0 l last)
    have h3 := rangeA_val (call := lim cfg) (A := a107) (T := T) (ps := [7]) (a := ra107_0) (b := rb107_0) (H := ⟨[oTol0 s0 [], oTol1 [], oTol2 [], oTol3 [], [.str s], [.str [44]], [.int .i64 0]], [], []⟩) h1 h2
    rw [← hfv] at h3
    exact runL_range rfl h3
  · intro hf
    simp only [SeqR, hf] at hs
    obtain ⟨a', last, rfl⟩ := hs
    have h1 : callV (lim cfg) (.func 136 [.ptr 5 0, .ptr 4 0, .ptr 6 0]) [.yield 0] (hS (oTol0 s0) oTol1 oTol2 oTol3 (tkR encL) rc [] s) = some (.pan (stopV 2) (hB (oTol0 s0) oTol1 oTol2 oTol3 (tkR encL) rc a' last)) := by
      rw [hcall]
      simp only [callE, hr]
      congr 2
      exact trTol s0 { rc with busy := true } rfl rfl a' last 0 (by omega) (by intro h; cases h) (stopV 2) rfl
    have h2 : dropP 0 (hB (oTol0 s0) oTol1 oTol2 oTol3 (tkR encL) rc a' last) = some ⟨[oTol0 s0 a', oTol1 a', oTol2 a', oTol3 a', [.str last], [.str [44]], [.int .i64 0]], tkR encL a', []⟩ := by
      exact dropP_of (Nat.lt_add_one 0) rfl (inTol s0 a' last)
    have h3 := rangeA_pan (call := lim cfg) (A := a107) (T := T) (ps := [7]) (a := ra107_0) (b := rb107_0) (H := ⟨[oTol0 s0 [], oTol1 [], oTol2 [], oTol3 [], [.str s], [.str [44]], [.int .i64 0]], [], []⟩) h1 rfl h2
    rw [← hfv] at h3
    exact ⟨_, runL_rangeP rfl h3⟩
end
theorem seq0Tol (s : List UInt8) : ∃ v0 H0, lim cfg (.fn 103) [.str s, .str [44]] Heap.nil = some (.ret v0, H0) ∧ isData (shutA v0) = false := by
  have h1 : lim cfg (.fn 124) [.str s, .str [44], .int .i64 0] Heap.nil = some (.ret (.func 136 [.ptr 1 0, .ptr 0 0, .ptr 2 0]), ⟨[[.str s], [.str [44]], [.int .i64 0]], [], []⟩) := by
    rw [l124]
    exact go 60 []  trivial  (.fin ((ARes.ret (AV.func (136 : Nat) [AV.ptr (1 : Nat) (0 : Nat), AV.ptr (0 : Nat) (0 : Nat), AV.ptr (2 : Nat) (0 : Nat)]), { boxes := [[AV.str s], [AV.str [(44 : UInt8)]], [AV.int IntKind.i64 (0 : Int)]], toks := [], loops := [] : Heap })) rfl) (by kernel_rfl)
  have hd : Does cfg (.call (.c (.func 124 [])) [.c (.str s), .c (.str [44]), .c (.int .i64 0)]) Heap.nil (.func 136 [.ptr 1 0, .ptr 0 0, .ptr 2 0]) ⟨[[.str s], [.str [44]], [.int .i64 0]], [], []⟩ :=
    does_callN h1 rfl h1 rfl rfl
  refine ⟨.func 136 [.ptr 1 0, .ptr 0 0, .ptr 2 0], ⟨[[.str s], [.str [44]], [.int .i64 0]], [], []⟩, ?_, rfl⟩
  rw [l103]
  exact go 60 []  trivial  (.effY (show Does cfg (AOp.call (Opd.c (AV.func (124 : FuncId) [])) [Opd.c (AV.str s), Opd.c (AV.str [(44 : UInt8)]), Opd.c (AV.int IntKind.i64 (0 : Int))]) Heap.nil (AV.func (136 : FuncId) [AV.ptr (1 : Nat) (0 : Nat), AV.ptr (0 : Nat) (0 : Nat), AV.ptr (2 : Nat) (0 : Nat)]) { boxes := [[AV.str s], [AV.str [(44 : UInt8)]], [AV.int IntKind.i64 (0 : Int)]], toks := [], loops := [] : Heap } from hd) <| .fin ((ARes.ret (AV.func (136 : Nat) [AV.ptr (1 : Nat) (0 : Nat), AV.ptr (0 : Nat) (0 : Nat), AV.ptr (2 : Nat) (0 : Nat)]), { boxes := [[AV.str s], [AV.str [(44 : UInt8)]], [AV.int IntKind.i64 (0 : Int)]], toks := [], loops := [] : Heap })) rfl) (by kernel_rfl)
theorem seq1Tol (s0 s : List UInt8) : lim cfg (.fn 103) [.str s, .str [44]] ⟨[oTol0 s0 [], oTol1 [], oTol2 [], oTol3 []], [], []⟩ = some (.ret (.func 136 [.ptr 5 0, .ptr 4 0, .ptr 6 0]), ⟨[oTol0 s0 [], oTol1 [], oTol2 [], oTol3 [], [.str s], [.str [44]], [.int .i64 0]], [], []⟩) := by
  have h0 : lim cfg (.fn 124) [.str s, .str [44], .int .i64 0] Heap.nil = some (.ret (.func 136 [.ptr 1 0, .ptr 0 0, .ptr 2 0]), ⟨[[.str s], [.str [44]], [.int .i64 0]], [], []⟩) := by
    rw [l124]
    exact go 60 []  trivial  (.fin ((ARes.ret (AV.func (136 : Nat) [AV.ptr (1 : Nat) (0 : Nat), AV.ptr (0 : Nat) (0 : Nat), AV.ptr (2 : Nat) (0 : Nat)]), { boxes := [[AV.str s], [AV.str [(44 : UInt8)]], [AV.int IntKind.i64 (0 : Int)]], toks := [], loops := [] : Heap })) rfl) (by kernel_rfl)
  have h1 : lim cfg (.fn 124) [.str s, .str [44], .int .i64 0] ⟨[oTol0 s0 [], oTol1 [], oTol2 [], oTol3 []], [], []⟩ = some (.ret (.func 136 [.ptr 5 0, .ptr 4 0, .ptr 6 0]), ⟨[oTol0 s0 [], oTol1 [], oTol2 [], oTol3 [], [.str s], [.str [44]], [.int .i64 0]], [], []⟩) := by
    rw [l124]
    exact go 60 []  trivial  (.fin ((ARes.ret (AV.func (136 : Nat) [AV.ptr (5 : Nat) (0 : Nat), AV.ptr (4 : Nat) (0 : Nat), AV.ptr (6 : Nat) (0 : Nat)]), { boxes := [[AV.str s0], [AV.func (79 : Nat) []], [AV.func (21 : Nat) []], [AV.sl SK.full []], [AV.str s], [AV.str [(44 : UInt8)]], [AV.int IntKind.i64 (0 : Int)]], toks := [], loops := [] : Heap })) rfl) (by kernel_rfl)
  have hd : Does cfg (.call (.c (.func 124 [])) [.c (.str s), .c (.str [44]), .c (.int .i64 0)]) ⟨[oTol0 s0 [], oTol1 [], oTol2 [], oTol3 []], [], []⟩ (.func 136 [.ptr 5 0, .ptr 4 0, .ptr 6 0]) ⟨[oTol0 s0 [], oTol1 [], oTol2 [], oTol3 [], [.str s], [.str [44]], [.int .i64 0]], [], []⟩ :=
    does_callN h0 rfl h1 rfl rfl
  rw [l103]
  exact go 60 []  trivial  (.effY (show Does cfg (AOp.call (Opd.c (AV.func (124 : FuncId) [])) [Opd.c (AV.str s), Opd.c (AV.str [(44 : UInt8)]), Opd.c (AV.int IntKind.i64 (0 : Int))]) { boxes := [oTol0 s0 [], oTol1 [], oTol2 [], oTol3 []], toks := [], loops := [] : Heap } (AV.func (136 : FuncId) [AV.ptr (5 : Nat) (0 : Nat), AV.ptr (4 : Nat) (0 : Nat), AV.ptr (6 : Nat) (0 : Nat)]) { boxes := [oTol0 s0 [], oTol1 [], oTol2 [], oTol3 [], [AV.str s], [AV.str [(44 : UInt8)]], [AV.int IntKind.i64 (0 : Int)]], toks := [], loops := [] : Heap } from hd) <| .fin ((ARes.ret (AV.func (136 : Nat) [AV.ptr (5 : Nat) (0 : Nat), AV.ptr (4 : Nat) (0 : Nat), AV.ptr (6 : Nat) (0 : Nat)]), { boxes := [[AV.str s0], [AV.func (79 : Nat) []], [AV.func (21 : Nat) []], [AV.sl SK.full []], [AV.str s], [AV.str [(44 : UInt8)]], [AV.int IntKind.i64 (0 : Int)]], toks := [], loops := [] : Heap })) rfl) (by kernel_rfl)
theorem tryTol (pf : List UInt8 → Option Tol) (ck : List Tol → Int) (hp : ∀ p x, p.length ≤ 1000 → pf p = some x → Gives cfg 79 [.str p] (encL x)) (hpn : ∀ p, p.length ≤ 1000 → p ≠ [] → pf p = none → Pans cfg 79 [.str p] (stopV 2))
    (hck : ∀ l : List Tol, Gives cfg 21 [.sl .sh (l.map encL)] (.int .i64 (ck l))) (s : List UInt8) (hl : s.length ≤ 1000) :
    match foldE (collect pf) [] (parts 44 s) with
    | none => ∃ H', lim cfg (.fn 101) [.func 107 [.ptr 0 0, .ptr 3 0, .ptr 1 0, .ptr 2 0]] ⟨[oTol0 s [], oTol1 [], oTol2 [], oTol3 []], [], []⟩ = some (.ret (.int .i64 2), H')
    | some l => if ck l = 0 then ∃ last, lim cfg (.fn 101) [.func 107 [.ptr 0 0, .ptr 3 0, .ptr 1 0, .ptr 2 0]] ⟨[oTol0 s [], oTol1 [], oTol2 [], oTol3 []], [], []⟩ = some (.ret (.int .i64 0), ⟨[oTol0 s l, oTol1 l, oTol2 l, oTol3 l, [.str last], [.str [44]], [.int .i64 0]], tkR encL l, []⟩)
      else ∃ H', lim cfg (.fn 101) [.func 107 [.ptr 0 0, .ptr 3 0, .ptr 1 0, .ptr 2 0]] ⟨[oTol0 s [], oTol1 [], oTol2 [], oTol3 []], [], []⟩ = some (.ret (.int .i64 (ck l)), H') := by
  obtain ⟨v0, H0, h0, hn0⟩ := seq0Tol s
  have hd : Does cfg (.call (.c (.func 103 [])) [.c (.str s), .c (.str [44])]) ⟨[oTol0 s [], oTol1 [], oTol2 [], oTol3 []], [], []⟩ (.func 136 [.ptr 5 0, .ptr 4 0, .ptr 6 0]) ⟨[oTol0 s [], oTol1 [], oTol2 [], oTol3 [], [.str s], [.str [44]], [.int .i64 0]], [], []⟩ :=
    does_callN h0 hn0 (seq1Tol s s) rfl rfl
  have clo : ∀ R, (∀ T (hT : Has T [(0, .ptr 0 0), (1, .ptr 3 0), (2, .ptr 1 0), (3, .ptr 2 0), (6, .func 136 [.ptr 5 0, .ptr 4 0, .ptr 6 0])]), Goes cfg a107 kr107_0 T ⟨[oTol0 s [], oTol1 [], oTol2 [], oTol3 [], [.str s], [.str [44]], [.int .i64 0]], [], []⟩ R) →
      ∃ r, lim cfg (.fn 107) [.ptr 0 0, .ptr 3 0, .ptr 1 0, .ptr 2 0] ⟨[oTol0 s [], oTol1 [], oTol2 [], oTol3 []], [], []⟩ = some r ∧ R r := by
    intro R h
    rw [l107]
    have key : Goes cfg a107 [.c c107] (initEnv [.ptr 0 0, .ptr 3 0, .ptr 1 0, .ptr 2 0]) ⟨[oTol0 s [], oTol1 [], oTol2 [], oTol3 []], [], []⟩ R := by
      exact goG 60 []  trivial  (.effY (show Does cfg (AOp.call (Opd.c (AV.func (103 : FuncId) [])) [Opd.c (AV.str s), Opd.c (AV.str [(44 : UInt8)])]) { boxes := [oTol0 s [], oTol1 [], oTol2 [], oTol3 []], toks := [], loops := [] : Heap } (AV.func (136 : FuncId) [AV.ptr (5 : Nat) (0 : Nat), AV.ptr (4 : Nat) (0 : Nat), AV.ptr (6 : Nat) (0 : Nat)]) { boxes := [oTol0 s [], oTol1 [], oTol2 [], oTol3 [], [AV.str s], [AV.str [(44 : UInt8)]], [AV.int IntKind.i64 (0 : Int)]], toks := [], loops := [] : Heap } from hd) <| .cutQ kr107_0 [(0, AV.ptr (0 : Nat) (0 : Nat)), (1, AV.ptr (3 : Nat) (0 : Nat)), (2, AV.ptr (1 : Nat) (0 : Nat)), (3, AV.ptr (2 : Nat) (0 : Nat)), (6, AV.func (136 : Nat) [AV.ptr (5 : Nat) (0 : Nat), AV.ptr (4 : Nat) (0 : Nat), AV.ptr (6 : Nat) (0 : Nat)])] ({ boxes := [[AV.str s], [AV.func (79 : Nat) []], [AV.func (21 : Nat) []], [AV.sl SK.full []], [AV.str s], [AV.str [(44 : UInt8)]], [AV.int IntKind.i64 (0 : Int)]], toks := [], loops := [] : Heap }) (fun T hT => (h T hT))) (by kernel_rfl)
    exact key
  cases hf : foldE (collect pf) [] (parts 44 s) with
  | none =>
    obtain ⟨r, h1, h2⟩ := clo (fun r => r.1 = .pan (stopV 2)) (fun T hT => by
      obtain ⟨H', e⟩ := (rgTol s pf hp hpn s hl T hT).2 hf
      exact ⟨_, e, rfl⟩)
    obtain ⟨x, H'⟩ := r
    simp only at h2
    subst h2
    exact ⟨H', by rw [lim_try rfl, h1]; rfl⟩
  | some l =>
    simp only
    have hg := hck l
    by_cases hc : ck l = 0
    · rw [if_pos hc]
      rw [hc] at hg
      obtain ⟨r, h1, h2⟩ := clo (fun r => ∃ last, r = (.ret (.tuple []), ⟨[oTol0 s l, oTol1 l, oTol2 l, oTol3 l, [.str last], [.str [44]], [.int .i64 0]], tkR encL l, []⟩)) (fun T hT => by
        obtain ⟨last, e⟩ := (rgTol s pf hp hpn s hl T hT).1 l hf
        have key : Goes cfg a107 kr107_0.tail T ⟨[oTol0 s l, oTol1 l, oTol2 l, oTol3 l, [.str last], [.str [44]], [.int .i64 0]], tkR encL l, []⟩ (fun r => r = (.ret (.tuple []), ⟨[oTol0 s l, oTol1 l, oTol2 l, oTol3 l, [.str last], [.str [44]], [.int .i64 0]], tkR encL l, []⟩)) := by
          exact goG 60 _  hT  (.callG ([AV.sl (skF l) (List.map encL l)]) (AV.int IntKind.i64 (0 : Int)) (show Gives cfg (21 : FuncId) [AV.sl SK.sh (List.map encL l)] (AV.int IntKind.i64 (0 : Int)) from hg) Shuts.p ⟨rfl, rfl⟩ <| .callG ([AV.int IntKind.i64 (0 : Int)]) (AV.tuple []) (show Gives cfg (76 : FuncId) [AV.int IntKind.i64 (0 : Int)] (AV.tuple []) from stop_ok) ⟨rfl, rfl⟩ ⟨rfl, rfl⟩ <| .fin ((ARes.ret (AV.tuple []), { boxes := [[AV.str s], [AV.func (79 : Nat) []], [AV.func (21 : Nat) []], [AV.sl (skF l) (List.map encL l)], [AV.str last], [AV.str [(44 : UInt8)]], [AV.int IntKind.i64 (0 : Int)]], toks := tkR encL l, loops := [] : Heap })) rfl) (by kernel_rfl)
        obtain ⟨r, k1, k2⟩ := key
        exact ⟨r, e.trans k1, last, k2⟩)
      obtain ⟨last, rfl⟩ := h2
      exact ⟨last, by rw [lim_try rfl, h1]; rfl⟩
    · rw [if_neg hc]
      obtain ⟨r, h1, h2⟩ := clo (fun r => r.1 = .pan (stopV (ck l))) (fun T hT => by
        obtain ⟨last, e⟩ := (rgTol s pf hp hpn s hl T hT).1 l hf
        have hst := stop_pan hc
        have key : Goes cfg a107 kr107_0.tail T ⟨[oTol0 s l, oTol1 l, oTol2 l, oTol3 l, [.str last], [.str [44]], [.int .i64 0]], tkR encL l, []⟩ (fun r => r.1 = .pan (stopV (ck l))) := by
          exact goG 60 _  hT  (.callG ([AV.sl (skF l) (List.map encL l)]) (AV.int IntKind.i64 (ck l)) (show Gives cfg (21 : FuncId) [AV.sl SK.sh (List.map encL l)] (AV.int IntKind.i64 (ck l)) from hg) Shuts.p ⟨rfl, rfl⟩ <| .callP ([AV.int IntKind.i64 (ck l)]) ({ boxes := [[AV.str s], [AV.func (79 : Nat) []], [AV.func (21 : Nat) []], [AV.sl (skF l) (List.map encL l)], [AV.str last], [AV.str [(44 : UInt8)]], [AV.int IntKind.i64 (0 : Int)]], toks := tkR encL l, loops := [] : Heap }) (show Pans cfg (76 : FuncId) [AV.int IntKind.i64 (ck l)] (stopV (ck l)) from hst) ⟨rfl, rfl⟩ rfl rfl) (by kernel_rfl)
        obtain ⟨r, k1, k2⟩ := key
        exact ⟨r, e.trans k1, k2⟩)
      obtain ⟨x, H'⟩ := r
      simp only at h2
      subst h2
      exact ⟨H', by rw [lim_try rfl, h1]; rfl⟩
theorem partsTol (pf : List UInt8 → Option Tol) (ck : List Tol → Int) (hp : ∀ p x, p.length ≤ 1000 → pf p = some x → Gives cfg 79 [.str p] (encL x)) (hpn : ∀ p, p.length ≤ 1000 → p ≠ [] → pf p = none → Pans cfg 79 [.str p] (stopV 2))
    (hck : ∀ l : List Tol, Gives cfg 21 [.sl .sh (l.map encL)] (.int .i64 (ck l))) (s : List UInt8) (hl : s.length ≤ 1000) :
    Gives cfg 78 [.str s, .func 79 [], .func 21 []] (.tuple [rowF encL (parsed pf ck s).1, .int .i64 (parsed pf ck s).2]) := by
  refine Gives.run (l78 _ _) ?_
  by_cases hs : s = [45]
  · subst hs
    exact goG 60 []  trivial  (.tt <| .fin ((ARes.ret (AV.tuple [AV.sl SK.full [], AV.int IntKind.i64 (0 : Int)]), { boxes := [[AV.str [(45 : UInt8)]], [AV.func (79 : Nat) []], [AV.func (21 : Nat) []]], toks := [], loops := [] : Heap })) rfl) (by kernel_rfl)
  · have ht := tryTol pf ck hp hpn hck s hl
    simp only [parsed, if_neg hs]
    cases hf : foldE (collect pf) [] (parts 44 s) with
    | none =>
      simp only [hf] at ht ⊢
      obtain ⟨H', ht⟩ := ht
      have hd := does_callE (xs := [.func 107 [.ptr 0 0, .ptr 3 0, .ptr 1 0, .ptr 2 0]]) (caps := []) ht rfl rfl
      generalize trunc _ _ _ H' = H2 at hd
      exact goG 60 []  trivial  (.no (show (s == [(45 : UInt8)]) = false from Bool.eq_false_iff.2 (show ¬ ((s == [(45 : UInt8)]) = true) from (by simpa using hs))) <| .effY (show Does cfg (AOp.call (Opd.c (AV.func (101 : FuncId) [])) (List.map Opd.c [AV.func (107 : FuncId) [AV.ptr (0 : Nat) (0 : Nat), AV.ptr (3 : Nat) (0 : Nat), AV.ptr (1 : Nat) (0 : Nat), AV.ptr (2 : Nat) (0 : Nat)]])) { boxes := [oTol0 s [], oTol1 [], oTol2 [], oTol3 []], toks := [], loops := [] : Heap } (shutA (AV.int IntKind.i64 (2 : Int))) H2 from hd) <| .tt <| .fin ((ARes.ret (AV.tuple [AV.sl SK.full [], AV.int IntKind.i64 (2 : Int)]), H2)) rfl) (by kernel_rfl)
    | some l =>
      simp only [hf] at ht ⊢
      by_cases hc : ck l = 0
      · rw [if_pos hc] at ht
        simp only [if_pos hc]
        obtain ⟨last, ht⟩ := ht
        have hd : Does cfg (.call (.c (.func 101 [])) [.c (.func 107 [.ptr 0 0, .ptr 3 0, .ptr 1 0, .ptr 2 0])]) ⟨[oTol0 s [], oTol1 [], oTol2 [], oTol3 []], [], []⟩ (.int .i64 0) ⟨[oTol0 s l, oTol1 l, oTol2 l, oTol3 l], tkR encL l, []⟩ := by
          have hd := does_callE (xs := [.func 107 [.ptr 0 0, .ptr 3 0, .ptr 1 0, .ptr 2 0]]) (caps := []) ht rfl rfl
          refine Eq.mp ?_ hd
          congr 1
          cases l <;> rfl
        exact goG 60 []  trivial  (.no (show (s == [(45 : UInt8)]) = false from Bool.eq_false_iff.2 (show ¬ ((s == [(45 : UInt8)]) = true) from (by simpa using hs))) <| .effY (show Does cfg (AOp.call (Opd.c (AV.func (101 : FuncId) [])) [Opd.c (AV.func (107 : FuncId) [AV.ptr (0 : Nat) (0 : Nat), AV.ptr (3 : Nat) (0 : Nat), AV.ptr (1 : Nat) (0 : Nat), AV.ptr (2 : Nat) (0 : Nat)])]) { boxes := [oTol0 s [], oTol1 [], oTol2 [], oTol3 []], toks := [], loops := [] : Heap } (AV.int IntKind.i64 (0 : Int)) { boxes := [oTol0 s l, oTol1 l, oTol2 l, oTol3 l], toks := tkR encL l, loops := [] : Heap } from hd) <| .ff <| .fin ((ARes.ret (AV.tuple [AV.sl (skF l) (List.map encL l), AV.int IntKind.i64 (0 : Int)]), { boxes := [[AV.str s], [AV.func (79 : Nat) []], [AV.func (21 : Nat) []], [AV.sl (skF l) (List.map encL l)]], toks := tkR encL l, loops := [] : Heap })) rfl) (by kernel_rfl)
      · rw [if_neg hc] at ht
        simp only [if_neg hc]
        obtain ⟨H', ht⟩ := ht
        have hd := does_callE (xs := [.func 107 [.ptr 0 0, .ptr 3 0, .ptr 1 0, .ptr 2 0]]) (caps := []) ht rfl rfl
        generalize trunc _ _ _ H' = H2 at hd
        exact goG 60 []  trivial  (.no (show (s == [(45 : UInt8)]) = false from Bool.eq_false_iff.2 (show ¬ ((s == [(45 : UInt8)]) = true) from (by simpa using hs))) <| .effY (show Does cfg (AOp.call (Opd.c (AV.func (101 : FuncId) [])) (List.map Opd.c [AV.func (107 : FuncId) [AV.ptr (0 : Nat) (0 : Nat), AV.ptr (3 : Nat) (0 : Nat), AV.ptr (1 : Nat) (0 : Nat), AV.ptr (2 : Nat) (0 : Nat)]])) { boxes := [oTol0 s [], oTol1 [], oTol2 [], oTol3 []], toks := [], loops := [] : Heap } (shutA (AV.int IntKind.i64 (ck l))) H2 from hd) <| .yes (show (ck l != (0 : Int)) = true from (by simpa using hc)) <| .fin ((ARes.ret (AV.tuple [AV.sl SK.full [], AV.int IntKind.i64 (ck l)]), H2)) rfl) (by kernel_rfl)

section
variable (s0 : List UInt8)
end

section
variable (s0 : List UInt8)
end
end Go.Aa.T

set_option linter.unusedVariables false
set_option linter.unusedSimpArgs false
set_option maxRecDepth 100000
namespace Go.Aa.T
open Go.Aa Go.Proofs
theorem in0_data {nb nt : Nat} : ∀ {x : AV}, data0 x = true → in0 nb nt x = true
  | .undef, h => by cases h
  | .bool _, _ => rfl
  | .int .., _ => rfl
  | .flt _, _ => rfl
  | .nan, _ => rfl
  | .str _, _ => rfl
  | .sl .sh _, _ => rfl
  | .sl .full _, _ => rfl
  | .sl (.own _) _, h => by cases h
  | .agg _, h => by cases h
  | .tuple _, h => by cases h
  | .ptr .., h => by cases h
  | .ref _, _ => rfl
  | .nilptr, _ => rfl
  | .func .., h => by cases h
  | .nilFunc, _ => rfl
  | .iface .., h => by cases h
  | .nilIface, _ => rfl
  | .msl .., h => by cases h
  | .yield _, h => by cases h
theorem in2_data0 {nb nt : Nat} {x : AV} (h : data0 x = true) : in2 nb nt x = true := by
  have := in0_data (nb := nb) (nt := nt) h
  cases x <;> first | exact this | cases h
theorem trunc_plain {bs ex : List (List AV)} {ts : List Nat} {b : Bool} (hb : bs.all (·.all data0) = true) : trunc bs.length ts.length (.bool b) ⟨bs ++ ex, ts, []⟩ = ⟨bs, ts, []⟩ := by
  have hin : ∀ nb nt, bs.all (·.all (in2 nb nt)) = true := fun nb nt => by
    rw [List.all_eq_true] at hb ⊢
    intro l hl
    have := hb l hl
    rw [List.all_eq_true] at this ⊢
    exact fun x hx => in2_data0 (this x hx)
  unfold trunc
  simp only [List.take_left', hin, List.all_nil, Bool.true_and, Bool.and_true]
  simp [within, in2, in1, in0]

section
variable {H : Heap} {k : Nat} {p : Taint → Bool}
theorem idxT_loop (hd : ∀ y : Taint, Does cfg (.call (.c (.func 64 [.ptr k 0])) [.c (encT y)]) H (.bool (p y)) H) (l : List Taint) (hn : l.length < 9223372036854775807) : ∀ (post : List Taint) (i : Nat) (hdr : l.drop i = post) (T : Env)
    (hT : Has T [(0, .sl .sh (l.map encT)), (1, .func 64 [.ptr k 0]), (7, .int .i64 l.length), (8, .int .i64 i)]),
    Goes cfg a98 k98_0 T H (fun r => r = (.ret (.int .i64 (fidxB p post i)), H)) := by
  intro post
  induction post with
  | nil =>
    intro i hdr T hT
    have hge := drop_ge hdr
    exact goG 60 _  hT  (.no (show (decide ((↑i : Int) < (↑l.length : Int))) = false from decide_eq_false (show ¬ ((↑i : Int) < (↑l.length : Int)) from (by omega))) <| .fin ((ARes.ret (AV.int IntKind.i64 (-1 : Int)), H)) rfl) (by kernel_rfl)
  | cons x post ih =>
    intro i hdr T hT
    have hlt := drop_lt hdr
    have hnx := drop_next hdr
    have hdx := hd x
    cases hp : p x with
    | true =>
      rw [hp] at hdx
      have e : fidxB p (x :: post) i = i := by simp [fidxB, hp]
      rw [e]
      exact goG 60 _  hT  (.yes (show (decide ((↑i : Int) < (↑l.length : Int))) = true from decide_eq_true (show (↑i : Int) < (↑l.length : Int) from (by omega))) <| .idx (show idxA (3 : Nat) (AV.sl SK.sh (List.map encT l)) (AV.int IntKind.i64 (↑i : Int)) = some (AV.ref (encT x).cells) from idx_row hdr (by rfl)) <| .load (show loadA true (3 : Nat) H (AV.ref [AV.str x.key, AV.str x.val, AV.bool x.hard]) = some (AV.agg [AV.str x.key, AV.str x.val, AV.bool x.hard]) from rfl) <| .effY (show Does cfg (AOp.call (Opd.c (AV.func (64 : FuncId) [AV.ptr k (0 : Nat)])) [Opd.c (encT x)]) H (AV.bool true) H from hdx) <| .tt <| .fin ((ARes.ret (AV.int IntKind.i64 (↑i : Int)), H)) rfl) (by kernel_rfl)
    | false =>
      rw [hp] at hdx
      have e : fidxB p (x :: post) i = fidxB p post (i + 1) := by simp [fidxB, hp]
      rw [e]
      exact goG 60 _  hT  (.yes (show (decide ((↑i : Int) < (↑l.length : Int))) = true from decide_eq_true (show (↑i : Int) < (↑l.length : Int) from (by omega))) <| .idx (show idxA (3 : Nat) (AV.sl SK.sh (List.map encT l)) (AV.int IntKind.i64 (↑i : Int)) = some (AV.ref (encT x).cells) from idx_row hdr (by rfl)) <| .load (show loadA true (3 : Nat) H (AV.ref [AV.str x.key, AV.str x.val, AV.bool x.hard]) = some (AV.agg [AV.str x.key, AV.str x.val, AV.bool x.hard]) from rfl) <| .effY (show Does cfg (AOp.call (Opd.c (AV.func (64 : FuncId) [AV.ptr k (0 : Nat)])) [Opd.c (encT x)]) H (AV.bool false) H from hdx) <| .ff <| .bin (show binA BinOp.add (AV.int IntKind.i64 (↑i : Int)) (AV.int IntKind.i64 (1 : Int)) = some (AV.int IntKind.i64 (↑(i + (1 : Nat)) : Int)) from inc_i (by omega)) <| .cutQ k98_0 [(0, AV.sl SK.sh (List.map encT l)), (1, AV.func (64 : Nat) [AV.ptr k (0 : Nat)]), (7, AV.int IntKind.i64 (↑l.length : Int)), (8, AV.int IntKind.i64 (↑(i + (1 : Nat)) : Int))] (H) (fun T hT => (ih (i + (1 : Nat)) hnx T hT))) (by kernel_rfl)
theorem idxT (hd : ∀ y : Taint, Does cfg (.call (.c (.func 64 [.ptr k 0])) [.c (encT y)]) H (.bool (p y)) H) (l : List Taint) (hn : l.length < 9223372036854775807) :
    lim cfg (.fn 98) [.sl .sh (l.map encT), .func 64 [.ptr k 0]] H = some (.ret (.int .i64 (fidxB p l 0)), H) := by
  rw [l98]
  have h := idxT_loop hd l hn l 0 rfl
  have key : Goes cfg a98 [.c c98] (initEnv [.sl .sh (l.map encT), .func 64 [.ptr k 0]]) H (fun r => r = (.ret (.int .i64 (fidxB p l 0)), H)) := by
    exact goG 60 []  trivial  (.len (show lenA false (AV.sl SK.sh (List.map encT l)) = some (AV.int IntKind.i64 (↑l.length : Int)) from len_map _) <| .cutQ k98_0 [(0, AV.sl SK.sh (List.map encT l)), (1, AV.func (64 : Nat) [AV.ptr k (0 : Nat)]), (7, AV.int IntKind.i64 (↑l.length : Int)), (8, AV.int IntKind.i64 (0 : Int))] (H) (fun T hT => (h T hT))) (by kernel_rfl)
  obtain ⟨r, h, rfl⟩ := key
  exact h
theorem hasT (hd : ∀ y : Taint, Does cfg (.call (.c (.func 64 [.ptr k 0])) [.c (encT y)]) H (.bool (p y)) H) (l : List Taint) (hn : l.length < 9223372036854775807) (htr : trunc H.boxes.length H.toks.length (.int .i64 (fidxB p l 0)) H = H) :
    lim cfg (.fn 63) [.sl .sh (l.map encT), .func 64 [.ptr k 0]] H = some (.ret (.bool (l.any p)), H) := by
  rw [l63]
  have h0 := does_callE (xs := [.sl .sh (l.map encT), .func 64 [.ptr k 0]]) (caps := []) (idxT hd l hn) rfl rfl
  rw [show shutA (.int .i64 (fidxB p l 0)) = .int .i64 (fidxB p l 0) from rfl, htr] at h0
  have hf := fidxB_ge p l 0
  have key : Goes cfg a63 [.c c63] (initEnv [.sl .sh (l.map encT), .func 64 [.ptr k 0]]) H (fun r => r = (.ret (.bool (l.any p)), H)) := by
    exact goG 60 []  trivial  (.effY (show Does cfg (AOp.call (Opd.c (AV.func (98 : FuncId) [])) (List.map Opd.c [AV.sl SK.sh (List.map encT l), AV.func (64 : FuncId) [AV.ptr k (0 : Nat)]])) H (AV.int IntKind.i64 (fidxB p l (0 : Nat))) H from h0) <| .fin ((ARes.ret (AV.bool (decide ((0 : Int) ≤ fidxB p l (0 : Nat)))), H)) (by simp [← hf])) (by kernel_rfl)
  obtain ⟨r, h, rfl⟩ := key
  exact h
end
theorem one64 (x y : Taint) (bs : List (List AV)) (hb : bs.all (·.all data0) = true) : Does cfg (.call (.c (.func 64 [.ptr bs.length 0])) [.c (encT y)]) ⟨bs ++ [x.cells], [], []⟩ (.bool (same x y)) ⟨bs ++ [x.cells], [], []⟩ := by
  have key : Goes cfg a64 [.c c64] (initEnv [encT y, .ptr bs.length 0]) ⟨bs ++ [x.cells], [], []⟩ (fun r => r = (.ret (.bool (same x y)), ⟨(bs ++ [x.cells]) ++ [y.cells], [], []⟩)) := by
    exact goG 60 []  trivial  (.load (show loadA false (1 : Nat) { boxes := bs ++ [[AV.str x.key, AV.str x.val, AV.bool x.hard]] ++ [[AV.str y.key, AV.str y.val, AV.bool y.hard]], toks := [], loops := [] : Heap } (AV.ptr (bs ++ [[AV.str x.key, AV.str x.val, AV.bool x.hard]]).length (0 : Nat)) = some (AV.str y.key) from load_box (cs := [AV.str y.key, AV.str y.val, AV.bool y.hard]) (by simp) rfl) <| .load (show loadA false (1 : Nat) { boxes := bs ++ [[AV.str x.key, AV.str x.val, AV.bool x.hard]] ++ [[AV.str y.key, AV.str y.val, AV.bool y.hard]], toks := [], loops := [] : Heap } (AV.ptr bs.length (0 : Nat)) = some (AV.str x.key) from load_box (cs := [AV.str x.key, AV.str x.val, AV.bool x.hard]) (by simp) rfl) <| .split ((y.key == x.key) = true) (fun h1 => .yes (show (y.key == x.key) = true from h1) <| .load (show loadA false (1 : Nat) { boxes := bs ++ [[AV.str x.key, AV.str x.val, AV.bool x.hard]] ++ [[AV.str y.key, AV.str y.val, AV.bool y.hard]], toks := [], loops := [] : Heap } (AV.ptr (bs ++ [[AV.str x.key, AV.str x.val, AV.bool x.hard]]).length (1 : Nat)) = some (AV.str y.val) from load_box (cs := [AV.str y.key, AV.str y.val, AV.bool y.hard]) (by simp) rfl) <| .load (show loadA false (1 : Nat) { boxes := bs ++ [[AV.str x.key, AV.str x.val, AV.bool x.hard]] ++ [[AV.str y.key, AV.str y.val, AV.bool y.hard]], toks := [], loops := [] : Heap } (AV.ptr bs.length (1 : Nat)) = some (AV.str x.val) from load_box (cs := [AV.str x.key, AV.str x.val, AV.bool x.hard]) (by simp) rfl) <| .fin ((ARes.ret (AV.bool (y.val == x.val)), { boxes := bs ++ [[AV.str x.key, AV.str x.val, AV.bool x.hard]] ++ [[AV.str y.key, AV.str y.val, AV.bool y.hard]], toks := [], loops := [] : Heap })) (by grind [same, Taint.cells])) (fun h1 => .no (show (y.key == x.key) = false from Bool.eq_false_iff.2 (show ¬ ((y.key == x.key) = true) from h1)) <| .fin ((ARes.ret (AV.bool false), { boxes := bs ++ [[AV.str x.key, AV.str x.val, AV.bool x.hard]] ++ [[AV.str y.key, AV.str y.val, AV.bool y.hard]], toks := [], loops := [] : Heap })) (by simp_all [same, Taint.cells]))) (by kernel_rfl)
  obtain ⟨r, h, rfl⟩ := key
  have h2 : lim cfg (.fn 64) ([encT y] ++ [.ptr bs.length 0]) ⟨bs ++ [x.cells], [], []⟩ = some (.ret (.bool (same x y)), ⟨(bs ++ [x.cells]) ++ [y.cells], [], []⟩) := by
    rw [l64]; exact h
  have hd := does_callE h2 rfl rfl
  rwa [show shutA (.bool (same x y)) = .bool (same x y) from rfl, trunc_plain (bs := bs ++ [x.cells]) (ex := [y.cells]) (ts := []) (by simp only [List.all_append, hb]; rfl)] at hd
theorem trunc_plainI {bs : List (List AV)} {ts : List Nat} {n : Int} (hb : bs.all (·.all data0) = true) : trunc bs.length ts.length (.int .i64 n) ⟨bs, ts, []⟩ = ⟨bs, ts, []⟩ := by
  have h := trunc_plain (ex := []) (ts := ts) (b := true) hb
  rw [List.append_nil] at h
  exact h
theorem has63 (x : Taint) (l : List Taint) (hn : l.length < 9223372036854775807) (bs : List (List AV)) (hb : bs.all (·.all data0) = true) :
    Does cfg (.call (.c (.func 63 [])) [.c (.sl .sh (l.map encT)), .c (.func 64 [.ptr bs.length 0])]) ⟨bs ++ [x.cells], [], []⟩ (.bool (l.any (same x))) ⟨bs ++ [x.cells], [], []⟩ := by
  have hb2 : (bs ++ [x.cells]).all (·.all data0) = true := by simp only [List.all_append, hb]; rfl
  have h := hasT (H := ⟨bs ++ [x.cells], [], []⟩) (k := bs.length) (p := same x) (fun y => one64 x y bs hb) l hn (trunc_plainI hb2)
  have hd := does_callE (xs := [.sl .sh (l.map encT), .func 64 [.ptr bs.length 0]]) (caps := []) h rfl rfl
  have e := trunc_plain (bs := bs ++ [x.cells]) (ex := []) (ts := []) (b := l.any (same x)) hb2
  rw [List.append_nil] at e
  rwa [show shutA (.bool (l.any (same x))) = .bool (l.any (same x)) from rfl, e] at hd
theorem ckT2_loop (l : List Taint) (hn : l.length ≤ 8) : ∀ (post : List Taint) (i : Nat) (bs : List (List AV)) (hb : bs.all (·.all data0) = true) (hd : l.drop i = post) (T : Env) (hT : Has T [(0, .sl .sh (l.map encT)), (8, .sl .sh (l.map encT)), (9, .int .i64 l.length), (10, .int .i64 i)]),
    Goes cfg a20 k20_0 T ⟨bs, [], []⟩ (IsRet (.int .i64 (ckTl l i post))) := by
  intro post
  induction post with
  | nil =>
    intro i bs hb hd T hT
    have hge := drop_ge hd
    exact goG 60 _  hT  (.no (show (decide ((↑i : Int) < (↑l.length : Int))) = false from decide_eq_false (show ¬ ((↑i : Int) < (↑l.length : Int)) from (by omega))) <| .fin ((ARes.ret (AV.int IntKind.i64 (0 : Int)), { boxes := bs, toks := [], loops := [] : Heap })) rfl) (by kernel_rfl)
  | cons x post ih =>
    intro i bs hb hd T hT
    have hlt := drop_lt hd
    have hnx := drop_next hd
    have hc := has63 x (l.take i) (by simp; omega) bs hb
    have hb2 : (bs ++ [x.cells]).all (·.all data0) = true := by simp only [List.all_append, hb]; rfl
    have ih2 := ih (i + 1) (bs ++ [[.str x.key, .str x.val, .bool x.hard]]) hb2 hnx
    exact goG 90 _  hT  (.yes (show (decide ((↑i : Int) < (↑l.length : Int))) = true from decide_eq_true (show (↑i : Int) < (↑l.length : Int) from (by omega))) <| .idx (show idxA (3 : Nat) (AV.sl SK.sh (List.map encT l)) (AV.int IntKind.i64 (↑i : Int)) = some (AV.ref (encT x).cells) from idx_row hd (by rfl)) <| .load (show loadA true (3 : Nat) { boxes := bs, toks := [], loops := [] : Heap } (AV.ref [AV.str x.key, AV.str x.val, AV.bool x.hard]) = some (AV.agg [AV.str x.key, AV.str x.val, AV.bool x.hard]) from rfl) <| .store (show storeA (3 : Nat) { boxes := bs ++ [[AV.str [], AV.str [], AV.bool false]], toks := [], loops := [] : Heap } (AV.ptr bs.length (0 : Nat)) (AV.agg [AV.str x.key, AV.str x.val, AV.bool x.hard]) = some ({ boxes := bs ++ [[AV.str x.key, AV.str x.val, AV.bool x.hard]], toks := [], loops := [] : Heap }) from store_box2 (cs := [AV.str [], AV.str [], AV.bool false]) (cs' := [AV.str x.key, AV.str x.val, AV.bool x.hard]) (by simp) rfl (by simp [List.set_append])) <| .load (show loadA false (1 : Nat) { boxes := bs ++ [[AV.str x.key, AV.str x.val, AV.bool x.hard]], toks := [], loops := [] : Heap } (AV.ptr bs.length (0 : Nat)) = some (AV.str x.key) from load_box (cs := [AV.str x.key, AV.str x.val, AV.bool x.hard]) (by simp) rfl) <| .callG ([AV.str x.key]) (AV.bool (isName x.key)) (show Gives cfg (62 : FuncId) [AV.str x.key] (AV.bool (isName x.key)) from res_name _) ⟨rfl, rfl⟩ ⟨rfl, rfl⟩ <| .split (isName x.key = true) (fun h1 => .no (show (!isName x.key) = false from by have hh : isName x.key = true := h1; simp [hh]) <| .load (show loadA false (1 : Nat) { boxes := bs ++ [[AV.str x.key, AV.str x.val, AV.bool x.hard]], toks := [], loops := [] : Heap } (AV.ptr bs.length (1 : Nat)) = some (AV.str x.val) from load_box (cs := [AV.str x.key, AV.str x.val, AV.bool x.hard]) (by simp) rfl) <| .callG ([AV.str x.val]) (AV.bool (isName x.val)) (show Gives cfg (62 : FuncId) [AV.str x.val] (AV.bool (isName x.val)) from res_name _) ⟨rfl, rfl⟩ ⟨rfl, rfl⟩ <| .split (isName x.val = true) (fun h2 => .no (show (!isName x.val) = false from by have hh : isName x.val = true := h2; simp [hh]) <| .slice (show sliceA (3 : Nat) (AV.sl SK.sh (List.map encT l)) none (some (AV.int IntKind.i64 (↑i : Int))) none = some (AV.sl SK.sh (List.map encT (List.take i l))) from slice_to (by omega) (by rfl) (by exact cellT)) <| .effY (show Does cfg (AOp.call (Opd.c (AV.func (63 : FuncId) [])) [Opd.c (AV.sl SK.sh (List.map encT (List.take i l))), Opd.c (AV.func (64 : FuncId) [AV.ptr bs.length (0 : Nat)])]) { boxes := bs ++ [x.cells], toks := [], loops := [] : Heap } (AV.bool ((List.take i l).any (same x))) { boxes := bs ++ [x.cells], toks := [], loops := [] : Heap } from hc) <| .split ((List.take i l).any (same x) = true) (fun h3 => .yes (show ((List.take i l).any (same x)) = true from h3) <| .fin ((ARes.ret (AV.int IntKind.i64 (6 : Int)), { boxes := bs ++ [[AV.str x.key, AV.str x.val, AV.bool x.hard]], toks := [], loops := [] : Heap })) (by simp only [IsRet]; grind [ckTl])) (fun h3 => .no (show ((List.take i l).any (same x)) = false from Bool.eq_false_iff.2 (show ¬ ((List.take i l).any (same x) = true) from h3)) <| .bin (show binA BinOp.add (AV.int IntKind.i64 (↑i : Int)) (AV.int IntKind.i64 (1 : Int)) = some (AV.int IntKind.i64 (↑(i + (1 : Nat)) : Int)) from inc_i (by omega)) <| .cutQ k20_0 [(0, AV.sl SK.sh (List.map encT l)), (8, AV.sl SK.sh (List.map encT l)), (9, AV.int IntKind.i64 (↑l.length : Int)), (10, AV.int IntKind.i64 (↑(i + (1 : Nat)) : Int))] ({ boxes := bs ++ [[AV.str x.key, AV.str x.val, AV.bool x.hard]], toks := [], loops := [] : Heap }) (fun T hT => (ih2 T hT).to (by grind [ckTl])))) (fun h2 => .yes (show (!isName x.val) = true from by have hh : ¬ (isName x.val = true) := h2; simp [hh]) <| .fin ((ARes.ret (AV.int IntKind.i64 (3 : Int)), { boxes := bs ++ [[AV.str x.key, AV.str x.val, AV.bool x.hard]], toks := [], loops := [] : Heap })) (by simp only [IsRet]; grind [ckTl]))) (fun h1 => .yes (show (!isName x.key) = true from by have hh : ¬ (isName x.key = true) := h1; simp [hh]) <| .tt <| .fin ((ARes.ret (AV.int IntKind.i64 (3 : Int)), { boxes := bs ++ [[AV.str x.key, AV.str x.val, AV.bool x.hard]], toks := [], loops := [] : Heap })) (by simp only [IsRet]; grind [ckTl]))) (by kernel_rfl)
theorem ckT2 (l : List Taint) : Gives cfg 20 [.sl .sh (l.map encT)] (.int .i64 (ckT l)) := by
  refine Gives.run (l20 _ _) ?_
  have h := fun hn => ckT2_loop l hn l 0 [] rfl rfl
  exact goG 60 []  trivial  (.len (show lenA false (AV.sl SK.sh (List.map encT l)) = some (AV.int IntKind.i64 (↑l.length : Int)) from len_map _) <| .split ((8 : Int) < (↑l.length : Int)) (fun h1 => .yes (show (decide ((8 : Int) < (↑l.length : Int))) = true from decide_eq_true (show (8 : Int) < (↑l.length : Int) from h1)) <| .fin ((ARes.ret (AV.int IntKind.i64 (4 : Int)), { boxes := [], toks := [], loops := [] : Heap })) (by simp only [IsRet]; grind [ckT])) (fun h1 => .no (show (decide ((8 : Int) < (↑l.length : Int))) = false from decide_eq_false (show ¬ ((8 : Int) < (↑l.length : Int)) from h1)) <| .len (show lenA false (AV.sl SK.sh (List.map encT l)) = some (AV.int IntKind.i64 (↑l.length : Int)) from len_map _) <| .cutQ k20_0 [(0, AV.sl SK.sh (List.map encT l)), (8, AV.sl SK.sh (List.map encT l)), (9, AV.int IntKind.i64 (↑l.length : Int)), (10, AV.int IntKind.i64 (0 : Int))] ({ boxes := [], toks := [], loops := [] : Heap }) (fun T hT => (h (by omega) T hT).to (by grind [ckT])))) (by kernel_rfl)
theorem ckL2_loop (l : List Tol) (hn : l.length ≤ 8) : ∀ (post : List Tol) (i : Nat) (bs : List (List AV)) (hd : l.drop i = post) (T : Env) (hT : Has T [(8, .sl .sh (l.map encL)), (9, .int .i64 l.length), (10, .int .i64 i)]),
    Goes cfg a21 k21_0 T ⟨bs, [], []⟩ (IsRet (.int .i64 (if post.all okL then 0 else 3))) := by
  intro post
  induction post with
  | nil =>
    intro i bs hd T hT
    have hge := drop_ge hd
    exact goG 60 _  hT  (.no (show (decide ((↑i : Int) < (↑l.length : Int))) = false from decide_eq_false (show ¬ ((↑i : Int) < (↑l.length : Int)) from (by omega))) <| .fin ((ARes.ret (AV.int IntKind.i64 (0 : Int)), { boxes := bs, toks := [], loops := [] : Heap })) rfl) (by kernel_rfl)
  | cons x post ih =>
    intro i bs hd T hT
    have hlt := drop_lt hd
    have hnx := drop_next hd
    have hv : isName [] = false := rfl
    exact goG 60 _  hT  (.yes (show (decide ((↑i : Int) < (↑l.length : Int))) = true from decide_eq_true (show (↑i : Int) < (↑l.length : Int) from (by omega))) <| .idx (show idxA (3 : Nat) (AV.sl SK.sh (List.map encL l)) (AV.int IntKind.i64 (↑i : Int)) = some (AV.ref (encL x).cells) from idx_row hd (by rfl)) <| .load (show loadA true (3 : Nat) { boxes := bs, toks := [], loops := [] : Heap } (AV.ref [AV.str x.key, AV.str x.val, AV.bool x.any]) = some (AV.agg [AV.str x.key, AV.str x.val, AV.bool x.any]) from rfl) <| .store (show storeA (3 : Nat) { boxes := bs ++ [[AV.str [], AV.str [], AV.bool false]], toks := [], loops := [] : Heap } (AV.ptr bs.length (0 : Nat)) (AV.agg [AV.str x.key, AV.str x.val, AV.bool x.any]) = some ({ boxes := bs ++ [[AV.str x.key, AV.str x.val, AV.bool x.any]], toks := [], loops := [] : Heap }) from store_box2 (cs := [AV.str [], AV.str [], AV.bool false]) (cs' := [AV.str x.key, AV.str x.val, AV.bool x.any]) (by simp) rfl (by simp [List.set_append])) <| .load (show loadA false (1 : Nat) { boxes := bs ++ [[AV.str x.key, AV.str x.val, AV.bool x.any]], toks := [], loops := [] : Heap } (AV.ptr bs.length (0 : Nat)) = some (AV.str x.key) from load_box (cs := [AV.str x.key, AV.str x.val, AV.bool x.any]) (by simp) rfl) <| .split ((x.key == []) = true) (fun h1 => .no (show (!x.key == []) = false from by have hh : (x.key == []) = true := h1; simp [hh]) <| .ff <| .load (show loadA false (1 : Nat) { boxes := bs ++ [[AV.str x.key, AV.str x.val, AV.bool x.any]], toks := [], loops := [] : Heap } (AV.ptr bs.length (2 : Nat)) = some (AV.bool x.any) from load_box (cs := [AV.str x.key, AV.str x.val, AV.bool x.any]) (by simp) rfl) <| .load (show loadA false (1 : Nat) { boxes := bs ++ [[AV.str x.key, AV.str x.val, AV.bool x.any]], toks := [], loops := [] : Heap } (AV.ptr bs.length (1 : Nat)) = some (AV.str x.val) from load_box (cs := [AV.str x.key, AV.str x.val, AV.bool x.any]) (by simp) rfl) <| .split ((if true = true then !x.any == (x.val == []) else x.any == (x.val == [])) = true) (fun h2 => .yes (show (if true = true then !x.any == (x.val == []) else x.any == (x.val == [])) = true from h2) <| .tt <| .fin ((ARes.ret (AV.int IntKind.i64 (3 : Int)), { boxes := bs ++ [[AV.str x.key, AV.str x.val, AV.bool x.any]], toks := [], loops := [] : Heap })) (by simp only [IsRet]; grind [okL])) (fun h2 => .no (show (if true = true then !x.any == (x.val == []) else x.any == (x.val == [])) = false from Bool.eq_false_iff.2 (show ¬ ((if true = true then !x.any == (x.val == []) else x.any == (x.val == [])) = true) from h2)) <| .load (show loadA false (1 : Nat) { boxes := bs ++ [[AV.str x.key, AV.str x.val, AV.bool x.any]], toks := [], loops := [] : Heap } (AV.ptr bs.length (2 : Nat)) = some (AV.bool x.any) from load_box (cs := [AV.str x.key, AV.str x.val, AV.bool x.any]) (by simp) rfl) <| .split (x.any = true) (fun h3 => .no (show (!x.any) = false from by have hh : x.any = true := h3; simp [hh]) <| .ff <| .bin (show binA BinOp.add (AV.int IntKind.i64 (↑i : Int)) (AV.int IntKind.i64 (1 : Int)) = some (AV.int IntKind.i64 (↑(i + (1 : Nat)) : Int)) from inc_i (by omega)) <| .cutQ k21_0 [(8, AV.sl SK.sh (List.map encL l)), (9, AV.int IntKind.i64 (↑l.length : Int)), (10, AV.int IntKind.i64 (↑(i + (1 : Nat)) : Int))] ({ boxes := bs ++ [[AV.str x.key, AV.str x.val, AV.bool x.any]], toks := [], loops := [] : Heap }) (fun T hT => (ih (i + (1 : Nat)) (bs ++ [[AV.str x.key, AV.str x.val, AV.bool x.any]]) hnx T hT).to (by grind [okL]))) (fun h3 => .yes (show (!x.any) = true from by have hh : ¬ (x.any = true) := h3; simp [hh]) <| .load (show loadA false (1 : Nat) { boxes := bs ++ [[AV.str x.key, AV.str x.val, AV.bool x.any]], toks := [], loops := [] : Heap } (AV.ptr bs.length (1 : Nat)) = some (AV.str x.val) from load_box (cs := [AV.str x.key, AV.str x.val, AV.bool x.any]) (by simp) rfl) <| .callG ([AV.str x.val]) (AV.bool (isName x.val)) (show Gives cfg (62 : FuncId) [AV.str x.val] (AV.bool (isName x.val)) from res_name _) ⟨rfl, rfl⟩ ⟨rfl, rfl⟩ <| .split (isName x.val = true) (fun h4 => .no (show (!isName x.val) = false from by have hh : isName x.val = true := h4; simp [hh]) <| .bin (show binA BinOp.add (AV.int IntKind.i64 (↑i : Int)) (AV.int IntKind.i64 (1 : Int)) = some (AV.int IntKind.i64 (↑(i + (1 : Nat)) : Int)) from inc_i (by omega)) <| .cutQ k21_0 [(8, AV.sl SK.sh (List.map encL l)), (9, AV.int IntKind.i64 (↑l.length : Int)), (10, AV.int IntKind.i64 (↑(i + (1 : Nat)) : Int))] ({ boxes := bs ++ [[AV.str x.key, AV.str x.val, AV.bool x.any]], toks := [], loops := [] : Heap }) (fun T hT => (ih (i + (1 : Nat)) (bs ++ [[AV.str x.key, AV.str x.val, AV.bool x.any]]) hnx T hT).to (by grind [okL]))) (fun h4 => .yes (show (!isName x.val) = true from by have hh : ¬ (isName x.val = true) := h4; simp [hh]) <| .fin ((ARes.ret (AV.int IntKind.i64 (3 : Int)), { boxes := bs ++ [[AV.str x.key, AV.str x.val, AV.bool x.any]], toks := [], loops := [] : Heap })) (by simp only [IsRet]; grind [okL]))))) (fun h1 => .yes (show (!x.key == []) = true from by have hh : ¬ ((x.key == []) = true) := h1; simp [hh]) <| .load (show loadA false (1 : Nat) { boxes := bs ++ [[AV.str x.key, AV.str x.val, AV.bool x.any]], toks := [], loops := [] : Heap } (AV.ptr bs.length (0 : Nat)) = some (AV.str x.key) from load_box (cs := [AV.str x.key, AV.str x.val, AV.bool x.any]) (by simp) rfl) <| .callG ([AV.str x.key]) (AV.bool (isName x.key)) (show Gives cfg (62 : FuncId) [AV.str x.key] (AV.bool (isName x.key)) from res_name _) ⟨rfl, rfl⟩ ⟨rfl, rfl⟩ <| .split (isName x.key = true) (fun h2 => .no (show (!isName x.key) = false from by have hh : isName x.key = true := h2; simp [hh]) <| .load (show loadA false (1 : Nat) { boxes := bs ++ [[AV.str x.key, AV.str x.val, AV.bool x.any]], toks := [], loops := [] : Heap } (AV.ptr bs.length (2 : Nat)) = some (AV.bool x.any) from load_box (cs := [AV.str x.key, AV.str x.val, AV.bool x.any]) (by simp) rfl) <| .load (show loadA false (1 : Nat) { boxes := bs ++ [[AV.str x.key, AV.str x.val, AV.bool x.any]], toks := [], loops := [] : Heap } (AV.ptr bs.length (1 : Nat)) = some (AV.str x.val) from load_box (cs := [AV.str x.key, AV.str x.val, AV.bool x.any]) (by simp) rfl) <| .split ((if true = true then !x.any == (x.val == []) else x.any == (x.val == [])) = true) (fun h3 => .yes (show (if true = true then !x.any == (x.val == []) else x.any == (x.val == [])) = true from h3) <| .tt <| .fin ((ARes.ret (AV.int IntKind.i64 (3 : Int)), { boxes := bs ++ [[AV.str x.key, AV.str x.val, AV.bool x.any]], toks := [], loops := [] : Heap })) (by simp only [IsRet]; grind [okL])) (fun h3 => .no (show (if true = true then !x.any == (x.val == []) else x.any == (x.val == [])) = false from Bool.eq_false_iff.2 (show ¬ ((if true = true then !x.any == (x.val == []) else x.any == (x.val == [])) = true) from h3)) <| .load (show loadA false (1 : Nat) { boxes := bs ++ [[AV.str x.key, AV.str x.val, AV.bool x.any]], toks := [], loops := [] : Heap } (AV.ptr bs.length (2 : Nat)) = some (AV.bool x.any) from load_box (cs := [AV.str x.key, AV.str x.val, AV.bool x.any]) (by simp) rfl) <| .split (x.any = true) (fun h4 => .no (show (!x.any) = false from by have hh : x.any = true := h4; simp [hh]) <| .ff <| .bin (show binA BinOp.add (AV.int IntKind.i64 (↑i : Int)) (AV.int IntKind.i64 (1 : Int)) = some (AV.int IntKind.i64 (↑(i + (1 : Nat)) : Int)) from inc_i (by omega)) <| .cutQ k21_0 [(8, AV.sl SK.sh (List.map encL l)), (9, AV.int IntKind.i64 (↑l.length : Int)), (10, AV.int IntKind.i64 (↑(i + (1 : Nat)) : Int))] ({ boxes := bs ++ [[AV.str x.key, AV.str x.val, AV.bool x.any]], toks := [], loops := [] : Heap }) (fun T hT => (ih (i + (1 : Nat)) (bs ++ [[AV.str x.key, AV.str x.val, AV.bool x.any]]) hnx T hT).to (by grind [okL]))) (fun h4 => .yes (show (!x.any) = true from by have hh : ¬ (x.any = true) := h4; simp [hh]) <| .load (show loadA false (1 : Nat) { boxes := bs ++ [[AV.str x.key, AV.str x.val, AV.bool x.any]], toks := [], loops := [] : Heap } (AV.ptr bs.length (1 : Nat)) = some (AV.str x.val) from load_box (cs := [AV.str x.key, AV.str x.val, AV.bool x.any]) (by simp) rfl) <| .callG ([AV.str x.val]) (AV.bool (isName x.val)) (show Gives cfg (62 : FuncId) [AV.str x.val] (AV.bool (isName x.val)) from res_name _) ⟨rfl, rfl⟩ ⟨rfl, rfl⟩ <| .split (isName x.val = true) (fun h5 => .no (show (!isName x.val) = false from by have hh : isName x.val = true := h5; simp [hh]) <| .bin (show binA BinOp.add (AV.int IntKind.i64 (↑i : Int)) (AV.int IntKind.i64 (1 : Int)) = some (AV.int IntKind.i64 (↑(i + (1 : Nat)) : Int)) from inc_i (by omega)) <| .cutQ k21_0 [(8, AV.sl SK.sh (List.map encL l)), (9, AV.int IntKind.i64 (↑l.length : Int)), (10, AV.int IntKind.i64 (↑(i + (1 : Nat)) : Int))] ({ boxes := bs ++ [[AV.str x.key, AV.str x.val, AV.bool x.any]], toks := [], loops := [] : Heap }) (fun T hT => (ih (i + (1 : Nat)) (bs ++ [[AV.str x.key, AV.str x.val, AV.bool x.any]]) hnx T hT).to (by grind [okL]))) (fun h5 => .yes (show (!isName x.val) = true from by have hh : ¬ (isName x.val = true) := h5; simp [hh]) <| .fin ((ARes.ret (AV.int IntKind.i64 (3 : Int)), { boxes := bs ++ [[AV.str x.key, AV.str x.val, AV.bool x.any]], toks := [], loops := [] : Heap })) (by simp only [IsRet]; grind [okL]))))) (fun h2 => .yes (show (!isName x.key) = true from by have hh : ¬ (isName x.key = true) := h2; simp [hh]) <| .tt <| .tt <| .fin ((ARes.ret (AV.int IntKind.i64 (3 : Int)), { boxes := bs ++ [[AV.str x.key, AV.str x.val, AV.bool x.any]], toks := [], loops := [] : Heap })) (by simp only [IsRet]; grind [okL])))) (by kernel_rfl)
theorem ckL2 (l : List Tol) : Gives cfg 21 [.sl .sh (l.map encL)] (.int .i64 (ckL l)) := by
  refine Gives.run (l21 _ _) ?_
  have h := fun hn => ckL2_loop l hn l 0 [] rfl
  exact goG 60 []  trivial  (.len (show lenA false (AV.sl SK.sh (List.map encL l)) = some (AV.int IntKind.i64 (↑l.length : Int)) from len_map _) <| .split ((8 : Int) < (↑l.length : Int)) (fun h1 => .yes (show (decide ((8 : Int) < (↑l.length : Int))) = true from decide_eq_true (show (8 : Int) < (↑l.length : Int) from h1)) <| .fin ((ARes.ret (AV.int IntKind.i64 (4 : Int)), { boxes := [], toks := [], loops := [] : Heap })) (by simp only [IsRet]; grind [ckL])) (fun h1 => .no (show (decide ((8 : Int) < (↑l.length : Int))) = false from decide_eq_false (show ¬ ((8 : Int) < (↑l.length : Int)) from h1)) <| .len (show lenA false (AV.sl SK.sh (List.map encL l)) = some (AV.int IntKind.i64 (↑l.length : Int)) from len_map _) <| .cutQ k21_0 [(8, AV.sl SK.sh (List.map encL l)), (9, AV.int IntKind.i64 (↑l.length : Int)), (10, AV.int IntKind.i64 (0 : Int))] ({ boxes := [], toks := [], loops := [] : Heap }) (fun T hT => (h (by omega) T hT).to (by grind [ckL])))) (by kernel_rfl)

def one1 (x : Tol) (t : Taint) : Bool := (x.key == [] || x.key == t.key) && (x.any || x.val == t.val)
theorem one1_eq (x : Tol) (t : Taint) : one1 x t = decide (x.one t) := by
  unfold one1 Tol.one
  by_cases h1 : x.key = [] <;> by_cases h2 : x.key = t.key <;> by_cases h3 : x.val = t.val <;> by_cases h4 : x.any = true <;> simp [*]
theorem bears2_loop (l : List Tol) (t : Taint) (hn : l.length < 9223372036854775807) : ∀ (post : List Tol) (i : Nat) (hd : l.drop i = post) (T : Env) (hT : Has T [(0, .sl .sh (l.map encL)), (3, .ptr 0 0), (5, .int .i64 i)]),
    Goes cfg a31 k31_0 T ⟨[t.cells], [], []⟩ (IsRet (.bool (decide (bears post t)))) := by
  intro post
  induction post with
  | nil =>
    intro i hd T hT
    have hge := drop_ge hd
    exact goG 60 _  hT  (.len (show lenA false (AV.sl SK.sh (List.map encL l)) = some (AV.int IntKind.i64 (↑l.length : Int)) from len_map _) <| .no (show (decide ((↑i : Int) < (↑l.length : Int))) = false from decide_eq_false (show ¬ ((↑i : Int) < (↑l.length : Int)) from (by omega))) <| .fin ((ARes.ret (AV.bool false), { boxes := [[AV.str t.key, AV.str t.val, AV.bool t.hard]], toks := [], loops := [] : Heap })) rfl) (by kernel_rfl)
  | cons x post ih =>
    intro i hd T hT
    have hlt := drop_lt hd
    have hnx := drop_next hd
    have e : decide (bears (x :: post) t) = (one1 x t || decide (bears post t)) := by rw [one1_eq]; simp [bears]
    rw [e]
    clear e
    exact goG 120 _  hT  (.len (show lenA false (AV.sl SK.sh (List.map encL l)) = some (AV.int IntKind.i64 (↑l.length : Int)) from len_map _) <| .yes (show (decide ((↑i : Int) < (↑l.length : Int))) = true from decide_eq_true (show (↑i : Int) < (↑l.length : Int) from (by omega))) <| .idx (show idxA (3 : Nat) (AV.sl SK.sh (List.map encL l)) (AV.int IntKind.i64 (↑i : Int)) = some (AV.ref (encL x).cells) from idx_row hd (by rfl)) <| .split ((x.key == []) = true) (fun h1 => .yes (show (x.key == []) = true from h1) <| .tt <| .idx (show idxA (3 : Nat) (AV.sl SK.sh (List.map encL l)) (AV.int IntKind.i64 (↑i : Int)) = some (AV.ref (encL x).cells) from idx_row hd (by rfl)) <| .split (x.any = true) (fun h2 => .yes (show (x.any) = true from h2) <| .tt <| .fin ((ARes.ret (AV.bool true), { boxes := [[AV.str t.key, AV.str t.val, AV.bool t.hard]], toks := [], loops := [] : Heap })) (by simp_all [IsRet, one1])) (fun h2 => .no (show (x.any) = false from Bool.eq_false_iff.2 (show ¬ (x.any = true) from h2)) <| .idx (show idxA (3 : Nat) (AV.sl SK.sh (List.map encL l)) (AV.int IntKind.i64 (↑i : Int)) = some (AV.ref (encL x).cells) from idx_row hd (by rfl)) <| .split ((x.val == t.val) = true) (fun h3 => .yes (show (x.val == t.val) = true from h3) <| .fin ((ARes.ret (AV.bool true), { boxes := [[AV.str t.key, AV.str t.val, AV.bool t.hard]], toks := [], loops := [] : Heap })) (by simp_all [IsRet, one1])) (fun h3 => .no (show (x.val == t.val) = false from Bool.eq_false_iff.2 (show ¬ ((x.val == t.val) = true) from h3)) <| .bin (show binA BinOp.add (AV.int IntKind.i64 (↑i : Int)) (AV.int IntKind.i64 (1 : Int)) = some (AV.int IntKind.i64 (↑(i + (1 : Nat)) : Int)) from inc_i (by omega)) <| .cutQ k31_0 [(0, AV.sl SK.sh (List.map encL l)), (3, AV.ptr (0 : Nat) (0 : Nat)), (5, AV.int IntKind.i64 (↑(i + (1 : Nat)) : Int))] ({ boxes := [[AV.str t.key, AV.str t.val, AV.bool t.hard]], toks := [], loops := [] : Heap }) (fun T hT => (ih (i + (1 : Nat)) hnx T hT).to (by simp_all [IsRet, one1]))))) (fun h1 => .no (show (x.key == []) = false from Bool.eq_false_iff.2 (show ¬ ((x.key == []) = true) from h1)) <| .idx (show idxA (3 : Nat) (AV.sl SK.sh (List.map encL l)) (AV.int IntKind.i64 (↑i : Int)) = some (AV.ref (encL x).cells) from idx_row hd (by rfl)) <| .split ((x.key == t.key) = true) (fun h2 => .yes (show (x.key == t.key) = true from h2) <| .idx (show idxA (3 : Nat) (AV.sl SK.sh (List.map encL l)) (AV.int IntKind.i64 (↑i : Int)) = some (AV.ref (encL x).cells) from idx_row hd (by rfl)) <| .split (x.any = true) (fun h3 => .yes (show (x.any) = true from h3) <| .tt <| .fin ((ARes.ret (AV.bool true), { boxes := [[AV.str t.key, AV.str t.val, AV.bool t.hard]], toks := [], loops := [] : Heap })) (by simp_all [IsRet, one1])) (fun h3 => .no (show (x.any) = false from Bool.eq_false_iff.2 (show ¬ (x.any = true) from h3)) <| .idx (show idxA (3 : Nat) (AV.sl SK.sh (List.map encL l)) (AV.int IntKind.i64 (↑i : Int)) = some (AV.ref (encL x).cells) from idx_row hd (by rfl)) <| .split ((x.val == t.val) = true) (fun h4 => .yes (show (x.val == t.val) = true from h4) <| .fin ((ARes.ret (AV.bool true), { boxes := [[AV.str t.key, AV.str t.val, AV.bool t.hard]], toks := [], loops := [] : Heap })) (by simp_all [IsRet, one1])) (fun h4 => .no (show (x.val == t.val) = false from Bool.eq_false_iff.2 (show ¬ ((x.val == t.val) = true) from h4)) <| .bin (show binA BinOp.add (AV.int IntKind.i64 (↑i : Int)) (AV.int IntKind.i64 (1 : Int)) = some (AV.int IntKind.i64 (↑(i + (1 : Nat)) : Int)) from inc_i (by omega)) <| .cutQ k31_0 [(0, AV.sl SK.sh (List.map encL l)), (3, AV.ptr (0 : Nat) (0 : Nat)), (5, AV.int IntKind.i64 (↑(i + (1 : Nat)) : Int))] ({ boxes := [[AV.str t.key, AV.str t.val, AV.bool t.hard]], toks := [], loops := [] : Heap }) (fun T hT => (ih (i + (1 : Nat)) hnx T hT).to (by simp_all [IsRet, one1]))))) (fun h2 => .no (show (x.key == t.key) = false from Bool.eq_false_iff.2 (show ¬ ((x.key == t.key) = true) from h2)) <| .ff <| .bin (show binA BinOp.add (AV.int IntKind.i64 (↑i : Int)) (AV.int IntKind.i64 (1 : Int)) = some (AV.int IntKind.i64 (↑(i + (1 : Nat)) : Int)) from inc_i (by omega)) <| .cutQ k31_0 [(0, AV.sl SK.sh (List.map encL l)), (3, AV.ptr (0 : Nat) (0 : Nat)), (5, AV.int IntKind.i64 (↑(i + (1 : Nat)) : Int))] ({ boxes := [[AV.str t.key, AV.str t.val, AV.bool t.hard]], toks := [], loops := [] : Heap }) (fun T hT => (ih (i + (1 : Nat)) hnx T hT).to (by simp_all [IsRet, one1]))))) (by kernel_rfl)
theorem bears2 (l : List Tol) (t : Taint) (hn : l.length < 9223372036854775807) : Gives cfg 31 [.sl .sh (l.map encL), encT t] (.bool (decide (bears l t))) := by
  refine Gives.run (l31 _ _) ?_
  have h := bears2_loop l t hn l 0 rfl
  exact goG 60 []  trivial  (.cutQ k31_0 [(0, AV.sl SK.sh (List.map encL l)), (3, AV.ptr (0 : Nat) (0 : Nat)), (5, AV.int IntKind.i64 (0 : Int))] ({ boxes := [[AV.str t.key, AV.str t.val, AV.bool t.hard]], toks := [], loops := [] : Heap }) (fun T hT => (h T hT))) (by kernel_rfl)
theorem worst2_loop (l : List Tol) (t : List Taint) (hl : l.length < 9223372036854775807) (hn : t.length < 9223372036854775807) : ∀ (post : List Taint) (i : Nat) (hd : t.drop i = post) (T : Env)
    (hT : Has T [(0, .sl .sh (l.map encL)), (1, .sl .sh (t.map encT)), (4, .ptr 0 0), (6, .int .i64 i)]),
    Goes cfg a23 k23_0 T ⟨[noT.cells], [], []⟩ (IsRet (worstV (worst l post))) := by
  intro post
  induction post with
  | nil =>
    intro i hd T hT
    have hge := drop_ge hd
    exact goG 60 _  hT  (.len (show lenA false (AV.sl SK.sh (List.map encT t)) = some (AV.int IntKind.i64 (↑t.length : Int)) from len_map _) <| .no (show (decide ((↑i : Int) < (↑t.length : Int))) = false from decide_eq_false (show ¬ ((↑i : Int) < (↑t.length : Int)) from (by omega))) <| .fin ((ARes.ret (AV.tuple [AV.agg [AV.str [], AV.str [], AV.bool false], AV.bool false]), { boxes := [[AV.str [], AV.str [], AV.bool false]], toks := [], loops := [] : Heap })) rfl) (by kernel_rfl)
  | cons x post ih =>
    intro i hd T hT
    have hlt := drop_lt hd
    have hnx := drop_next hd
    exact goG 90 _  hT  (.len (show lenA false (AV.sl SK.sh (List.map encT t)) = some (AV.int IntKind.i64 (↑t.length : Int)) from len_map _) <| .yes (show (decide ((↑i : Int) < (↑t.length : Int))) = true from decide_eq_true (show (↑i : Int) < (↑t.length : Int) from (by omega))) <| .idx (show idxA (3 : Nat) (AV.sl SK.sh (List.map encT t)) (AV.int IntKind.i64 (↑i : Int)) = some (AV.ref (encT x).cells) from idx_row hd (by rfl)) <| .split (x.hard = true) (fun h1 => .yes (show (x.hard) = true from h1) <| .idx (show idxA (3 : Nat) (AV.sl SK.sh (List.map encT t)) (AV.int IntKind.i64 (↑i : Int)) = some (AV.ref (encT x).cells) from idx_row hd (by rfl)) <| .callG ([AV.sl SK.sh (List.map encL l), AV.agg [AV.str x.key, AV.str x.val, AV.bool x.hard]]) (AV.bool (decide (bears l x))) (show Gives cfg (31 : FuncId) [AV.sl SK.sh (List.map encL l), encT x] (AV.bool (decide (bears l x))) from bears2 _ _ hl) ⟨rfl, rfl⟩ ⟨rfl, rfl⟩ <| .split (bears l x) (fun h2 => .no (show (!decide (bears l x)) = false from by have hh : bears l x := h2; simp [hh]) <| .bin (show binA BinOp.add (AV.int IntKind.i64 (↑i : Int)) (AV.int IntKind.i64 (1 : Int)) = some (AV.int IntKind.i64 (↑(i + (1 : Nat)) : Int)) from inc_i (by omega)) <| .cutQ k23_0 [(0, AV.sl SK.sh (List.map encL l)), (1, AV.sl SK.sh (List.map encT t)), (4, AV.ptr (0 : Nat) (0 : Nat)), (6, AV.int IntKind.i64 (↑(i + (1 : Nat)) : Int))] ({ boxes := [[AV.str [], AV.str [], AV.bool noT.hard]], toks := [], loops := [] : Heap }) (fun T hT => (ih (i + (1 : Nat)) hnx T hT).to (by grind [worst, unb]))) (fun h2 => .yes (show (!decide (bears l x)) = true from by have hh : ¬ (bears l x) := h2; simp [hh]) <| .idx (show idxA (3 : Nat) (AV.sl SK.sh (List.map encT t)) (AV.int IntKind.i64 (↑i : Int)) = some (AV.ref (encT x).cells) from idx_row hd (by rfl)) <| .fin ((ARes.ret (AV.tuple [AV.agg [AV.str x.key, AV.str x.val, AV.bool x.hard], AV.bool true]), { boxes := [[AV.str x.key, AV.str x.val, AV.bool x.hard]], toks := [], loops := [] : Heap })) (by simp only [IsRet]; grind [worst, unb, worstV, encT, Taint.cells]))) (fun h1 => .no (show (x.hard) = false from Bool.eq_false_iff.2 (show ¬ (x.hard = true) from h1)) <| .ff <| .bin (show binA BinOp.add (AV.int IntKind.i64 (↑i : Int)) (AV.int IntKind.i64 (1 : Int)) = some (AV.int IntKind.i64 (↑(i + (1 : Nat)) : Int)) from inc_i (by omega)) <| .cutQ k23_0 [(0, AV.sl SK.sh (List.map encL l)), (1, AV.sl SK.sh (List.map encT t)), (4, AV.ptr (0 : Nat) (0 : Nat)), (6, AV.int IntKind.i64 (↑(i + (1 : Nat)) : Int))] ({ boxes := [[AV.str [], AV.str [], AV.bool noT.hard]], toks := [], loops := [] : Heap }) (fun T hT => (ih (i + (1 : Nat)) hnx T hT).to (by grind [worst, unb])))) (by kernel_rfl)
theorem worst2 (l : List Tol) (t : List Taint) (hl : l.length < 9223372036854775807) (hn : t.length < 9223372036854775807) : Gives cfg 23 [.sl .sh (l.map encL), .sl .sh (t.map encT)] (worstV (worst l t)) := by
  refine Gives.run (l23 _ _) ?_
  have h := worst2_loop l t hl hn t 0 rfl
  exact goG 60 []  trivial  (.cutQ k23_0 [(0, AV.sl SK.sh (List.map encL l)), (1, AV.sl SK.sh (List.map encT t)), (4, AV.ptr (0 : Nat) (0 : Nat)), (6, AV.int IntKind.i64 (0 : Int))] ({ boxes := [[AV.str [], AV.str [], AV.bool false]], toks := [], loops := [] : Heap }) (fun T hT => (h T hT))) (by kernel_rfl)
theorem soft2_loop (l : List Tol) (t : List Taint) (hl : l.length < 9223372036854775807) (hn : t.length < 9223372036854775807) : ∀ (post : List Taint) (i n : Nat) (hd : t.drop i = post) (hni : n ≤ i) (T : Env)
    (hT : Has T [(0, .sl .sh (l.map encL)), (1, .sl .sh (t.map encT)), (5, .int .i64 n), (6, .int .i64 i)]),
    Goes cfg a25 k25_0 T Heap.nil (IsRet (.int .i64 ((n + soft l post : Nat) : Int))) := by
  intro post
  induction post with
  | nil =>
    intro i n hd hni T hT
    have hge := drop_ge hd
    exact goG 60 _  hT  (.len (show lenA false (AV.sl SK.sh (List.map encT t)) = some (AV.int IntKind.i64 (↑t.length : Int)) from len_map _) <| .no (show (decide ((↑i : Int) < (↑t.length : Int))) = false from decide_eq_false (show ¬ ((↑i : Int) < (↑t.length : Int)) from (by omega))) <| .fin ((ARes.ret (AV.int IntKind.i64 (↑n : Int)), { boxes := [], toks := [], loops := [] : Heap })) rfl) (by kernel_rfl)
  | cons x post ih =>
    intro i n hd hni T hT
    have hlt := drop_lt hd
    have hnx := drop_next hd
    exact goG 60 _  hT  (.len (show lenA false (AV.sl SK.sh (List.map encT t)) = some (AV.int IntKind.i64 (↑t.length : Int)) from len_map _) <| .yes (show (decide ((↑i : Int) < (↑t.length : Int))) = true from decide_eq_true (show (↑i : Int) < (↑t.length : Int) from (by omega))) <| .idx (show idxA (3 : Nat) (AV.sl SK.sh (List.map encT t)) (AV.int IntKind.i64 (↑i : Int)) = some (AV.ref (encT x).cells) from idx_row hd (by rfl)) <| .split (x.hard = true) (fun h1 => .no (show (!x.hard) = false from by have hh : x.hard = true := h1; simp [hh]) <| .ff <| .bin (show binA BinOp.add (AV.int IntKind.i64 (↑i : Int)) (AV.int IntKind.i64 (1 : Int)) = some (AV.int IntKind.i64 (↑(i + (1 : Nat)) : Int)) from inc_i (by omega)) <| .cutQ k25_0 [(0, AV.sl SK.sh (List.map encL l)), (1, AV.sl SK.sh (List.map encT t)), (5, AV.int IntKind.i64 (↑n : Int)), (6, AV.int IntKind.i64 (↑(i + (1 : Nat)) : Int))] ({ boxes := [], toks := [], loops := [] : Heap }) (fun T hT => (ih (i + (1 : Nat)) (n) hnx (by omega) T hT).to (by grind [soft, soft1]))) (fun h1 => .yes (show (!x.hard) = true from by have hh : ¬ (x.hard = true) := h1; simp [hh]) <| .idx (show idxA (3 : Nat) (AV.sl SK.sh (List.map encT t)) (AV.int IntKind.i64 (↑i : Int)) = some (AV.ref (encT x).cells) from idx_row hd (by rfl)) <| .callG ([AV.sl SK.sh (List.map encL l), AV.agg [AV.str x.key, AV.str x.val, AV.bool x.hard]]) (AV.bool (decide (bears l x))) (show Gives cfg (31 : FuncId) [AV.sl SK.sh (List.map encL l), encT x] (AV.bool (decide (bears l x))) from bears2 _ _ hl) ⟨rfl, rfl⟩ ⟨rfl, rfl⟩ <| .split (bears l x) (fun h2 => .no (show (!decide (bears l x)) = false from by have hh : bears l x := h2; simp [hh]) <| .bin (show binA BinOp.add (AV.int IntKind.i64 (↑i : Int)) (AV.int IntKind.i64 (1 : Int)) = some (AV.int IntKind.i64 (↑(i + (1 : Nat)) : Int)) from inc_i (by omega)) <| .cutQ k25_0 [(0, AV.sl SK.sh (List.map encL l)), (1, AV.sl SK.sh (List.map encT t)), (5, AV.int IntKind.i64 (↑n : Int)), (6, AV.int IntKind.i64 (↑(i + (1 : Nat)) : Int))] ({ boxes := [], toks := [], loops := [] : Heap }) (fun T hT => (ih (i + (1 : Nat)) (n) hnx (by omega) T hT).to (by grind [soft, soft1]))) (fun h2 => .yes (show (!decide (bears l x)) = true from by have hh : ¬ (bears l x) := h2; simp [hh]) <| .bin (show binA BinOp.add (AV.int IntKind.i64 (↑n : Int)) (AV.int IntKind.i64 (1 : Int)) = some (AV.int IntKind.i64 (↑(n + (1 : Nat)) : Int)) from inc_i (by omega)) <| .bin (show binA BinOp.add (AV.int IntKind.i64 (↑i : Int)) (AV.int IntKind.i64 (1 : Int)) = some (AV.int IntKind.i64 (↑(i + (1 : Nat)) : Int)) from inc_i (by omega)) <| .cutQ k25_0 [(0, AV.sl SK.sh (List.map encL l)), (1, AV.sl SK.sh (List.map encT t)), (5, AV.int IntKind.i64 (↑(n + (1 : Nat)) : Int)), (6, AV.int IntKind.i64 (↑(i + (1 : Nat)) : Int))] ({ boxes := [], toks := [], loops := [] : Heap }) (fun T hT => (ih (i + (1 : Nat)) (n + (1 : Nat)) hnx (by omega) T hT).to (by grind [soft, soft1]))))) (by kernel_rfl)
theorem soft2 (l : List Tol) (t : List Taint) (hl : l.length < 9223372036854775807) (hn : t.length < 9223372036854775807) : Gives cfg 25 [.sl .sh (l.map encL), .sl .sh (t.map encT)] (.int .i64 (soft l t : Nat)) := by
  refine Gives.run (l25 _ _) ?_
  have h := soft2_loop l t hl hn t 0 0 rfl (Nat.le_refl _)
  exact goG 60 []  trivial  (.cutQ k25_0 [(0, AV.sl SK.sh (List.map encL l)), (1, AV.sl SK.sh (List.map encT t)), (5, AV.int IntKind.i64 (0 : Int)), (6, AV.int IntKind.i64 (0 : Int))] ({ boxes := [], toks := [], loops := [] : Heap }) (fun T hT => (h T hT).to (by simp))) (by kernel_rfl)

theorem sameT_loop (l : List Taint) (hn : l.length < 9223372036854775807) : ∀ (post : List Taint) (i : Nat) (hd : l.drop i = post) (T : Env) (hT : Has T [(0, .sl .sh (l.map encT)), (1, .sl .sh (l.map encT)), (5, .int .i64 i)]),
    Goes cfg a34 k34_0 T Heap.nil (IsRet (.bool true)) := by
  intro post
  induction post with
  | nil =>
    intro i hd T hT
    have hge := drop_ge hd
    exact goG 60 _  hT  (.len (show lenA false (AV.sl SK.sh (List.map encT l)) = some (AV.int IntKind.i64 (↑l.length : Int)) from len_map _) <| .no (show (decide ((↑i : Int) < (↑l.length : Int))) = false from decide_eq_false (show ¬ ((↑i : Int) < (↑l.length : Int)) from (by omega))) <| .fin ((ARes.ret (AV.bool true), { boxes := [], toks := [], loops := [] : Heap })) rfl) (by kernel_rfl)
  | cons x post ih =>
    intro i hd T hT
    have hlt := drop_lt hd
    have hnx := drop_next hd
    exact goG 60 _  hT  (.len (show lenA false (AV.sl SK.sh (List.map encT l)) = some (AV.int IntKind.i64 (↑l.length : Int)) from len_map _) <| .yes (show (decide ((↑i : Int) < (↑l.length : Int))) = true from decide_eq_true (show (↑i : Int) < (↑l.length : Int) from (by omega))) <| .idx (show idxA (3 : Nat) (AV.sl SK.sh (List.map encT l)) (AV.int IntKind.i64 (↑i : Int)) = some (AV.ref (encT x).cells) from idx_row hd (by rfl)) <| .idx (show idxA (3 : Nat) (AV.sl SK.sh (List.map encT l)) (AV.int IntKind.i64 (↑i : Int)) = some (AV.ref (encT x).cells) from idx_row hd (by rfl)) <| .no (show (if true = true then !(x.key == x.key && (x.val == x.val && (x.hard == x.hard && true))) else x.key == x.key && (x.val == x.val && (x.hard == x.hard && true))) = false from Bool.eq_false_iff.2 (show ¬ ((if true = true then !(x.key == x.key && (x.val == x.val && (x.hard == x.hard && true))) else x.key == x.key && (x.val == x.val && (x.hard == x.hard && true))) = true) from (by simp))) <| .bin (show binA BinOp.add (AV.int IntKind.i64 (↑i : Int)) (AV.int IntKind.i64 (1 : Int)) = some (AV.int IntKind.i64 (↑(i + (1 : Nat)) : Int)) from inc_i (by omega)) <| .cutQ k34_0 [(0, AV.sl SK.sh (List.map encT l)), (1, AV.sl SK.sh (List.map encT l)), (5, AV.int IntKind.i64 (↑(i + (1 : Nat)) : Int))] ({ boxes := [], toks := [], loops := [] : Heap }) (fun T hT => (ih (i + (1 : Nat)) hnx T hT))) (by kernel_rfl)
theorem sameT (l : List Taint) (hn : l.length < 9223372036854775807) : Gives cfg 34 [.sl .sh (l.map encT), .sl .sh (l.map encT)] (.bool true) := by
  refine Gives.run (l34 _ _) ?_
  have h := sameT_loop l hn l 0 rfl
  exact goG 60 []  trivial  (.len (show lenA false (AV.sl SK.sh (List.map encT l)) = some (AV.int IntKind.i64 (↑l.length : Int)) from len_map _) <| .len (show lenA false (AV.sl SK.sh (List.map encT l)) = some (AV.int IntKind.i64 (↑l.length : Int)) from len_map _) <| .no (show ((↑l.length : Int) != (↑l.length : Int)) = false from Bool.eq_false_iff.2 (show ¬ (((↑l.length : Int) != (↑l.length : Int)) = true) from (by simp))) <| .cutQ k34_0 [(0, AV.sl SK.sh (List.map encT l)), (1, AV.sl SK.sh (List.map encT l)), (5, AV.int IntKind.i64 (0 : Int))] ({ boxes := [], toks := [], loops := [] : Heap }) (fun T hT => (h T hT))) (by kernel_rfl)
theorem sameL_loop (l : List Tol) (hn : l.length < 9223372036854775807) : ∀ (post : List Tol) (i : Nat) (hd : l.drop i = post) (T : Env) (hT : Has T [(0, .sl .sh (l.map encL)), (1, .sl .sh (l.map encL)), (5, .int .i64 i)]),
    Goes cfg a35 k35_0 T Heap.nil (IsRet (.bool true)) := by
  intro post
  induction post with
  | nil =>
    intro i hd T hT
    have hge := drop_ge hd
    exact goG 60 _  hT  (.len (show lenA false (AV.sl SK.sh (List.map encL l)) = some (AV.int IntKind.i64 (↑l.length : Int)) from len_map _) <| .no (show (decide ((↑i : Int) < (↑l.length : Int))) = false from decide_eq_false (show ¬ ((↑i : Int) < (↑l.length : Int)) from (by omega))) <| .fin ((ARes.ret (AV.bool true), { boxes := [], toks := [], loops := [] : Heap })) rfl) (by kernel_rfl)
  | cons x post ih =>
    intro i hd T hT
    have hlt := drop_lt hd
    have hnx := drop_next hd
    exact goG 60 _  hT  (.len (show lenA false (AV.sl SK.sh (List.map encL l)) = some (AV.int IntKind.i64 (↑l.length : Int)) from len_map _) <| .yes (show (decide ((↑i : Int) < (↑l.length : Int))) = true from decide_eq_true (show (↑i : Int) < (↑l.length : Int) from (by omega))) <| .idx (show idxA (3 : Nat) (AV.sl SK.sh (List.map encL l)) (AV.int IntKind.i64 (↑i : Int)) = some (AV.ref (encL x).cells) from idx_row hd (by rfl)) <| .idx (show idxA (3 : Nat) (AV.sl SK.sh (List.map encL l)) (AV.int IntKind.i64 (↑i : Int)) = some (AV.ref (encL x).cells) from idx_row hd (by rfl)) <| .no (show (if true = true then !(x.key == x.key && (x.val == x.val && (x.any == x.any && true))) else x.key == x.key && (x.val == x.val && (x.any == x.any && true))) = false from Bool.eq_false_iff.2 (show ¬ ((if true = true then !(x.key == x.key && (x.val == x.val && (x.any == x.any && true))) else x.key == x.key && (x.val == x.val && (x.any == x.any && true))) = true) from (by simp))) <| .bin (show binA BinOp.add (AV.int IntKind.i64 (↑i : Int)) (AV.int IntKind.i64 (1 : Int)) = some (AV.int IntKind.i64 (↑(i + (1 : Nat)) : Int)) from inc_i (by omega)) <| .cutQ k35_0 [(0, AV.sl SK.sh (List.map encL l)), (1, AV.sl SK.sh (List.map encL l)), (5, AV.int IntKind.i64 (↑(i + (1 : Nat)) : Int))] ({ boxes := [], toks := [], loops := [] : Heap }) (fun T hT => (ih (i + (1 : Nat)) hnx T hT))) (by kernel_rfl)
theorem sameL (l : List Tol) (hn : l.length < 9223372036854775807) : Gives cfg 35 [.sl .sh (l.map encL), .sl .sh (l.map encL)] (.bool true) := by
  refine Gives.run (l35 _ _) ?_
  have h := sameL_loop l hn l 0 rfl
  exact goG 60 []  trivial  (.len (show lenA false (AV.sl SK.sh (List.map encL l)) = some (AV.int IntKind.i64 (↑l.length : Int)) from len_map _) <| .len (show lenA false (AV.sl SK.sh (List.map encL l)) = some (AV.int IntKind.i64 (↑l.length : Int)) from len_map _) <| .no (show ((↑l.length : Int) != (↑l.length : Int)) = false from Bool.eq_false_iff.2 (show ¬ (((↑l.length : Int) != (↑l.length : Int)) = true) from (by simp))) <| .cutQ k35_0 [(0, AV.sl SK.sh (List.map encL l)), (1, AV.sl SK.sh (List.map encL l)), (5, AV.int IntKind.i64 (0 : Int))] ({ boxes := [], toks := [], loops := [] : Heap }) (fun T hT => (h T hT))) (by kernel_rfl)
end Go.Aa.T

set_option linter.unusedVariables false
set_option linter.unusedSimpArgs false
set_option maxRecDepth 100000
namespace Go.Aa.T
open Go.Aa Go.Proofs
theorem contains_yes (a : List UInt8) (c : UInt8) (h : c ∈ a) : Gives cfg 75 [.str a, .str [c]] (.bool true) := by
  obtain ⟨x, y, hc⟩ : ∃ x y, cutAt c a = some (x, y) := by
    cases hc : cutAt c a with
    | none => exact absurd h (cutAt_none hc)
    | some p => exact ⟨p.1, p.2, rfl⟩
  obtain ⟨rfl, hx⟩ := cutAt_some hc
  have hi : Gives cfg 105 [.str (x ++ c :: y), .str [c]] (.int .i64 (x.length : Nat)) := by
    have := index1 105 (x ++ c :: y) c rfl rfl
    rwa [ib_at hx] at this
  refine Gives.run (l75 _ _) ?_
  exact goG 60 []  trivial  (.callG ([AV.str (x ++ c :: y), AV.str [c]]) (AV.int IntKind.i64 (↑x.length : Int)) (show Gives cfg (105 : FuncId) [AV.str (x ++ c :: y), AV.str [c]] (AV.int IntKind.i64 (↑x.length : Int)) from hi) ⟨rfl, rfl⟩ ⟨rfl, rfl⟩ <| .fin ((ARes.ret (AV.bool (decide ((0 : Int) ≤ (↑x.length : Int)))), { boxes := [], toks := [], loops := [] : Heap })) rfl) (by kernel_rfl)
theorem suffix_no (a : List UInt8) (c : UInt8) (h : a.getLast? ≠ some c) (hl : a.length ≤ 1000) : Gives cfg 77 [.str a, .str [c]] (.tuple [.str a, .bool false]) := by
  have h1 : Gives cfg 126 [.str a, .str [c]] (.bool false) := by
    refine Gives.run (l126 _ _) ?_
    by_cases hn : a.length = 0
    · have : a = [] := List.length_eq_zero_iff.1 hn
      subst this
      exact goG 60 []  trivial  (.len (show lenA true (AV.str []) = some (AV.int IntKind.i64 (↑[].length : Int)) from len_str _) <| .len (show lenA true (AV.str [c]) = some (AV.int IntKind.i64 (↑[c].length : Int)) from len_str _) <| .ff <| .fin ((ARes.ret (AV.bool false), { boxes := [], toks := [], loops := [] : Heap })) rfl) (by kernel_rfl)
    · obtain ⟨n, en⟩ : ∃ n, a.length = n + 1 := ⟨a.length - 1, by omega⟩
      have hsub : binA .sub (.int .i64 (a.length : Nat)) (.int .i64 1) = some (.int .i64 (n : Nat)) := by rw [en]; exact dec_i (by omega)
      have hne : ¬ a.drop n = [c] := fun e => h (by
        have : a = a.take n ++ [c] := by rw [← e, List.take_append_drop]
        rw [this]; simp)
      exact goG 60 []  trivial  (.len (show lenA true (AV.str a) = some (AV.int IntKind.i64 (↑a.length : Int)) from len_str _) <| .len (show lenA true (AV.str [c]) = some (AV.int IntKind.i64 (↑[c].length : Int)) from len_str _) <| .yes (show (decide ((↑[c].length : Int) ≤ (↑a.length : Int))) = true from decide_eq_true (show (↑[c].length : Int) ≤ (↑a.length : Int) from (by simp; omega))) <| .len (show lenA true (AV.str a) = some (AV.int IntKind.i64 (↑a.length : Int)) from len_str _) <| .len (show lenA true (AV.str [c]) = some (AV.int IntKind.i64 (↑[c].length : Int)) from len_str _) <| .bin (show binA BinOp.sub (AV.int IntKind.i64 (↑a.length : Int)) (AV.int IntKind.i64 (↑[c].length : Int)) = some (AV.int IntKind.i64 (↑n : Int)) from hsub) <| .slice (show sliceA (0 : Nat) (AV.str a) (some (AV.int IntKind.i64 (↑n : Int))) none none = some (AV.str (List.drop n a)) from sstr_from (by omega)) <| .fin ((ARes.ret (AV.bool (List.drop n a == [c])), { boxes := [], toks := [], loops := [] : Heap })) (by simp [IsRet, hne])) (by kernel_rfl)
  have h2 : Gives cfg 106 [.str a, .str [c]] (.tuple [.str a, .bool false]) := by
    refine Gives.run (l106 _ _) ?_
    exact goG 60 []  trivial  (.callG ([AV.str a, AV.str [c]]) (AV.bool false) (show Gives cfg (126 : FuncId) [AV.str a, AV.str [c]] (AV.bool false) from h1) ⟨rfl, rfl⟩ ⟨rfl, rfl⟩ <| .tt <| .fin ((ARes.ret (AV.tuple [AV.str a, AV.bool false]), { boxes := [], toks := [], loops := [] : Heap })) rfl) (by kernel_rfl)
  refine Gives.run (l77 _ _) ?_
  exact goG 60 []  trivial  (.callG ([AV.str a, AV.str [c]]) (AV.tuple [AV.str a, AV.bool false]) (show Gives cfg (106 : FuncId) [AV.str a, AV.str [c]] (AV.tuple [AV.str a, AV.bool false]) from h2) ⟨rfl, rfl⟩ ⟨rfl, rfl⟩ <| .fin ((ARes.ret (AV.tuple [AV.str a, AV.bool false]), { boxes := [], toks := [], loops := [] : Heap })) rfl) (by kernel_rfl)

def partT (w : List UInt8) : Option Taint := match cutAt 58 w with
  | none => none
  | some (a, b) => if 58 ∈ b then none else some (if b.getLast? = some 33 then ⟨a, b.dropLast, true⟩ else ⟨a, b, false⟩)
def partL (w : List UInt8) : Option Tol := match cutAt 58 w with
  | none => if w = [] then none else some ⟨if w = [42] then [] else w, [], true⟩
  | some (a, b) => if a = [] ∨ 58 ∈ b then none else some ⟨if a = [42] then [] else a, b, false⟩
theorem stop2 : Pans cfg 76 [.int .i64 2] (stopV 2) := stop_pan (by decide)
theorem cut_len {w a b : List UInt8} {c : UInt8} (h : cutAt c w = some (a, b)) : w.length = a.length + 1 + b.length := by
  rw [(cutAt_some h).1]; simp; omega
theorem partT_run (w : List UInt8) (hl : w.length ≤ 1000) : (∀ x, partT w = some x → Gives cfg 73 [.str w] (encT x)) ∧ (partT w = none → Pans cfg 73 [.str w] (stopV 2)) := by
  cases hc : cutAt 58 w with
  | none =>
    have h := cut_miss w 58 (cutAt_none hc)
    refine ⟨fun x hx => by simp [partT, hc] at hx, fun _ => ?_⟩
    refine Pans.run (l73 _ _) ?_
    exact goG 60 []  trivial  (.callG ([AV.str w, AV.str [(58 : UInt8)]]) (AV.tuple [AV.str w, AV.str [], AV.bool false]) (show Gives cfg (74 : FuncId) [AV.str w, AV.str [(58 : UInt8)]] (AV.tuple [AV.str w, AV.str [], AV.bool false]) from h) ⟨rfl, rfl⟩ ⟨rfl, rfl⟩ <| .tt <| .tt <| .callP ([AV.int IntKind.i64 (2 : Int)]) ({ boxes := [[AV.str [], AV.str [], AV.bool false]], toks := [], loops := [] : Heap }) (show Pans cfg (76 : FuncId) [AV.int IntKind.i64 (2 : Int)] (stopV (2 : Int)) from stop2) ⟨rfl, rfl⟩ rfl rfl) (by kernel_rfl)
  | some p =>
    obtain ⟨a, b⟩ := p
    obtain ⟨rfl, hn⟩ := cutAt_some hc
    have hlen := cut_len hc
    have h := cut_hit a b 58 hn (by omega)
    by_cases hb : 58 ∈ b
    · have h2 := contains_yes b 58 hb
      refine ⟨fun x hx => by simp [partT, hc, hb] at hx, fun _ => ?_⟩
      refine Pans.run (l73 _ _) ?_
      exact goG 60 []  trivial  (.callG ([AV.str (a ++ (58 : UInt8) :: b), AV.str [(58 : UInt8)]]) (AV.tuple [AV.str a, AV.str b, AV.bool true]) (show Gives cfg (74 : FuncId) [AV.str (a ++ (58 : UInt8) :: b), AV.str [(58 : UInt8)]] (AV.tuple [AV.str a, AV.str b, AV.bool true]) from h) ⟨rfl, rfl⟩ ⟨rfl, rfl⟩ <| .ff <| .callG ([AV.str b, AV.str [(58 : UInt8)]]) (AV.bool true) (show Gives cfg (75 : FuncId) [AV.str b, AV.str [(58 : UInt8)]] (AV.bool true) from h2) ⟨rfl, rfl⟩ ⟨rfl, rfl⟩ <| .tt <| .callP ([AV.int IntKind.i64 (2 : Int)]) ({ boxes := [[AV.str [], AV.str [], AV.bool false]], toks := [], loops := [] : Heap }) (show Pans cfg (76 : FuncId) [AV.int IntKind.i64 (2 : Int)] (stopV (2 : Int)) from stop2) ⟨rfl, rfl⟩ rfl rfl) (by kernel_rfl)
    · have h2 := contains_no b 58 hb
      refine ⟨fun x hx => ?_, fun hx => by simp [partT, hc, hb] at hx⟩
      by_cases hg : b.getLast? = some 33
      · have e : x = ⟨a, b.dropLast, true⟩ := by simpa [partT, hc, hb, hg] using hx.symm
        subst e
        obtain ⟨d, rfl⟩ : ∃ d, b = d ++ [33] := by
          obtain ⟨ys, e⟩ := List.getLast?_eq_some_iff.1 hg
          exact ⟨ys, e⟩
        have hs := suffix_hit d 33 (by rw [hlen] at hl; simp only [List.length_append, List.length_cons, List.length_nil] at hl; omega)
        have ed : (d ++ [33]).dropLast = d := by simp
        rw [ed]
        refine Gives.run (l73 _ _) ?_
        exact goG 60 []  trivial  (.callG ([AV.str (a ++ (58 : UInt8) :: (d ++ [(33 : UInt8)])), AV.str [(58 : UInt8)]]) (AV.tuple [AV.str a, AV.str (d ++ [(33 : UInt8)]), AV.bool true]) (show Gives cfg (74 : FuncId) [AV.str (a ++ (58 : UInt8) :: (d ++ [(33 : UInt8)])), AV.str [(58 : UInt8)]] (AV.tuple [AV.str a, AV.str (d ++ [(33 : UInt8)]), AV.bool true]) from h) ⟨rfl, rfl⟩ ⟨rfl, rfl⟩ <| .ff <| .callG ([AV.str (d ++ [(33 : UInt8)]), AV.str [(58 : UInt8)]]) (AV.bool false) (show Gives cfg (75 : FuncId) [AV.str (d ++ [(33 : UInt8)]), AV.str [(58 : UInt8)]] (AV.bool false) from h2) ⟨rfl, rfl⟩ ⟨rfl, rfl⟩ <| .ff <| .callG ([AV.str (d ++ [(33 : UInt8)]), AV.str [(33 : UInt8)]]) (AV.tuple [AV.str d, AV.bool true]) (show Gives cfg (77 : FuncId) [AV.str (d ++ [(33 : UInt8)]), AV.str [(33 : UInt8)]] (AV.tuple [AV.str d, AV.bool true]) from hs) ⟨rfl, rfl⟩ ⟨rfl, rfl⟩ <| .fin ((ARes.ret (AV.agg [AV.str a, AV.str d, AV.bool true]), { boxes := [[AV.str a, AV.str d, AV.bool true]], toks := [], loops := [] : Heap })) rfl) (by kernel_rfl)
      · have e : x = ⟨a, b, false⟩ := by simpa [partT, hc, hb, hg] using hx.symm
        subst e
        have hs := suffix_no b 33 hg (by omega)
        refine Gives.run (l73 _ _) ?_
        exact goG 60 []  trivial  (.callG ([AV.str (a ++ (58 : UInt8) :: b), AV.str [(58 : UInt8)]]) (AV.tuple [AV.str a, AV.str b, AV.bool true]) (show Gives cfg (74 : FuncId) [AV.str (a ++ (58 : UInt8) :: b), AV.str [(58 : UInt8)]] (AV.tuple [AV.str a, AV.str b, AV.bool true]) from h) ⟨rfl, rfl⟩ ⟨rfl, rfl⟩ <| .ff <| .callG ([AV.str b, AV.str [(58 : UInt8)]]) (AV.bool false) (show Gives cfg (75 : FuncId) [AV.str b, AV.str [(58 : UInt8)]] (AV.bool false) from h2) ⟨rfl, rfl⟩ ⟨rfl, rfl⟩ <| .ff <| .callG ([AV.str b, AV.str [(33 : UInt8)]]) (AV.tuple [AV.str b, AV.bool false]) (show Gives cfg (77 : FuncId) [AV.str b, AV.str [(33 : UInt8)]] (AV.tuple [AV.str b, AV.bool false]) from hs) ⟨rfl, rfl⟩ ⟨rfl, rfl⟩ <| .fin ((ARes.ret (AV.agg [AV.str a, AV.str b, AV.bool false]), { boxes := [[AV.str a, AV.str b, AV.bool false]], toks := [], loops := [] : Heap })) rfl) (by kernel_rfl)
theorem partL_run (w : List UInt8) (hl : w.length ≤ 1000) : (∀ x, partL w = some x → Gives cfg 79 [.str w] (encL x)) ∧ (partL w = none → Pans cfg 79 [.str w] (stopV 2)) := by
  cases hc : cutAt 58 w with
  | none =>
    have h := cut_miss w 58 (cutAt_none hc)
    have h2 := contains_no [] 58 (by simp)
    by_cases hw : w = []
    · refine ⟨fun x hx => by simp only [partL, hc] at hx; simp [hw] at hx, fun _ => ?_⟩
      refine Pans.run (l79 _ _) ?_
      exact goG 60 []  trivial  (.callG ([AV.str w, AV.str [(58 : UInt8)]]) (AV.tuple [AV.str w, AV.str [], AV.bool false]) (show Gives cfg (74 : FuncId) [AV.str w, AV.str [(58 : UInt8)]] (AV.tuple [AV.str w, AV.str [], AV.bool false]) from h) ⟨rfl, rfl⟩ ⟨rfl, rfl⟩ <| .yes (show (w == []) = true from (by simpa using hw)) <| .tt <| .callP ([AV.int IntKind.i64 (2 : Int)]) ({ boxes := [[AV.str [], AV.str [], AV.bool false]], toks := [], loops := [] : Heap }) (show Pans cfg (76 : FuncId) [AV.int IntKind.i64 (2 : Int)] (stopV (2 : Int)) from stop2) ⟨rfl, rfl⟩ rfl rfl) (by kernel_rfl)
    · refine ⟨fun x hx => ?_, fun hx => by simp [partL, hc, hw] at hx⟩
      have e : x = ⟨if w = [42] then [] else w, [], true⟩ := by simpa [partL, hc, hw] using hx.symm
      subst e
      refine Gives.run (l79 _ _) ?_
      by_cases h42 : w = [42]
      · simp only [if_pos h42]
        exact goG 60 []  trivial  (.callG ([AV.str w, AV.str [(58 : UInt8)]]) (AV.tuple [AV.str w, AV.str [], AV.bool false]) (show Gives cfg (74 : FuncId) [AV.str w, AV.str [(58 : UInt8)]] (AV.tuple [AV.str w, AV.str [], AV.bool false]) from h) ⟨rfl, rfl⟩ ⟨rfl, rfl⟩ <| .no (show (w == []) = false from Bool.eq_false_iff.2 (show ¬ ((w == []) = true) from (by simpa using hw))) <| .callG ([AV.str [], AV.str [(58 : UInt8)]]) (AV.bool false) (show Gives cfg (75 : FuncId) [AV.str [], AV.str [(58 : UInt8)]] (AV.bool false) from h2) ⟨rfl, rfl⟩ ⟨rfl, rfl⟩ <| .ff <| .yes (show (w == [(42 : UInt8)]) = true from (by simpa using h42)) <| .fin ((ARes.ret (AV.agg [AV.str [], AV.str [], AV.bool !false]), { boxes := [[AV.str [], AV.str [], AV.bool !false]], toks := [], loops := [] : Heap })) rfl) (by kernel_rfl)
      · simp only [if_neg h42]
        exact goG 60 []  trivial  (.callG ([AV.str w, AV.str [(58 : UInt8)]]) (AV.tuple [AV.str w, AV.str [], AV.bool false]) (show Gives cfg (74 : FuncId) [AV.str w, AV.str [(58 : UInt8)]] (AV.tuple [AV.str w, AV.str [], AV.bool false]) from h) ⟨rfl, rfl⟩ ⟨rfl, rfl⟩ <| .no (show (w == []) = false from Bool.eq_false_iff.2 (show ¬ ((w == []) = true) from (by simpa using hw))) <| .callG ([AV.str [], AV.str [(58 : UInt8)]]) (AV.bool false) (show Gives cfg (75 : FuncId) [AV.str [], AV.str [(58 : UInt8)]] (AV.bool false) from h2) ⟨rfl, rfl⟩ ⟨rfl, rfl⟩ <| .ff <| .no (show (w == [(42 : UInt8)]) = false from Bool.eq_false_iff.2 (show ¬ ((w == [(42 : UInt8)]) = true) from (by simpa using h42))) <| .fin ((ARes.ret (AV.agg [AV.str w, AV.str [], AV.bool !false]), { boxes := [[AV.str w, AV.str [], AV.bool !false]], toks := [], loops := [] : Heap })) rfl) (by kernel_rfl)
  | some p =>
    obtain ⟨a, b⟩ := p
    obtain ⟨rfl, hn⟩ := cutAt_some hc
    have hlen := cut_len hc
    have h := cut_hit a b 58 hn (by omega)
    by_cases ha : a = []
    · refine ⟨fun x hx => by simp only [partL, hc] at hx; simp [ha] at hx, fun _ => ?_⟩
      refine Pans.run (l79 _ _) ?_
      exact goG 60 []  trivial  (.callG ([AV.str (a ++ (58 : UInt8) :: b), AV.str [(58 : UInt8)]]) (AV.tuple [AV.str a, AV.str b, AV.bool true]) (show Gives cfg (74 : FuncId) [AV.str (a ++ (58 : UInt8) :: b), AV.str [(58 : UInt8)]] (AV.tuple [AV.str a, AV.str b, AV.bool true]) from h) ⟨rfl, rfl⟩ ⟨rfl, rfl⟩ <| .yes (show (a == []) = true from (by simpa using ha)) <| .tt <| .callP ([AV.int IntKind.i64 (2 : Int)]) ({ boxes := [[AV.str [], AV.str [], AV.bool false]], toks := [], loops := [] : Heap }) (show Pans cfg (76 : FuncId) [AV.int IntKind.i64 (2 : Int)] (stopV (2 : Int)) from stop2) ⟨rfl, rfl⟩ rfl rfl) (by kernel_rfl)
    · by_cases hb : 58 ∈ b
      · have h2 := contains_yes b 58 hb
        refine ⟨fun x hx => by simp [partL, hc, hb] at hx, fun _ => ?_⟩
        refine Pans.run (l79 _ _) ?_
        exact goG 60 []  trivial  (.callG ([AV.str (a ++ (58 : UInt8) :: b), AV.str [(58 : UInt8)]]) (AV.tuple [AV.str a, AV.str b, AV.bool true]) (show Gives cfg (74 : FuncId) [AV.str (a ++ (58 : UInt8) :: b), AV.str [(58 : UInt8)]] (AV.tuple [AV.str a, AV.str b, AV.bool true]) from h) ⟨rfl, rfl⟩ ⟨rfl, rfl⟩ <| .no (show (a == []) = false from Bool.eq_false_iff.2 (show ¬ ((a == []) = true) from (by simpa using ha))) <| .callG ([AV.str b, AV.str [(58 : UInt8)]]) (AV.bool true) (show Gives cfg (75 : FuncId) [AV.str b, AV.str [(58 : UInt8)]] (AV.bool true) from h2) ⟨rfl, rfl⟩ ⟨rfl, rfl⟩ <| .tt <| .callP ([AV.int IntKind.i64 (2 : Int)]) ({ boxes := [[AV.str [], AV.str [], AV.bool false]], toks := [], loops := [] : Heap }) (show Pans cfg (76 : FuncId) [AV.int IntKind.i64 (2 : Int)] (stopV (2 : Int)) from stop2) ⟨rfl, rfl⟩ rfl rfl) (by kernel_rfl)
      · have h2 := contains_no b 58 hb
        refine ⟨fun x hx => ?_, fun hx => by simp [partL, hc, hb, ha] at hx⟩
        have e : x = ⟨if a = [42] then [] else a, b, false⟩ := by simpa [partL, hc, hb, ha] using hx.symm
        subst e
        refine Gives.run (l79 _ _) ?_
        by_cases h42 : a = [42]
        · simp only [if_pos h42]
          exact goG 60 []  trivial  (.callG ([AV.str (a ++ (58 : UInt8) :: b), AV.str [(58 : UInt8)]]) (AV.tuple [AV.str a, AV.str b, AV.bool true]) (show Gives cfg (74 : FuncId) [AV.str (a ++ (58 : UInt8) :: b), AV.str [(58 : UInt8)]] (AV.tuple [AV.str a, AV.str b, AV.bool true]) from h) ⟨rfl, rfl⟩ ⟨rfl, rfl⟩ <| .no (show (a == []) = false from Bool.eq_false_iff.2 (show ¬ ((a == []) = true) from (by simpa using ha))) <| .callG ([AV.str b, AV.str [(58 : UInt8)]]) (AV.bool false) (show Gives cfg (75 : FuncId) [AV.str b, AV.str [(58 : UInt8)]] (AV.bool false) from h2) ⟨rfl, rfl⟩ ⟨rfl, rfl⟩ <| .ff <| .yes (show (a == [(42 : UInt8)]) = true from (by simpa using h42)) <| .fin ((ARes.ret (AV.agg [AV.str [], AV.str b, AV.bool !true]), { boxes := [[AV.str [], AV.str b, AV.bool !true]], toks := [], loops := [] : Heap })) rfl) (by kernel_rfl)
        · simp only [if_neg h42]
          exact goG 60 []  trivial  (.callG ([AV.str (a ++ (58 : UInt8) :: b), AV.str [(58 : UInt8)]]) (AV.tuple [AV.str a, AV.str b, AV.bool true]) (show Gives cfg (74 : FuncId) [AV.str (a ++ (58 : UInt8) :: b), AV.str [(58 : UInt8)]] (AV.tuple [AV.str a, AV.str b, AV.bool true]) from h) ⟨rfl, rfl⟩ ⟨rfl, rfl⟩ <| .no (show (a == []) = false from Bool.eq_false_iff.2 (show ¬ ((a == []) = true) from (by simpa using ha))) <| .callG ([AV.str b, AV.str [(58 : UInt8)]]) (AV.bool false) (show Gives cfg (75 : FuncId) [AV.str b, AV.str [(58 : UInt8)]] (AV.bool false) from h2) ⟨rfl, rfl⟩ ⟨rfl, rfl⟩ <| .ff <| .no (show (a == [(42 : UInt8)]) = false from Bool.eq_false_iff.2 (show ¬ ((a == [(42 : UInt8)]) = true) from (by simpa using h42))) <| .fin ((ARes.ret (AV.agg [AV.str a, AV.str b, AV.bool !true]), { boxes := [[AV.str a, AV.str b, AV.bool !true]], toks := [], loops := [] : Heap })) rfl) (by kernel_rfl)

theorem parseT (s : List UInt8) (hl : s.length ≤ 1000) : Gives cfg 32 [.str s] (.tuple [.sl .sh ((parsed partT ckT s).1.map encT), .int .i64 (parsed partT ckT s).2]) := by
  have h := partsTaint partT ckT (fun p x h1 h2 => (partT_run p h1).1 x h2) (fun p h1 _ h2 => (partT_run p h1).2 h2) ckT2 s hl
  refine Gives.run (l32 _ _) ?_
  exact goG 60 []  trivial  (.callG ([AV.str s, AV.func (73 : Nat) [], AV.func (20 : Nat) []]) (AV.tuple [AV.sl SK.sh (List.map encT (parsed partT ckT s).fst), AV.int IntKind.i64 (parsed partT ckT s).snd]) (show Gives cfg (72 : FuncId) [AV.str s, AV.func (73 : FuncId) [], AV.func (20 : FuncId) []] (AV.tuple [rowF encT (parsed partT ckT s).fst, AV.int IntKind.i64 (parsed partT ckT s).snd]) from h) ⟨rfl, rfl⟩ Res.p <| .fin ((ARes.ret (AV.tuple [AV.sl SK.sh (List.map encT (parsed partT ckT s).fst), AV.int IntKind.i64 (parsed partT ckT s).snd]), { boxes := [], toks := [], loops := [] : Heap })) rfl) (by kernel_rfl)
theorem parseL (s : List UInt8) (hl : s.length ≤ 1000) : Gives cfg 33 [.str s] (.tuple [.sl .sh ((parsed partL ckL s).1.map encL), .int .i64 (parsed partL ckL s).2]) := by
  have h := partsTol partL ckL (fun p x h1 h2 => (partL_run p h1).1 x h2) (fun p h1 _ h2 => (partL_run p h1).2 h2) ckL2 s hl
  refine Gives.run (l33 _ _) ?_
  exact goG 60 []  trivial  (.callG ([AV.str s, AV.func (79 : Nat) [], AV.func (21 : Nat) []]) (AV.tuple [AV.sl SK.sh (List.map encL (parsed partL ckL s).fst), AV.int IntKind.i64 (parsed partL ckL s).snd]) (show Gives cfg (78 : FuncId) [AV.str s, AV.func (79 : FuncId) [], AV.func (21 : FuncId) []] (AV.tuple [rowF encL (parsed partL ckL s).fst, AV.int IntKind.i64 (parsed partL ckL s).snd]) from h) ⟨rfl, rfl⟩ Res.p <| .fin ((ARes.ret (AV.tuple [AV.sl SK.sh (List.map encL (parsed partL ckL s).fst), AV.int IntKind.i64 (parsed partL ckL s).snd]), { boxes := [], toks := [], loops := [] : Heap })) rfl) (by kernel_rfl)

end Go.Aa.T

set_option linter.unusedVariables false
set_option linter.unusedSimpArgs false
set_option maxRecDepth 100000
namespace Go.Aa.T
open Go.Aa Go.Proofs
theorem cutAt_hit {c : UInt8} {b : List UInt8} : ∀ {a : List UInt8}, c ∉ a → cutAt c (a ++ c :: b) = some (a, b)
  | [], _ => by simp [cutAt]
  | x :: a, h => by
    simp only [List.mem_cons, not_or] at h
    have hx : ¬ x = c := fun e => h.1 e.symm
    simp only [List.cons_append, cutAt, if_neg hx, cutAt_hit h.2, Option.map_some]
theorem cutAt_miss {c : UInt8} : ∀ {a : List UInt8}, c ∉ a → cutAt c a = none
  | [], _ => rfl
  | x :: a, h => by
    simp only [List.mem_cons, not_or] at h
    have hx : ¬ x = c := fun e => h.1 e.symm
    simp only [cutAt, if_neg hx, cutAt_miss h.2, Option.map_none]
theorem tail_cons (y : List UInt8) (r : List (List UInt8)) : Lib.joinTail [44] (y :: r) = 44 :: (y ++ Lib.joinTail [44] r) := by simp [Lib.joinTail]
theorem parts_tail : ∀ (r : List (List UInt8)) (x : List UInt8), (44 : UInt8) ∉ x → (∀ y ∈ r, (44 : UInt8) ∉ y) → parts 44 (x ++ Lib.joinTail [44] r) = x :: r
  | [], x, hx, _ => by simp only [Lib.joinTail, List.map_nil, List.flatten_nil, List.append_nil]; exact parts_none hx
  | y :: r, x, hx, hr => by
    rw [tail_cons, parts_some hx, parts_tail r y (hr y (by simp)) (fun z hz => hr z (by simp [hz]))]
theorem parts_join {x : List UInt8} {r : List (List UInt8)} (h : ∀ y ∈ x :: r, (44 : UInt8) ∉ y) : parts 44 (Lib.join (x :: r) [44]) = x :: r := by
  rw [Lib.join_cons]
  exact parts_tail r x (h x (by simp)) (fun y hy => h y (by simp [hy]))
section
variable {X : Type} {pf : List UInt8 → Option X} {text : X → List UInt8} {ck : List X → Int}
theorem collect_text (acc l : List X) (h : ∀ x ∈ l, text x ≠ [] ∧ pf (text x) = some x) : foldE (collect pf) acc (l.map text) = some (acc ++ l) := by
  induction l generalizing acc with
  | nil => simp [foldE]
  | cons x l ih =>
    obtain ⟨h1, h2⟩ := h x (by simp)
    simp only [List.map_cons, foldE, collect, if_neg h1, h2, Option.map_some]
    rw [ih _ (fun y hy => h y (by simp [hy]))]
    simp
theorem told_read (l : List X) (hck : ck l = 0) (h : ∀ x ∈ l, text x ≠ [] ∧ (44 : UInt8) ∉ text x ∧ text x ≠ [45] ∧ pf (text x) = some x) : parsed pf ck (textOf text l) = (l, 0) := by
  cases l with
  | nil => rfl
  | cons x l =>
    have e : textOf text (x :: l) = Lib.join ((x :: l).map text) [44] := rfl
    rw [e]
    have hp : parts 44 (Lib.join ((x :: l).map text) [44]) = (x :: l).map text := parts_join (fun y hy => by
      have hy' : y ∈ (x :: l).map text := hy
      obtain ⟨z, hz, rfl⟩ := List.mem_map.1 hy'
      exact (h z hz).2.1)
    have hne : ¬ Lib.join ((x :: l).map text) [44] = [45] := fun e => by
      rw [e] at hp
      have e2 : parts 44 [45] = [[45]] := rfl
      rw [e2] at hp
      simp only [List.map_cons, List.cons.injEq] at hp
      exact (h x (by simp)).2.2.1 hp.1.symm
    unfold parsed
    rw [if_neg hne, hp, collect_text [] (x :: l) (fun y hy => ⟨(h y hy).1, (h y hy).2.2.2⟩)]
    simp [hck]
end

theorem ckTl_good (l : List Taint) : ∀ (post : List Taint) (i : Nat), ckTl l i post = 0 → ∀ x ∈ post, goodT x = true
  | [], _, _ => by simp
  | x :: post, i, h => by
    unfold ckTl at h
    split at h
    · rename_i hg
      split at h
      · cases h
      · intro y hy
        rcases List.mem_cons.1 hy with rfl | hy
        · exact hg
        · exact ckTl_good l post _ h y hy
    · cases h
theorem ckT_good {l : List Taint} (h : ckT l = 0) : ∀ x ∈ l, goodT x = true := by
  unfold ckT at h
  split at h
  · exact ckTl_good l l 0 h
  · cases h
theorem ckL_good {l : List Tol} (h : ckL l = 0) : ∀ x ∈ l, okL x = true := by
  unfold ckL at h
  split at h
  · split at h
    · rename_i ha; exact List.all_eq_true.1 ha
    · cases h
  · cases h
theorem two58 {a b : List UInt8} (h : (a ++ 58 :: b : List UInt8) = [45]) : False := by
  cases a with
  | nil => simp at h
  | cons x a => cases a <;> simp at h
theorem tText_read {l : List Taint} (h : ckT l = 0) : parsed partT ckT (textOf tText l) = (l, 0) := by
  refine told_read l h fun x hx => ?_
  have hg := ckT_good h x hx
  obtain ⟨h1, h2⟩ := tText_ok x hg
  simp only [goodT, Bool.and_eq_true] at hg
  have k58 := name_no hg.1 (c := 58) rfl
  have v58 := name_no hg.2 (c := 58) rfl
  have v33 := name_no hg.2 (c := 33) rfl
  cases hh : x.hard with
  | true =>
    have e : tText x = x.key ++ 58 :: (x.val ++ [33]) := by simp [tText, hh]
    refine ⟨h1, h2, fun e2 => two58 (e ▸ e2), ?_⟩
    rw [e]
    unfold partT
    rw [cutAt_hit k58]
    simp only
    rw [if_neg (by simp [v58]), if_pos (by simp)]
    simp [← hh]
  | false =>
    have e : tText x = x.key ++ 58 :: x.val := by simp [tText, hh]
    refine ⟨h1, h2, fun e2 => two58 (e ▸ e2), ?_⟩
    rw [e]
    unfold partT
    rw [cutAt_hit k58]
    simp only
    rw [if_neg v58, if_neg (fun hl => v33 (List.mem_of_getLast? hl))]
    simp [← hh]
theorem lText_read {l : List Tol} (h : ckL l = 0) : parsed partL ckL (textOf lText l) = (l, 0) := by
  refine told_read l h fun x hx => ?_
  have hg := ckL_good h x hx
  obtain ⟨h1, h2⟩ := lText_ok x hg
  have h58 := star_no x hg (c := 58) rfl (by decide)
  have h45 := star_no x hg (c := 45) rfl (by decide)
  have hb := star_back x hg
  have hl := (star_len x hg).2
  cases hh : x.any with
  | true =>
    have hv : x.val = [] := by simp only [okL, hh, Bool.and_eq_true, if_true, decide_eq_true_eq] at hg; exact hg.2
    have e : lText x = starK x := by simp [lText, hh, starK]
    refine ⟨h1, h2, fun e2 => h45 (by rw [← e, e2]; simp), ?_⟩
    rw [e]
    unfold partL
    rw [cutAt_miss h58]
    simp only
    rw [if_neg hl, hb]
    simp [← hh, ← hv]
  | false =>
    have hv : isName x.val = true := by simp only [okL, hh, Bool.and_eq_true, Bool.false_eq_true, if_false] at hg; exact hg.2
    have e : lText x = starK x ++ 58 :: x.val := by simp [lText, hh, starK]
    refine ⟨h1, h2, fun e2 => two58 (e ▸ e2), ?_⟩
    rw [e]
    unfold partL
    rw [cutAt_hit h58]
    simp only
    rw [if_neg (by simp [hl, name_no hv (c := 58) rfl]), hb]
    simp [← hh]
theorem textOf_len {X : Type} (f : X → List UInt8) (l : List X) (hn : l.length ≤ 8) (h : ∀ x ∈ l, (f x).length ≤ 103) : (textOf f l).length ≤ 1000 := by
  unfold textOf
  split
  · simp
  · cases l with
    | nil => simp [Lib.join_nil]
    | cons x r =>
      rw [List.map_cons, Lib.join_cons, List.length_append]
      have h1 := h x (by simp)
      have h2 := tail_len (r.map f) (fun s hs => by
        obtain ⟨y, hy, rfl⟩ := List.mem_map.1 hs
        exact h y (by simp [hy]))
      simp only [List.length_map, List.length_cons] at h2 hn
      omega
end Go.Aa.T

set_option linter.unusedVariables false
set_option linter.unusedSimpArgs false
set_option maxRecDepth 100000
namespace Go.Aa.T
open Go.Aa Go.Proofs
theorem goodT_len {l : List Taint} (h : ckT l = 0) : (textOf tText l).length ≤ 1000 := by
  refine textOf_len tText l ?_ fun x hx => ?_
  · unfold ckT at h; split at h <;> first | assumption | cases h
  · have hg := ckT_good h x hx
    simp only [goodT, Bool.and_eq_true] at hg
    exact tText_len x (by have := name_len hg.1; omega) (by have := name_len hg.2; omega)
theorem goodL_len {l : List Tol} (h : ckL l = 0) : (textOf lText l).length ≤ 1000 := by
  refine textOf_len lText l ?_ fun x hx => ?_
  · unfold ckL at h; split at h <;> first | assumption | cases h
  · have hg := ckL_good h x hx
    simp only [okL, Bool.and_eq_true, Bool.or_eq_true, decide_eq_true_eq] at hg
    refine lText_len x ?_ ?_
    · rcases hg.1 with e | e
      · rw [e]; simp
      · have := name_len e; omega
    · have := hg.2
      split at this
      · rename_i ha
        have : x.val = [] := by simpa using this
        rw [this]; simp
      · have := name_len this; omega
theorem taintAny_loop (t : List Taint) (l : List Tol) (ht : fewT t = true) (hl : fewL l = true) (et : ckT t = 0) (el : ckL l = 0) : ∀ (post : List Taint) (i : Nat) (bs : List (List AV)) (hd : t.drop i = post) (T : Env)
    (hT : Has T [(0, .sl .sh (t.map encT)), (1, .sl .sh (l.map encL)), (5, .sl .sh (t.map encT)), (6, .sl .sh (l.map encL)), (13, .int .i64 i)]),
    Goes cfg a3 k3_0 T ⟨bs, [], []⟩ (IsRet (.bool true)) := by
  have hnt := fewT_len ht
  have hnl := fewL_len hl
  intro post
  induction post with
  | nil =>
    intro i bs hd T hT
    have hge := drop_ge hd
    have p1 := parseT (textOf tText t) (goodT_len et)
    have p2 := parseL (textOf lText l) (goodL_len el)
    rw [tText_read et] at p1
    rw [lText_read el] at p2
    have hp1 : Gives cfg 32 [.str (textOf tText t)] (.tuple [.sl .sh (t.map encT), .int .i64 0]) := p1
    have hp2 : Gives cfg 33 [.str (textOf lText l)] (.tuple [.sl .sh (l.map encL), .int .i64 0]) := p2
    exact goG 90 _  hT  (.len (show lenA false (AV.sl SK.sh (List.map encT t)) = some (AV.int IntKind.i64 (↑t.length : Int)) from len_map _) <| .no (show (decide ((↑i : Int) < (↑t.length : Int))) = false from decide_eq_false (show ¬ ((↑i : Int) < (↑t.length : Int)) from (by omega))) <| .callG ([AV.sl SK.sh (List.map encT t)]) (AV.str (textOf tText t)) (show Gives cfg (26 : FuncId) [AV.sl SK.sh (List.map encT t)] (AV.str (textOf tText t)) from tText_any _ ht) ⟨rfl, rfl⟩ ⟨rfl, rfl⟩ <| .callG ([AV.str (textOf tText t)]) (AV.tuple [AV.sl SK.sh (List.map encT t), AV.int IntKind.i64 (0 : Int)]) (show Gives cfg (32 : FuncId) [AV.str (textOf tText t)] (AV.tuple [AV.sl SK.sh (List.map encT t), AV.int IntKind.i64 (0 : Int)]) from hp1) ⟨rfl, rfl⟩ ⟨rfl, rfl⟩ <| .callG ([AV.sl SK.sh (List.map encL l)]) (AV.str (textOf lText l)) (show Gives cfg (28 : FuncId) [AV.sl SK.sh (List.map encL l)] (AV.str (textOf lText l)) from lText_any _ hl) ⟨rfl, rfl⟩ ⟨rfl, rfl⟩ <| .callG ([AV.str (textOf lText l)]) (AV.tuple [AV.sl SK.sh (List.map encL l), AV.int IntKind.i64 (0 : Int)]) (show Gives cfg (33 : FuncId) [AV.str (textOf lText l)] (AV.tuple [AV.sl SK.sh (List.map encL l), AV.int IntKind.i64 (0 : Int)]) from hp2) ⟨rfl, rfl⟩ ⟨rfl, rfl⟩ <| .bin (show binA BinOp.add (AV.int IntKind.i64 (0 : Int)) (AV.int IntKind.i64 (0 : Int)) = some (AV.int IntKind.i64 ((0 : Int) + (0 : Int))) from addI (by omega) (by omega)) <| .tt <| .callG ([AV.sl SK.sh (List.map encT t)]) (AV.sl SK.sh (List.map encT t)) (show Gives cfg (16 : FuncId) [AV.sl SK.sh (List.map encT t)] (rowS Heap.nil (List.map encT t)) from ofT_any _ hnt) ⟨rfl, rfl⟩ Res.p <| .callG ([AV.sl SK.sh (List.map encT t), AV.sl SK.sh (List.map encT t)]) (AV.bool true) (show Gives cfg (34 : FuncId) [AV.sl SK.sh (List.map encT t), AV.sl SK.sh (List.map encT t)] (AV.bool true) from sameT _ (by omega)) ⟨rfl, rfl⟩ ⟨rfl, rfl⟩ <| .tt <| .callG ([AV.sl SK.sh (List.map encL l)]) (AV.sl SK.sh (List.map encL l)) (show Gives cfg (17 : FuncId) [AV.sl SK.sh (List.map encL l)] (rowS Heap.nil (List.map encL l)) from ofL_any _ hnl) ⟨rfl, rfl⟩ Res.p <| .callG ([AV.sl SK.sh (List.map encL l), AV.sl SK.sh (List.map encL l)]) (AV.bool true) (show Gives cfg (35 : FuncId) [AV.sl SK.sh (List.map encL l), AV.sl SK.sh (List.map encL l)] (AV.bool true) from sameL _ (by omega)) ⟨rfl, rfl⟩ ⟨rfl, rfl⟩ <| .fin ((ARes.ret (AV.bool true), { boxes := bs, toks := [], loops := [] : Heap })) rfl) (by kernel_rfl)
  | cons x post ih =>
    intro i bs hd T hT
    have hlt := drop_lt hd
    have hnx := drop_next hd
    exact goG 60 _  hT  (.len (show lenA false (AV.sl SK.sh (List.map encT t)) = some (AV.int IntKind.i64 (↑t.length : Int)) from len_map _) <| .yes (show (decide ((↑i : Int) < (↑t.length : Int))) = true from decide_eq_true (show (↑i : Int) < (↑t.length : Int) from (by omega))) <| .idx (show idxA (3 : Nat) (AV.sl SK.sh (List.map encT t)) (AV.int IntKind.i64 (↑i : Int)) = some (AV.ref (encT x).cells) from idx_row hd (by rfl)) <| .load (show loadA true (3 : Nat) { boxes := bs, toks := [], loops := [] : Heap } (AV.ref [AV.str x.key, AV.str x.val, AV.bool x.hard]) = some (AV.agg [AV.str x.key, AV.str x.val, AV.bool x.hard]) from rfl) <| .callG ([AV.sl SK.sh (List.map encL l), AV.agg [AV.str x.key, AV.str x.val, AV.bool x.hard]]) (AV.bool (decide (bears l x))) (Gives.of (show lim cfg (Key.fn (30 : FuncId)) [AV.sl SK.sh (List.map encL l), encT x] Heap.nil = some (ARes.ret (AV.bool (decide (bears l x))), H1 x) from bears_any _ (by omega))) ⟨rfl, rfl⟩ ⟨rfl, rfl⟩ <| .idx (show idxA (3 : Nat) (AV.sl SK.sh (List.map encT t)) (AV.int IntKind.i64 (↑i : Int)) = some (AV.ref (encT x).cells) from idx_row hd (by rfl)) <| .load (show loadA true (3 : Nat) { boxes := bs, toks := [], loops := [] : Heap } (AV.ref [AV.str x.key, AV.str x.val, AV.bool x.hard]) = some (AV.agg [AV.str x.key, AV.str x.val, AV.bool x.hard]) from rfl) <| .callG ([AV.sl SK.sh (List.map encL l), AV.agg [AV.str x.key, AV.str x.val, AV.bool x.hard]]) (AV.bool (decide (bears l x))) (show Gives cfg (31 : FuncId) [AV.sl SK.sh (List.map encL l), encT x] (AV.bool (decide (bears l x))) from bears2 _ _ (by omega)) ⟨rfl, rfl⟩ ⟨rfl, rfl⟩ <| .no (show (if true = true then !decide (bears l x) == decide (bears l x) else decide (bears l x) == decide (bears l x)) = false from Bool.eq_false_iff.2 (show ¬ ((if true = true then !decide (bears l x) == decide (bears l x) else decide (bears l x) == decide (bears l x)) = true) from (by simp))) <| .bin (show binA BinOp.add (AV.int IntKind.i64 (↑i : Int)) (AV.int IntKind.i64 (1 : Int)) = some (AV.int IntKind.i64 (↑(i + (1 : Nat)) : Int)) from inc_i (by omega)) <| .cutQ k3_0 [(0, AV.sl SK.sh (List.map encT t)), (1, AV.sl SK.sh (List.map encL l)), (5, AV.sl SK.sh (List.map encT t)), (6, AV.sl SK.sh (List.map encL l)), (13, AV.int IntKind.i64 (↑(i + (1 : Nat)) : Int))] ({ boxes := bs, toks := [], loops := [] : Heap }) (fun T hT => (ih (i + (1 : Nat)) (bs) hnx T hT))) (by kernel_rfl)
theorem taintAny (t : List Taint) (l : List Tol) : Gives cfg 3 [.sl .sh (t.map encT), .sl .sh (l.map encL)] (.bool true) := by
  refine Gives.run (l3 _ _) ?_
  have h := fun ht hl et el bs => taintAny_loop t l ht hl et el t 0 bs rfl
  exact goG 120 []  trivial  (.callG ([]) (AV.bool true) (Gives.of (show lim cfg (Key.fn (13 : FuncId)) [] Heap.nil = some (ARes.ret (AV.bool true), Classical.choose known_ret13) from known')) ⟨rfl, rfl⟩ ⟨rfl, rfl⟩ <| .ff <| .callG ([AV.sl SK.sh (List.map encT t)]) (AV.bool (fewT t)) (show Gives cfg (14 : FuncId) [AV.sl SK.sh (List.map encT t)] (AV.bool (fewT t)) from fewT_any _) ⟨rfl, rfl⟩ ⟨rfl, rfl⟩ <| .split (fewT t = true) (fun h1 => .no (show (!fewT t) = false from by have hh : fewT t = true := h1; simp [hh]) <| .callG ([AV.sl SK.sh (List.map encL l)]) (AV.bool (fewL l)) (show Gives cfg (15 : FuncId) [AV.sl SK.sh (List.map encL l)] (AV.bool (fewL l)) from fewL_any _) ⟨rfl, rfl⟩ ⟨rfl, rfl⟩ <| .split (fewL l = true) (fun h2 => .no (show (!fewL l) = false from by have hh : fewL l = true := h2; simp [hh]) <| .callG ([AV.sl SK.sh (List.map encT t)]) (AV.sl SK.sh (List.map encT t)) (show Gives cfg (16 : FuncId) [AV.sl SK.sh (List.map encT t)] (rowS Heap.nil (List.map encT t)) from ofT_any _ (by exact fewT_len (by assumption))) ⟨rfl, rfl⟩ Res.p <| .callG ([AV.sl SK.sh (List.map encL l)]) (AV.sl SK.sh (List.map encL l)) (show Gives cfg (17 : FuncId) [AV.sl SK.sh (List.map encL l)] (rowS Heap.nil (List.map encL l)) from ofL_any _ (by exact fewL_len (by assumption))) ⟨rfl, rfl⟩ Res.p <| .callG ([AV.sl SK.sh (List.map encT t)]) (AV.int IntKind.i64 (ckT t)) (show Gives cfg (18 : FuncId) [AV.sl SK.sh (List.map encT t)] (AV.int IntKind.i64 (ckT t)) from ckT_any _) ⟨rfl, rfl⟩ ⟨rfl, rfl⟩ <| .callG ([AV.sl SK.sh (List.map encL l)]) (AV.int IntKind.i64 (ckL l)) (show Gives cfg (19 : FuncId) [AV.sl SK.sh (List.map encL l)] (AV.int IntKind.i64 (ckL l)) from ckL_any _) ⟨rfl, rfl⟩ ⟨rfl, rfl⟩ <| .callG ([AV.sl SK.sh (List.map encT t)]) (AV.int IntKind.i64 (ckT t)) (show Gives cfg (20 : FuncId) [AV.sl SK.sh (List.map encT t)] (AV.int IntKind.i64 (ckT t)) from ckT2 _) ⟨rfl, rfl⟩ ⟨rfl, rfl⟩ <| .no (show (ckT t != ckT t) = false from Bool.eq_false_iff.2 (show ¬ ((ckT t != ckT t) = true) from (by simp))) <| .callG ([AV.sl SK.sh (List.map encL l)]) (AV.int IntKind.i64 (ckL l)) (show Gives cfg (21 : FuncId) [AV.sl SK.sh (List.map encL l)] (AV.int IntKind.i64 (ckL l)) from ckL2 _) ⟨rfl, rfl⟩ ⟨rfl, rfl⟩ <| .no (show (ckL l != ckL l) = false from Bool.eq_false_iff.2 (show ¬ ((ckL l != ckL l) = true) from (by simp))) <| .split ((ckT t != (0 : Int)) = true) (fun h3 => .yes (show (ckT t != (0 : Int)) = true from h3) <| .tt <| .fin ((ARes.ret (AV.bool true), { boxes := [], toks := [], loops := [] : Heap })) rfl) (fun h3 => .no (show (ckT t != (0 : Int)) = false from Bool.eq_false_iff.2 (show ¬ ((ckT t != (0 : Int)) = true) from h3)) <| .split ((ckL l != (0 : Int)) = true) (fun h4 => .yes (show (ckL l != (0 : Int)) = true from h4) <| .fin ((ARes.ret (AV.bool true), { boxes := [], toks := [], loops := [] : Heap })) rfl) (fun h4 => .no (show (ckL l != (0 : Int)) = false from Bool.eq_false_iff.2 (show ¬ ((ckL l != (0 : Int)) = true) from h4)) <| .callG ([AV.sl SK.sh (List.map encL l), AV.sl SK.sh (List.map encT t)]) (AV.tuple [AV.agg [AV.str ((worst l t).getD noT).key, AV.str ((worst l t).getD noT).val, AV.bool ((worst l t).getD noT).hard], AV.bool (worst l t).isSome]) (show Gives cfg (22 : FuncId) [AV.sl SK.sh (List.map encL l), AV.sl SK.sh (List.map encT t)] (worstV (worst l t)) from worst_any _ _ (by have := fewL_len (by assumption); omega) (by have := fewT_len (by assumption); omega)) ⟨rfl, rfl⟩ ⟨rfl, rfl⟩ <| .callG ([AV.sl SK.sh (List.map encL l), AV.sl SK.sh (List.map encT t)]) (AV.tuple [AV.agg [AV.str ((worst l t).getD noT).key, AV.str ((worst l t).getD noT).val, AV.bool ((worst l t).getD noT).hard], AV.bool (worst l t).isSome]) (show Gives cfg (23 : FuncId) [AV.sl SK.sh (List.map encL l), AV.sl SK.sh (List.map encT t)] (worstV (worst l t)) from worst2 _ _ (by have := fewL_len (by assumption); omega) (by have := fewT_len (by assumption); omega)) ⟨rfl, rfl⟩ ⟨rfl, rfl⟩ <| .no (show (if true = true then !(worst l t).isSome == (worst l t).isSome else (worst l t).isSome == (worst l t).isSome) = false from Bool.eq_false_iff.2 (show ¬ ((if true = true then !(worst l t).isSome == (worst l t).isSome else (worst l t).isSome == (worst l t).isSome) = true) from (by simp))) <| .no (show (!((worst l t).getD noT).key == ((worst l t).getD noT).key) = false from by have hh : (((worst l t).getD noT).key == ((worst l t).getD noT).key) = true := (by simp); simp [hh]) <| .no (show (!((worst l t).getD noT).val == ((worst l t).getD noT).val) = false from by have hh : (((worst l t).getD noT).val == ((worst l t).getD noT).val) = true := (by simp); simp [hh]) <| .no (show (if true = true then !((worst l t).getD noT).hard == ((worst l t).getD noT).hard else ((worst l t).getD noT).hard == ((worst l t).getD noT).hard) = false from Bool.eq_false_iff.2 (show ¬ ((if true = true then !((worst l t).getD noT).hard == ((worst l t).getD noT).hard else ((worst l t).getD noT).hard == ((worst l t).getD noT).hard) = true) from (by simp))) <| .callG ([AV.sl SK.sh (List.map encL l), AV.sl SK.sh (List.map encT t)]) (AV.int IntKind.i64 (↑(soft l t) : Int)) (show Gives cfg (24 : FuncId) [AV.sl SK.sh (List.map encL l), AV.sl SK.sh (List.map encT t)] (AV.int IntKind.i64 (↑(soft l t) : Int)) from soft_any _ _ (by have := fewL_len (by assumption); omega) (by have := fewT_len (by assumption); omega)) ⟨rfl, rfl⟩ ⟨rfl, rfl⟩ <| .callG ([AV.sl SK.sh (List.map encL l), AV.sl SK.sh (List.map encT t)]) (AV.int IntKind.i64 (↑(soft l t) : Int)) (show Gives cfg (25 : FuncId) [AV.sl SK.sh (List.map encL l), AV.sl SK.sh (List.map encT t)] (AV.int IntKind.i64 (↑(soft l t) : Int)) from soft2 _ _ (by have := fewL_len (by assumption); omega) (by have := fewT_len (by assumption); omega)) ⟨rfl, rfl⟩ ⟨rfl, rfl⟩ <| .no (show ((↑(soft l t) : Int) != (↑(soft l t) : Int)) = false from Bool.eq_false_iff.2 (show ¬ (((↑(soft l t) : Int) != (↑(soft l t) : Int)) = true) from (by simp))) <| .callG ([AV.sl SK.sh (List.map encT t)]) (AV.str (textOf tText t)) (show Gives cfg (26 : FuncId) [AV.sl SK.sh (List.map encT t)] (AV.str (textOf tText t)) from tText_any _ h1) ⟨rfl, rfl⟩ ⟨rfl, rfl⟩ <| .callG ([AV.sl SK.sh (List.map encT t)]) (AV.str (textOf tText t)) (show Gives cfg (27 : FuncId) [AV.sl SK.sh (List.map encT t)] (AV.str (textOf tText t)) from tText_ref _ h1) ⟨rfl, rfl⟩ ⟨rfl, rfl⟩ <| .no (show (!textOf tText t == textOf tText t) = false from by have hh : (textOf tText t == textOf tText t) = true := (by simp); simp [hh]) <| .callG ([AV.sl SK.sh (List.map encL l)]) (AV.str (textOf lText l)) (show Gives cfg (28 : FuncId) [AV.sl SK.sh (List.map encL l)] (AV.str (textOf lText l)) from lText_any _ h2) ⟨rfl, rfl⟩ ⟨rfl, rfl⟩ <| .callG ([AV.sl SK.sh (List.map encL l)]) (AV.str (textOf lText l)) (show Gives cfg (29 : FuncId) [AV.sl SK.sh (List.map encL l)] (AV.str (textOf lText l)) from lText_ref _ h2) ⟨rfl, rfl⟩ ⟨rfl, rfl⟩ <| .no (show (!textOf lText l == textOf lText l) = false from by have hh : (textOf lText l == textOf lText l) = true := (by simp); simp [hh]) <| .cutQ k3_0 [(0, AV.sl SK.sh (List.map encT t)), (1, AV.sl SK.sh (List.map encL l)), (5, AV.sl SK.sh (List.map encT t)), (6, AV.sl SK.sh (List.map encL l)), (13, AV.int IntKind.i64 (0 : Int))] ({ boxes := [[AV.str ((worst l t).getD noT).key, AV.str ((worst l t).getD noT).val, AV.bool ((worst l t).getD noT).hard], [AV.str ((worst l t).getD noT).key, AV.str ((worst l t).getD noT).val, AV.bool ((worst l t).getD noT).hard]], toks := [], loops := [] : Heap }) (fun T hT => (h h1 h2 (by simp_all) (by simp_all) ([[AV.str ((worst l t).getD noT).key, AV.str ((worst l t).getD noT).val, AV.bool ((worst l t).getD noT).hard], [AV.str ((worst l t).getD noT).key, AV.str ((worst l t).getD noT).val, AV.bool ((worst l t).getD noT).hard]]) T hT))))) (fun h2 => .yes (show (!fewL l) = true from by have hh : ¬ (fewL l = true) := h2; simp [hh]) <| .fin ((ARes.ret (AV.bool true), { boxes := [], toks := [], loops := [] : Heap })) rfl)) (fun h1 => .yes (show (!fewT t) = true from by have hh : ¬ (fewT t = true) := h1; simp [hh]) <| .tt <| .fin ((ARes.ret (AV.bool true), { boxes := [], toks := [], loops := [] : Heap })) rfl)) (by kernel_rfl)
end Go.Aa.T

set_option linter.unusedVariables false
set_option linter.unusedSimpArgs false
set_option maxRecDepth 100000
namespace Go.Aa.T
open Go.Aa Go.Proofs
theorem law3 (xs : List AV) (h : TyAll Tryd.prog 5 [22, 23] xs) (hz : SzAll Tryd.prog [22, 23] xs) : ∃ H', lim cfg (.fn 3) xs Heap.nil = some (.ret (.bool true), H') := by
  obtain ⟨x, y, rfl, hx, hy⟩ := tyall_2 h
  obtain ⟨t, rfl⟩ := tyTaints hx
  obtain ⟨l, rfl⟩ := tyTols hy
  exact (taintAny t l).ret
end Go.Aa.T
