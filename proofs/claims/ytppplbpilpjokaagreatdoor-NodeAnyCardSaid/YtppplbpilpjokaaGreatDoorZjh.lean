/-
  WHAT THE LAW LEANS ON, part 8 of 8: a machine of values and its soundness; the functions of the law upon it; what they come to.
-/
import Derived.Test.YtppplbpilpjokaaGreatDoorZjg
import Derived.Test.YtppplbpilpjokaaGreatDoorRows
import Derived.Stop.LaidErr

set_option linter.unusedVariables false
set_option linter.unusedSimpArgs false
set_option maxRecDepth 100000
namespace Go.Aa.T
open Go.Aa Go.Proofs
theorem dec71 {n : Int} (h0 : 0 ≤ n) (h1 : n ≤ 9223372036854775807) : Gives cfg 71 [.int .i64 n] (.str (itoaF n)) := by
  obtain ⟨k, hk⟩ := Int.eq_ofNat_of_zero_le h0
  have hk : n = (k : Int) := hk
  rw [hk]
  exact decimal_any k (by omega)
theorem aRef_loop (l : List Amount) (hn : l.length ≤ 20) (hr : ∀ x ∈ l, 0 ≤ x.n ∧ x.n ≤ 9223372036854775807) (total : List UInt8) (ht : total.length ≤ 10000) : ∀ (post : List Amount) (i : Nat) (acc : List UInt8) (hd : l.drop i = post) (hi : 0 < i) (hs : acc ++ Lib.joinTail [44] (post.map aText) = total) (T : Env) (hT : Has T [(0, .sl .sh (l.map encA)), (3, .str acc), (4, .int .i64 i)]),
    Goes cfg a105 k105_0 T Heap.nil (IsRet (.str total)) := by
  intro post
  induction post with
  | nil =>
    intro i acc hd hi hs T hT
    have hge := drop_ge hd
    have e : acc = total := by rw [← hs]; simp [Lib.joinTail]
    subst e
    exact goG 60 _  hT  (.len (show lenA false (AV.sl .sh (List.map encA l)) = some (AV.int .i64 (↑l.length : Int)) from len_map _) <| .no (show (decide ((↑i : Int) < (↑l.length : Int))) = false from decide_eq_false (show ¬ ((↑i : Int) < (↑l.length : Int)) from (by omega))) <| .fin ((ARes.ret (AV.str acc), { boxes := [], toks := [], loops := [] : Heap })) rfl) (by kernel_rfl)
  | cons x post ih =>
    intro i acc hd hi hs T hT
    have hlt := drop_lt hd
    have hnx := drop_next hd
    have hx := hr x (drop_mem hd)
    have dd := dec71 hx.1 hx.2
    have hs2 : acc ++ [44] ++ x.name ++ [61] ++ itoaF x.n ++ Lib.joinTail [44] (post.map aText) = total := by
      rw [← hs]; simp [tail_consC, aText]
    have hlen := congrArg List.length hs2
    simp only [List.length_append, List.length_cons, List.length_nil] at hlen
    have a1 : binA .add (.str acc) (.str [44]) = some (.str (acc ++ [44])) := str_add (by simp; omega)
    have a2 : binA .add (.str (acc ++ [44])) (.str x.name) = some (.str (acc ++ [44] ++ x.name)) := str_add (by simp; omega)
    have a3 : binA .add (.str (acc ++ [44] ++ x.name)) (.str [61]) = some (.str (acc ++ [44] ++ x.name ++ [61])) := str_add (by simp; omega)
    have a4 : binA .add (.str (acc ++ [44] ++ x.name ++ [61])) (.str (itoaF x.n)) = some (.str (acc ++ [44] ++ x.name ++ [61] ++ itoaF x.n)) := str_add (by simp; omega)
    have ih' := ih (i + 1) _ hnx (by omega) hs2
    generalize acc ++ [44] ++ x.name ++ [61] ++ itoaF x.n = b4 at *
    generalize acc ++ [44] ++ x.name ++ [61] = b3 at *
    generalize acc ++ [44] ++ x.name = b2 at *
    generalize acc ++ [44] = b1 at *
    clear ih
    exact goG 60 _  hT  (.len (show lenA false (AV.sl .sh (List.map encA l)) = some (AV.int .i64 (↑l.length : Int)) from len_map _) <| .yes (show (decide ((↑i : Int) < (↑l.length : Int))) = true from decide_eq_true (show (↑i : Int) < (↑l.length : Int) from (by omega))) <| .yes (show (decide ((0 : Int) < (↑i : Int))) = true from decide_eq_true (show (0 : Int) < (↑i : Int) from (by omega))) <| .bin (show binA .add (AV.str acc) (AV.str [(44 : UInt8)]) = some (AV.str b1) from a1) <| .idx (show idxA 2 (AV.sl .sh (List.map encA l)) (AV.int .i64 (↑i : Int)) = some (AV.ref (encA x).cells) from idx_row hd (by rfl)) <| .bin (show binA .add (AV.str b1) (AV.str x.name) = some (AV.str b2) from a2) <| .bin (show binA .add (AV.str b2) (AV.str [(61 : UInt8)]) = some (AV.str b3) from a3) <| .idx (show idxA 2 (AV.sl .sh (List.map encA l)) (AV.int .i64 (↑i : Int)) = some (AV.ref (encA x).cells) from idx_row hd (by rfl)) <| .callG ([AV.int .i64 x.n]) (AV.str (itoaF x.n)) (show Gives cfg (71 : FuncId) [AV.int .i64 x.n] (AV.str (itoaF x.n)) from dd) ⟨rfl, rfl⟩ ⟨rfl, rfl⟩ <| .bin (show binA .add (AV.str b3) (AV.str (itoaF x.n)) = some (AV.str b4) from a4) <| .bin (show binA .add (AV.int .i64 (↑i : Int)) (AV.int .i64 1) = some (AV.int .i64 (↑(i + (1 : Nat)) : Int)) from inc_i (by omega)) <| .cutQ k105_0 [(0, AV.sl .sh (List.map encA l)), (3, AV.str b4), (4, AV.int .i64 (↑(i + (1 : Nat)) : Int))] ({ boxes := [], toks := [], loops := [] : Heap }) (fun T hT => (ih' T hT))) (by kernel_rfl)
theorem aRef_0 (l : List Amount) (x : Amount) (post : List Amount) (hd : l.drop 0 = x :: post) (hn : l.length ≤ 20) (hr : ∀ x ∈ l, 0 ≤ x.n ∧ x.n ≤ 9223372036854775807) (total : List UInt8) (ht : total.length ≤ 10000) (hs : x.name ++ [61] ++ itoaF x.n ++ Lib.joinTail [44] (post.map aText) = total) (i : Nat) (hi : i = 0) (T : Env) (hT : Has T [(0, .sl .sh (l.map encA)), (3, .str []), (4, .int .i64 i)]) :
    Goes cfg a105 k105_0 T Heap.nil (IsRet (.str total)) := by
  have hd' : l.drop i = x :: post := by rw [hi]; exact hd
  have hlt := drop_lt hd'
  have hnx := drop_next hd'
  have hx := hr x (drop_mem hd')
  have dd := dec71 hx.1 hx.2
  have hlen := congrArg List.length hs
  simp only [List.length_append, List.length_cons, List.length_nil] at hlen
  have a2 : binA .add (.str []) (.str x.name) = some (.str x.name) := str_add (a := []) (by simp; omega)
  have a3 : binA .add (.str x.name) (.str [61]) = some (.str (x.name ++ [61])) := str_add (by simp; omega)
  have a4 : binA .add (.str (x.name ++ [61])) (.str (itoaF x.n)) = some (.str (x.name ++ [61] ++ itoaF x.n)) := str_add (by simp; omega)
  have ih' := aRef_loop l hn hr total ht post (i + 1) _ hnx (by omega) hs
  have hgt : ¬ (0 : Int) < (i : Int) := by omega
  generalize x.name ++ [61] ++ itoaF x.n = b4 at *
  generalize x.name ++ [61] = b3 at *
  exact goG 60 _  hT  (.len (show lenA false (AV.sl .sh (List.map encA l)) = some (AV.int .i64 (↑l.length : Int)) from len_map _) <| .yes (show (decide ((↑i : Int) < (↑l.length : Int))) = true from decide_eq_true (show (↑i : Int) < (↑l.length : Int) from (by omega))) <| .no (show (decide ((0 : Int) < (↑i : Int))) = false from decide_eq_false (show ¬ ((0 : Int) < (↑i : Int)) from (by omega))) <| .idx (show idxA 2 (AV.sl .sh (List.map encA l)) (AV.int .i64 (↑i : Int)) = some (AV.ref (encA x).cells) from idx_row hd' (by rfl)) <| .bin (show binA .add (AV.str []) (AV.str x.name) = some (AV.str x.name) from a2) <| .bin (show binA .add (AV.str x.name) (AV.str [(61 : UInt8)]) = some (AV.str b3) from a3) <| .idx (show idxA 2 (AV.sl .sh (List.map encA l)) (AV.int .i64 (↑i : Int)) = some (AV.ref (encA x).cells) from idx_row hd' (by rfl)) <| .callG ([AV.int .i64 x.n]) (AV.str (itoaF x.n)) (show Gives cfg (71 : FuncId) [AV.int .i64 x.n] (AV.str (itoaF x.n)) from dd) ⟨rfl, rfl⟩ ⟨rfl, rfl⟩ <| .bin (show binA .add (AV.str b3) (AV.str (itoaF x.n)) = some (AV.str b4) from a4) <| .bin (show binA .add (AV.int .i64 (↑i : Int)) (AV.int .i64 1) = some (AV.int .i64 (↑(i + (1 : Nat)) : Int)) from inc_i (by omega)) <| .cutQ k105_0 [(0, AV.sl .sh (List.map encA l)), (3, AV.str b4), (4, AV.int .i64 (↑(i + (1 : Nat)) : Int))] ({ boxes := [], toks := [], loops := [] : Heap }) (fun T hT => (ih' T hT))) (by kernel_rfl)
theorem aText_ref (l : List Amount) (hf : fewA l = true) (hr : ∀ x ∈ l, 0 ≤ x.n ∧ x.n ≤ 9223372036854775807) : Gives cfg 105 [.sl .sh (l.map encA)] (.str (textOf aText l)) := by
  have hn := fewA_len hf
  have hlen : (textOf aText l).length ≤ 10000 := textOf_len3 hn fun x hx => aText_len x (by
    simp only [fewA, short1, Bool.and_eq_true, List.all_eq_true, decide_eq_true_eq] at hf
    exact hf.2 x hx) (by have := hr x hx; omega)
  refine Gives.run (l105 _ _) ?_
  by_cases hl : l.length = 0
  · have e : textOf aText l = [45] := by
      have : l = [] := List.eq_nil_of_length_eq_zero hl
      subst this; rfl
    rw [e]
    have hz : ((l.length : Int) == 0) = true := by rw [beq_iff_eq]; omega
    exact goG 60 []  trivial  (.len (show lenA false (AV.sl .sh (List.map encA l)) = some (AV.int .i64 (↑l.length : Int)) from len_map _) <| .yes (show ((↑l.length : Int) == (0 : Int)) = true from (by exact hz)) <| .fin ((ARes.ret (AV.str [(45 : UInt8)]), { boxes := [], toks := [], loops := [] : Heap })) rfl) (by kernel_rfl)
  · obtain ⟨x, post, hd⟩ : ∃ x post, l.drop 0 = x :: post := by
      cases l with
      | nil => simp at hl
      | cons x post => exact ⟨x, post, rfl⟩
    have e : x.name ++ [61] ++ itoaF x.n ++ Lib.joinTail [44] (post.map aText) = textOf aText l := by
      rw [List.drop_zero] at hd
      subst hd
      exact (aText_cons x post).symm
    have h := aRef_0 l x post hd hn hr _ hlen e 0 rfl
    generalize textOf aText l = tot at *
    have hz : ¬ (((l.length : Int) == 0) = true) := by rw [beq_iff_eq]; omega
    exact goG 60 []  trivial  (.len (show lenA false (AV.sl .sh (List.map encA l)) = some (AV.int .i64 (↑l.length : Int)) from len_map _) <| .no (show ((↑l.length : Int) == (0 : Int)) = false from Bool.eq_false_iff.2 (show ¬ (((↑l.length : Int) == (0 : Int)) = true) from (by exact hz))) <| .cutQ k105_0 [(0, AV.sl .sh (List.map encA l)), (3, AV.str []), (4, AV.int .i64 0)] ({ boxes := [], toks := [], loops := [] : Heap }) (fun T hT => (h T hT))) (by kernel_rfl)
theorem tText_ref_loop (l : List Taint) (hn : l.length ≤ 20) (hf : ∀ x ∈ l, x.key.length ≤ 50 ∧ x.val.length ≤ 50) (hj : (Lib.join (l.map tText) [44]).length ≤ 3000) : ∀ (post : List Taint) (i : Nat) (acc : List (List UInt8)) (hd : l.drop i = post) (ha : acc.length = i) (hall : acc ++ post.map tText = l.map tText) (T : Env)
    (hT : Has T [(0, .sl .sh (l.map encT)), (3, rowS Heap.nil (acc.map AV.str)), (4, .int .i64 i)]),
    Goes cfg a107 k107_0 T (rowH Heap.nil (acc.map AV.str)) (IsRet (.str (textOf tText l))) := by
  intro post
  induction post with
  | nil =>
    intro i acc hd ha hall T hT
    have hge := drop_ge hd
    have e : acc = l.map tText := by simpa using hall
    subst e
    have hj2 : Gives cfg 142 [.sl .sh ((l.map tText).map AV.str)] (.str (textOf tText l)) := by
      have := joined_any (l.map tText) (by simpa using hn) hj
      cases l with
      | nil => exact this
      | cons => simpa [textOf] using this
    exact goG 60 _  hT  (.len (show lenA false (AV.sl .sh (List.map encT l)) = some (AV.int .i64 (↑l.length : Int)) from len_map _) <| .no (show (decide ((↑i : Int) < (↑l.length : Int))) = false from decide_eq_false (show ¬ ((↑i : Int) < (↑l.length : Int)) from (by simp; omega))) <| .callG ([rowS Heap.nil (List.map AV.str (List.map tText l))]) (AV.str (textOf tText l)) (show Gives cfg (142 : FuncId) [AV.sl .sh (List.map AV.str (List.map tText l))] (AV.str (textOf tText l)) from hj2) Shuts.p ⟨rfl, rfl⟩ <| .fin ((ARes.ret (AV.str (textOf tText l)), rowH Heap.nil (List.map AV.str (List.map tText l)))) rfl) (by kernel_rfl)
  | cons x post ih =>
    intro i acc hd ha hall T hT
    have hlt := drop_lt hd
    have hnx := drop_next hd
    obtain ⟨hk, hv⟩ := hf x (drop_mem hd)
    have hall2 : (acc ++ [tText x]) ++ post.map tText = l.map tText := by rw [← hall]; simp
    exact goG 90 _  hT  (.len (show lenA false (AV.sl .sh (List.map encT l)) = some (AV.int .i64 (↑l.length : Int)) from len_map _) <| .yes (show (decide ((↑i : Int) < (↑l.length : Int))) = true from decide_eq_true (show (↑i : Int) < (↑l.length : Int) from (by simp; omega))) <| .idx (show idxA 3 (AV.sl .sh (List.map encT l)) (AV.int .i64 (↑i : Int)) = some (AV.ref (encT x).cells) from idx_row hd (by rfl)) <| .load (show loadA false 1 (roomH (rowH Heap.nil (List.map AV.str acc)) (resvCells [{ dst := some (12 : Nat), op := AOp.mov (Opd.t (0 : Nat)), guard := none, deps := [] : AOper }, { dst := some (13 : Nat), op := AOp.mov (Opd.t (4 : Nat)), guard := none, deps := [] : AOper }, { dst := some (14 : Nat), op := AOp.idx (3 : Nat) (Opd.t (12 : Nat)) (Opd.t (13 : Nat)), guard := none, deps := [(1 : Nat), (0 : Nat)] : AOper }, { dst := some (15 : Nat), op := AOp.fld (0 : Nat) (1 : Nat) (Opd.t (14 : Nat)), guard := none, deps := [(0 : Nat), (1 : Nat), (2 : Nat)] : AOper }, { dst := some (16 : Nat), op := AOp.load false (1 : Nat) (Opd.t (15 : Nat)), guard := none, deps := [(2 : Nat), (1 : Nat), (0 : Nat), (3 : Nat)] : AOper }, { dst := some (17 : Nat), op := AOp.bin BinOp.add (Opd.t (16 : Nat)) (Opd.c (AV.str [(58 : UInt8)])), guard := none, deps := [(3 : Nat), (0 : Nat), (1 : Nat), (2 : Nat), (4 : Nat)] : AOper }, { dst := some (18 : Nat), op := AOp.mov (Opd.t (0 : Nat)), guard := none, deps := [] : AOper }, { dst := some (19 : Nat), op := AOp.mov (Opd.t (4 : Nat)), guard := none, deps := [] : AOper }, { dst := some (20 : Nat), op := AOp.idx (3 : Nat) (Opd.t (18 : Nat)) (Opd.t (19 : Nat)), guard := none, deps := [(7 : Nat), (6 : Nat)] : AOper }, { dst := some (21 : Nat), op := AOp.fld (1 : Nat) (1 : Nat) (Opd.t (20 : Nat)), guard := none, deps := [(6 : Nat), (7 : Nat), (8 : Nat)] : AOper }, { dst := some (22 : Nat), op := AOp.load false (1 : Nat) (Opd.t (21 : Nat)), guard := none, deps := [(8 : Nat), (7 : Nat), (6 : Nat), (9 : Nat)] : AOper }, { dst := some (23 : Nat), op := AOp.bin BinOp.add (Opd.t (17 : Nat)) (Opd.t (22 : Nat)), guard := none, deps := [(9 : Nat), (6 : Nat), (7 : Nat), (8 : Nat), (10 : Nat), (4 : Nat), (2 : Nat), (1 : Nat), (0 : Nat), (3 : Nat), (5 : Nat)] : AOper }, { dst := some (5 : Nat), op := AOp.mov (Opd.t (23 : Nat)), guard := none, deps := [(5 : Nat), (3 : Nat), (0 : Nat), (1 : Nat), (2 : Nat), (4 : Nat), (10 : Nat), (8 : Nat), (7 : Nat), (6 : Nat), (9 : Nat), (11 : Nat)] : AOper }])) (AV.ref [AV.str x.key]) = some (AV.str x.key) from rfl) <| .bin (show binA .add (AV.str x.key) (AV.str [(58 : UInt8)]) = some (AV.str (x.key ++ [(58 : UInt8)])) from str_add (by simp; omega)) <| .idx (show idxA 3 (AV.sl .sh (List.map encT l)) (AV.int .i64 (↑i : Int)) = some (AV.ref (encT x).cells) from idx_row hd (by rfl)) <| .load (show loadA false 1 (roomH (rowH Heap.nil (List.map AV.str acc)) (resvCells [{ dst := some (12 : Nat), op := AOp.mov (Opd.t (0 : Nat)), guard := none, deps := [] : AOper }, { dst := some (13 : Nat), op := AOp.mov (Opd.t (4 : Nat)), guard := none, deps := [] : AOper }, { dst := some (14 : Nat), op := AOp.idx (3 : Nat) (Opd.t (12 : Nat)) (Opd.t (13 : Nat)), guard := none, deps := [(1 : Nat), (0 : Nat)] : AOper }, { dst := some (15 : Nat), op := AOp.fld (0 : Nat) (1 : Nat) (Opd.t (14 : Nat)), guard := none, deps := [(0 : Nat), (1 : Nat), (2 : Nat)] : AOper }, { dst := some (16 : Nat), op := AOp.load false (1 : Nat) (Opd.t (15 : Nat)), guard := none, deps := [(2 : Nat), (1 : Nat), (0 : Nat), (3 : Nat)] : AOper }, { dst := some (17 : Nat), op := AOp.bin BinOp.add (Opd.t (16 : Nat)) (Opd.c (AV.str [(58 : UInt8)])), guard := none, deps := [(3 : Nat), (0 : Nat), (1 : Nat), (2 : Nat), (4 : Nat)] : AOper }, { dst := some (18 : Nat), op := AOp.mov (Opd.t (0 : Nat)), guard := none, deps := [] : AOper }, { dst := some (19 : Nat), op := AOp.mov (Opd.t (4 : Nat)), guard := none, deps := [] : AOper }, { dst := some (20 : Nat), op := AOp.idx (3 : Nat) (Opd.t (18 : Nat)) (Opd.t (19 : Nat)), guard := none, deps := [(7 : Nat), (6 : Nat)] : AOper }, { dst := some (21 : Nat), op := AOp.fld (1 : Nat) (1 : Nat) (Opd.t (20 : Nat)), guard := none, deps := [(6 : Nat), (7 : Nat), (8 : Nat)] : AOper }, { dst := some (22 : Nat), op := AOp.load false (1 : Nat) (Opd.t (21 : Nat)), guard := none, deps := [(8 : Nat), (7 : Nat), (6 : Nat), (9 : Nat)] : AOper }, { dst := some (23 : Nat), op := AOp.bin BinOp.add (Opd.t (17 : Nat)) (Opd.t (22 : Nat)), guard := none, deps := [(9 : Nat), (6 : Nat), (7 : Nat), (8 : Nat), (10 : Nat), (4 : Nat), (2 : Nat), (1 : Nat), (0 : Nat), (3 : Nat), (5 : Nat)] : AOper }, { dst := some (5 : Nat), op := AOp.mov (Opd.t (23 : Nat)), guard := none, deps := [(5 : Nat), (3 : Nat), (0 : Nat), (1 : Nat), (2 : Nat), (4 : Nat), (10 : Nat), (8 : Nat), (7 : Nat), (6 : Nat), (9 : Nat), (11 : Nat)] : AOper }])) (AV.ref [AV.str x.val]) = some (AV.str x.val) from rfl) <| .bin (show binA .add (AV.str (x.key ++ [(58 : UInt8)])) (AV.str x.val) = some (AV.str (x.key ++ [(58 : UInt8)] ++ x.val)) from str_add (by simp; omega)) <| .idx (show idxA 3 (AV.sl .sh (List.map encT l)) (AV.int .i64 (↑i : Int)) = some (AV.ref (encT x).cells) from idx_row hd (by rfl)) <| .load (show loadA false 1 (roomH (rowH Heap.nil (List.map AV.str acc)) (resvCells [{ dst := some (12 : Nat), op := AOp.mov (Opd.t (0 : Nat)), guard := none, deps := [] : AOper }, { dst := some (13 : Nat), op := AOp.mov (Opd.t (4 : Nat)), guard := none, deps := [] : AOper }, { dst := some (14 : Nat), op := AOp.idx (3 : Nat) (Opd.t (12 : Nat)) (Opd.t (13 : Nat)), guard := none, deps := [(1 : Nat), (0 : Nat)] : AOper }, { dst := some (15 : Nat), op := AOp.fld (0 : Nat) (1 : Nat) (Opd.t (14 : Nat)), guard := none, deps := [(0 : Nat), (1 : Nat), (2 : Nat)] : AOper }, { dst := some (16 : Nat), op := AOp.load false (1 : Nat) (Opd.t (15 : Nat)), guard := none, deps := [(2 : Nat), (1 : Nat), (0 : Nat), (3 : Nat)] : AOper }, { dst := some (17 : Nat), op := AOp.bin BinOp.add (Opd.t (16 : Nat)) (Opd.c (AV.str [(58 : UInt8)])), guard := none, deps := [(3 : Nat), (0 : Nat), (1 : Nat), (2 : Nat), (4 : Nat)] : AOper }, { dst := some (18 : Nat), op := AOp.mov (Opd.t (0 : Nat)), guard := none, deps := [] : AOper }, { dst := some (19 : Nat), op := AOp.mov (Opd.t (4 : Nat)), guard := none, deps := [] : AOper }, { dst := some (20 : Nat), op := AOp.idx (3 : Nat) (Opd.t (18 : Nat)) (Opd.t (19 : Nat)), guard := none, deps := [(7 : Nat), (6 : Nat)] : AOper }, { dst := some (21 : Nat), op := AOp.fld (1 : Nat) (1 : Nat) (Opd.t (20 : Nat)), guard := none, deps := [(6 : Nat), (7 : Nat), (8 : Nat)] : AOper }, { dst := some (22 : Nat), op := AOp.load false (1 : Nat) (Opd.t (21 : Nat)), guard := none, deps := [(8 : Nat), (7 : Nat), (6 : Nat), (9 : Nat)] : AOper }, { dst := some (23 : Nat), op := AOp.bin BinOp.add (Opd.t (17 : Nat)) (Opd.t (22 : Nat)), guard := none, deps := [(9 : Nat), (6 : Nat), (7 : Nat), (8 : Nat), (10 : Nat), (4 : Nat), (2 : Nat), (1 : Nat), (0 : Nat), (3 : Nat), (5 : Nat)] : AOper }, { dst := some (5 : Nat), op := AOp.mov (Opd.t (23 : Nat)), guard := none, deps := [(5 : Nat), (3 : Nat), (0 : Nat), (1 : Nat), (2 : Nat), (4 : Nat), (10 : Nat), (8 : Nat), (7 : Nat), (6 : Nat), (9 : Nat), (11 : Nat)] : AOper }])) (AV.ref [AV.bool x.hard]) = some (AV.bool x.hard) from rfl) <| .split (x.hard = true) (fun h1 => .yes (show (x.hard) = true from h1) <| .bin (show binA .add (AV.str (x.key ++ [(58 : UInt8)] ++ x.val)) (AV.str [(33 : UInt8)]) = some (AV.str (x.key ++ [(58 : UInt8)] ++ x.val ++ [(33 : UInt8)])) from str_add (by simp; omega)) <| .append (show appendA (1 : Nat) (16 : Nat) (roomH (rowH Heap.nil (List.map AV.str acc)) (resvCells [{ dst := some (12 : Nat), op := AOp.mov (Opd.t (0 : Nat)), guard := none, deps := [] : AOper }, { dst := some (13 : Nat), op := AOp.mov (Opd.t (4 : Nat)), guard := none, deps := [] : AOper }, { dst := some (14 : Nat), op := AOp.idx (3 : Nat) (Opd.t (12 : Nat)) (Opd.t (13 : Nat)), guard := none, deps := [(1 : Nat), (0 : Nat)] : AOper }, { dst := some (15 : Nat), op := AOp.fld (0 : Nat) (1 : Nat) (Opd.t (14 : Nat)), guard := none, deps := [(0 : Nat), (1 : Nat), (2 : Nat)] : AOper }, { dst := some (16 : Nat), op := AOp.load false (1 : Nat) (Opd.t (15 : Nat)), guard := none, deps := [(2 : Nat), (1 : Nat), (0 : Nat), (3 : Nat)] : AOper }, { dst := some (17 : Nat), op := AOp.bin BinOp.add (Opd.t (16 : Nat)) (Opd.c (AV.str [(58 : UInt8)])), guard := none, deps := [(3 : Nat), (0 : Nat), (1 : Nat), (2 : Nat), (4 : Nat)] : AOper }, { dst := some (18 : Nat), op := AOp.mov (Opd.t (0 : Nat)), guard := none, deps := [] : AOper }, { dst := some (19 : Nat), op := AOp.mov (Opd.t (4 : Nat)), guard := none, deps := [] : AOper }, { dst := some (20 : Nat), op := AOp.idx (3 : Nat) (Opd.t (18 : Nat)) (Opd.t (19 : Nat)), guard := none, deps := [(7 : Nat), (6 : Nat)] : AOper }, { dst := some (21 : Nat), op := AOp.fld (1 : Nat) (1 : Nat) (Opd.t (20 : Nat)), guard := none, deps := [(6 : Nat), (7 : Nat), (8 : Nat)] : AOper }, { dst := some (22 : Nat), op := AOp.load false (1 : Nat) (Opd.t (21 : Nat)), guard := none, deps := [(8 : Nat), (7 : Nat), (6 : Nat), (9 : Nat)] : AOper }, { dst := some (23 : Nat), op := AOp.bin BinOp.add (Opd.t (17 : Nat)) (Opd.t (22 : Nat)), guard := none, deps := [(9 : Nat), (6 : Nat), (7 : Nat), (8 : Nat), (10 : Nat), (4 : Nat), (2 : Nat), (1 : Nat), (0 : Nat), (3 : Nat), (5 : Nat)] : AOper }, { dst := some (5 : Nat), op := AOp.mov (Opd.t (23 : Nat)), guard := none, deps := [(5 : Nat), (3 : Nat), (0 : Nat), (1 : Nat), (2 : Nat), (4 : Nat), (10 : Nat), (8 : Nat), (7 : Nat), (6 : Nat), (9 : Nat), (11 : Nat)] : AOper }])) (rowS Heap.nil (List.map AV.str acc)) (AV.sl .full [AV.str (x.key ++ [(58 : UInt8)] ++ x.val ++ [(33 : UInt8)])]) = some ((rowS Heap.nil (List.map AV.str (acc ++ [x.key ++ [(58 : UInt8)] ++ x.val ++ [(33 : UInt8)]])), rowH Heap.nil (List.map AV.str (acc ++ [x.key ++ [(58 : UInt8)] ++ x.val ++ [(33 : UInt8)]])))) from row_append_map (by simp; omega) (by exact lenSt) (by rfl) (by rfl)) <| .bin (show binA .add (AV.int .i64 (↑i : Int)) (AV.int .i64 1) = some (AV.int .i64 (↑(i + (1 : Nat)) : Int)) from inc_i (by omega)) <| .cutQ k107_0 [(0, AV.sl .sh (List.map encT l)), (3, rowS Heap.nil (List.map AV.str (acc ++ [x.key ++ [(58 : UInt8)] ++ x.val ++ [(33 : UInt8)]]))), (4, AV.int .i64 (↑(i + (1 : Nat)) : Int))] (rowH Heap.nil (List.map AV.str (acc ++ [x.key ++ [(58 : UInt8)] ++ x.val ++ [(33 : UInt8)]]))) (fun T hT => (ih (i + (1 : Nat)) (acc ++ [x.key ++ [(58 : UInt8)] ++ x.val ++ [(33 : UInt8)]]) hnx (by simp; omega) (by refine Eq.trans ?_ hall2; clear hall hall2 ih hT hj hf; simp [tText, *]) T hT))) (fun h1 => .no (show (x.hard) = false from Bool.eq_false_iff.2 (show ¬ (x.hard = true) from h1)) <| .append (show appendA (1 : Nat) (16 : Nat) (roomH (rowH Heap.nil (List.map AV.str acc)) (resvCells [{ dst := some (12 : Nat), op := AOp.mov (Opd.t (0 : Nat)), guard := none, deps := [] : AOper }, { dst := some (13 : Nat), op := AOp.mov (Opd.t (4 : Nat)), guard := none, deps := [] : AOper }, { dst := some (14 : Nat), op := AOp.idx (3 : Nat) (Opd.t (12 : Nat)) (Opd.t (13 : Nat)), guard := none, deps := [(1 : Nat), (0 : Nat)] : AOper }, { dst := some (15 : Nat), op := AOp.fld (0 : Nat) (1 : Nat) (Opd.t (14 : Nat)), guard := none, deps := [(0 : Nat), (1 : Nat), (2 : Nat)] : AOper }, { dst := some (16 : Nat), op := AOp.load false (1 : Nat) (Opd.t (15 : Nat)), guard := none, deps := [(2 : Nat), (1 : Nat), (0 : Nat), (3 : Nat)] : AOper }, { dst := some (17 : Nat), op := AOp.bin BinOp.add (Opd.t (16 : Nat)) (Opd.c (AV.str [(58 : UInt8)])), guard := none, deps := [(3 : Nat), (0 : Nat), (1 : Nat), (2 : Nat), (4 : Nat)] : AOper }, { dst := some (18 : Nat), op := AOp.mov (Opd.t (0 : Nat)), guard := none, deps := [] : AOper }, { dst := some (19 : Nat), op := AOp.mov (Opd.t (4 : Nat)), guard := none, deps := [] : AOper }, { dst := some (20 : Nat), op := AOp.idx (3 : Nat) (Opd.t (18 : Nat)) (Opd.t (19 : Nat)), guard := none, deps := [(7 : Nat), (6 : Nat)] : AOper }, { dst := some (21 : Nat), op := AOp.fld (1 : Nat) (1 : Nat) (Opd.t (20 : Nat)), guard := none, deps := [(6 : Nat), (7 : Nat), (8 : Nat)] : AOper }, { dst := some (22 : Nat), op := AOp.load false (1 : Nat) (Opd.t (21 : Nat)), guard := none, deps := [(8 : Nat), (7 : Nat), (6 : Nat), (9 : Nat)] : AOper }, { dst := some (23 : Nat), op := AOp.bin BinOp.add (Opd.t (17 : Nat)) (Opd.t (22 : Nat)), guard := none, deps := [(9 : Nat), (6 : Nat), (7 : Nat), (8 : Nat), (10 : Nat), (4 : Nat), (2 : Nat), (1 : Nat), (0 : Nat), (3 : Nat), (5 : Nat)] : AOper }, { dst := some (5 : Nat), op := AOp.mov (Opd.t (23 : Nat)), guard := none, deps := [(5 : Nat), (3 : Nat), (0 : Nat), (1 : Nat), (2 : Nat), (4 : Nat), (10 : Nat), (8 : Nat), (7 : Nat), (6 : Nat), (9 : Nat), (11 : Nat)] : AOper }])) (rowS Heap.nil (List.map AV.str acc)) (AV.sl .full [AV.str (x.key ++ [(58 : UInt8)] ++ x.val)]) = some ((rowS Heap.nil (List.map AV.str (acc ++ [x.key ++ [(58 : UInt8)] ++ x.val])), rowH Heap.nil (List.map AV.str (acc ++ [x.key ++ [(58 : UInt8)] ++ x.val])))) from row_append_map (by simp; omega) (by exact lenSt) (by rfl) (by rfl)) <| .bin (show binA .add (AV.int .i64 (↑i : Int)) (AV.int .i64 1) = some (AV.int .i64 (↑(i + (1 : Nat)) : Int)) from inc_i (by omega)) <| .cutQ k107_0 [(0, AV.sl .sh (List.map encT l)), (3, rowS Heap.nil (List.map AV.str (acc ++ [x.key ++ [(58 : UInt8)] ++ x.val]))), (4, AV.int .i64 (↑(i + (1 : Nat)) : Int))] (rowH Heap.nil (List.map AV.str (acc ++ [x.key ++ [(58 : UInt8)] ++ x.val]))) (fun T hT => (ih (i + (1 : Nat)) (acc ++ [x.key ++ [(58 : UInt8)] ++ x.val]) hnx (by simp; omega) (by refine Eq.trans ?_ hall2; clear hall hall2 ih hT hj hf; simp [tText, *]) T hT)))) (by kernel_rfl)
theorem tText_ref (l : List Taint) (hf : fewT l = true) : Gives cfg 107 [.sl .sh (l.map encT)] (.str (textOf tText l)) := by
  have hn := fewT_len hf
  have hf2 : ∀ x ∈ l, x.key.length ≤ 50 ∧ x.val.length ≤ 50 := by
    simp only [fewT, few, Bool.and_eq_true, List.all_eq_true, decide_eq_true_eq] at hf
    exact hf.2
  have hj : (Lib.join (l.map tText) [44]).length ≤ 3000 := join_len _ (by
    intro s hs
    obtain ⟨x, hx, rfl⟩ := List.mem_map.1 hs
    exact tText_len x (hf2 x hx).1 (hf2 x hx).2) (by simpa using hn)
  refine Gives.run (l107 _ _) ?_
  have h := tText_ref_loop l hn hf2 hj l 0 [] rfl rfl rfl
  exact goG 60 []  trivial  (.cutQ k107_0 [(0, AV.sl .sh (List.map encT l)), (3, AV.sl .full []), (4, AV.int .i64 0)] ({ boxes := [], toks := [], loops := [] : Heap }) (fun T hT => (h T hT))) (by kernel_rfl)
theorem pText_ref_loop (l : List Pair) (hn : l.length ≤ 20) (hf : ∀ x ∈ l, x.key.length ≤ 50 ∧ x.val.length ≤ 50) (hj : (Lib.join (l.map pText) [44]).length ≤ 3000) : ∀ (post : List Pair) (i : Nat) (acc : List (List UInt8)) (hd : l.drop i = post) (ha : acc.length = i) (hall : acc ++ post.map pText = l.map pText) (T : Env)
    (hT : Has T [(0, .sl .sh (l.map encP)), (3, rowS Heap.nil (acc.map AV.str)), (4, .int .i64 i)]),
    Goes cfg a106 k106_0 T (rowH Heap.nil (acc.map AV.str)) (IsRet (.str (textOf pText l))) := by
  intro post
  induction post with
  | nil =>
    intro i acc hd ha hall T hT
    have hge := drop_ge hd
    have e : acc = l.map pText := by simpa using hall
    subst e
    have hj2 : Gives cfg 142 [.sl .sh ((l.map pText).map AV.str)] (.str (textOf pText l)) := by
      have := joined_any (l.map pText) (by simpa using hn) hj
      cases l with
      | nil => exact this
      | cons => simpa [textOf] using this
    exact goG 60 _  hT  (.len (show lenA false (AV.sl .sh (List.map encP l)) = some (AV.int .i64 (↑l.length : Int)) from len_map _) <| .no (show (decide ((↑i : Int) < (↑l.length : Int))) = false from decide_eq_false (show ¬ ((↑i : Int) < (↑l.length : Int)) from (by simp; omega))) <| .callG ([rowS Heap.nil (List.map AV.str (List.map pText l))]) (AV.str (textOf pText l)) (show Gives cfg (142 : FuncId) [AV.sl .sh (List.map AV.str (List.map pText l))] (AV.str (textOf pText l)) from hj2) Shuts.p ⟨rfl, rfl⟩ <| .fin ((ARes.ret (AV.str (textOf pText l)), rowH Heap.nil (List.map AV.str (List.map pText l)))) rfl) (by kernel_rfl)
  | cons x post ih =>
    intro i acc hd ha hall T hT
    have hlt := drop_lt hd
    have hnx := drop_next hd
    obtain ⟨hk, hv⟩ := hf x (drop_mem hd)
    have hall2 : (acc ++ [pText x]) ++ post.map pText = l.map pText := by rw [← hall]; simp
    exact goG 90 _  hT  (.len (show lenA false (AV.sl .sh (List.map encP l)) = some (AV.int .i64 (↑l.length : Int)) from len_map _) <| .yes (show (decide ((↑i : Int) < (↑l.length : Int))) = true from decide_eq_true (show (↑i : Int) < (↑l.length : Int) from (by simp; omega))) <| .idx (show idxA 2 (AV.sl .sh (List.map encP l)) (AV.int .i64 (↑i : Int)) = some (AV.ref (encP x).cells) from idx_row hd (by rfl)) <| .load (show loadA false 1 (roomH (rowH Heap.nil (List.map AV.str acc)) (resvCells [{ dst := some (11 : Nat), op := AOp.mov (Opd.t (3 : Nat)), guard := none, deps := [] : AOper }, { dst := some (12 : Nat), op := AOp.mov (Opd.t (0 : Nat)), guard := none, deps := [] : AOper }, { dst := some (13 : Nat), op := AOp.mov (Opd.t (4 : Nat)), guard := none, deps := [] : AOper }, { dst := some (14 : Nat), op := AOp.idx (2 : Nat) (Opd.t (12 : Nat)) (Opd.t (13 : Nat)), guard := none, deps := [(2 : Nat), (1 : Nat)] : AOper }, { dst := some (15 : Nat), op := AOp.fld (0 : Nat) (1 : Nat) (Opd.t (14 : Nat)), guard := none, deps := [(1 : Nat), (2 : Nat), (3 : Nat)] : AOper }, { dst := some (16 : Nat), op := AOp.load false (1 : Nat) (Opd.t (15 : Nat)), guard := none, deps := [(3 : Nat), (2 : Nat), (1 : Nat), (4 : Nat)] : AOper }, { dst := some (17 : Nat), op := AOp.bin BinOp.add (Opd.t (16 : Nat)) (Opd.c (AV.str [(58 : UInt8)])), guard := none, deps := [(4 : Nat), (1 : Nat), (2 : Nat), (3 : Nat), (5 : Nat)] : AOper }, { dst := some (18 : Nat), op := AOp.mov (Opd.t (0 : Nat)), guard := none, deps := [] : AOper }, { dst := some (19 : Nat), op := AOp.mov (Opd.t (4 : Nat)), guard := none, deps := [] : AOper }, { dst := some (20 : Nat), op := AOp.idx (2 : Nat) (Opd.t (18 : Nat)) (Opd.t (19 : Nat)), guard := none, deps := [(8 : Nat), (7 : Nat)] : AOper }, { dst := some (21 : Nat), op := AOp.fld (1 : Nat) (1 : Nat) (Opd.t (20 : Nat)), guard := none, deps := [(7 : Nat), (8 : Nat), (9 : Nat)] : AOper }, { dst := some (22 : Nat), op := AOp.load false (1 : Nat) (Opd.t (21 : Nat)), guard := none, deps := [(9 : Nat), (8 : Nat), (7 : Nat), (10 : Nat)] : AOper }, { dst := some (23 : Nat), op := AOp.bin BinOp.add (Opd.t (17 : Nat)) (Opd.t (22 : Nat)), guard := none, deps := [(10 : Nat), (7 : Nat), (8 : Nat), (9 : Nat), (11 : Nat), (5 : Nat), (3 : Nat), (2 : Nat), (1 : Nat), (4 : Nat), (6 : Nat)] : AOper }, { dst := some (24 : Nat), op := AOp.bslice (1 : Nat) [Opd.t (23 : Nat)], guard := none, deps := [(6 : Nat), (4 : Nat), (1 : Nat), (2 : Nat), (3 : Nat), (5 : Nat), (11 : Nat), (9 : Nat), (8 : Nat), (7 : Nat), (10 : Nat), (12 : Nat)] : AOper }, { dst := some (25 : Nat), op := AOp.append (1 : Nat) (16 : Nat) (Opd.t (11 : Nat)) (Opd.t (24 : Nat)), guard := none, deps := [(12 : Nat), (10 : Nat), (7 : Nat), (8 : Nat), (9 : Nat), (11 : Nat), (5 : Nat), (3 : Nat), (2 : Nat), (1 : Nat), (4 : Nat), (6 : Nat), (13 : Nat), (0 : Nat)] : AOper }, { dst := some (3 : Nat), op := AOp.mov (Opd.t (25 : Nat)), guard := none, deps := [(0 : Nat), (13 : Nat), (6 : Nat), (4 : Nat), (1 : Nat), (2 : Nat), (3 : Nat), (5 : Nat), (11 : Nat), (9 : Nat), (8 : Nat), (7 : Nat), (10 : Nat), (12 : Nat), (14 : Nat)] : AOper }])) (AV.ref [AV.str x.key]) = some (AV.str x.key) from rfl) <| .bin (show binA .add (AV.str x.key) (AV.str [(58 : UInt8)]) = some (AV.str (x.key ++ [(58 : UInt8)])) from str_add (by simp; omega)) <| .idx (show idxA 2 (AV.sl .sh (List.map encP l)) (AV.int .i64 (↑i : Int)) = some (AV.ref (encP x).cells) from idx_row hd (by rfl)) <| .load (show loadA false 1 (roomH (rowH Heap.nil (List.map AV.str acc)) (resvCells [{ dst := some (11 : Nat), op := AOp.mov (Opd.t (3 : Nat)), guard := none, deps := [] : AOper }, { dst := some (12 : Nat), op := AOp.mov (Opd.t (0 : Nat)), guard := none, deps := [] : AOper }, { dst := some (13 : Nat), op := AOp.mov (Opd.t (4 : Nat)), guard := none, deps := [] : AOper }, { dst := some (14 : Nat), op := AOp.idx (2 : Nat) (Opd.t (12 : Nat)) (Opd.t (13 : Nat)), guard := none, deps := [(2 : Nat), (1 : Nat)] : AOper }, { dst := some (15 : Nat), op := AOp.fld (0 : Nat) (1 : Nat) (Opd.t (14 : Nat)), guard := none, deps := [(1 : Nat), (2 : Nat), (3 : Nat)] : AOper }, { dst := some (16 : Nat), op := AOp.load false (1 : Nat) (Opd.t (15 : Nat)), guard := none, deps := [(3 : Nat), (2 : Nat), (1 : Nat), (4 : Nat)] : AOper }, { dst := some (17 : Nat), op := AOp.bin BinOp.add (Opd.t (16 : Nat)) (Opd.c (AV.str [(58 : UInt8)])), guard := none, deps := [(4 : Nat), (1 : Nat), (2 : Nat), (3 : Nat), (5 : Nat)] : AOper }, { dst := some (18 : Nat), op := AOp.mov (Opd.t (0 : Nat)), guard := none, deps := [] : AOper }, { dst := some (19 : Nat), op := AOp.mov (Opd.t (4 : Nat)), guard := none, deps := [] : AOper }, { dst := some (20 : Nat), op := AOp.idx (2 : Nat) (Opd.t (18 : Nat)) (Opd.t (19 : Nat)), guard := none, deps := [(8 : Nat), (7 : Nat)] : AOper }, { dst := some (21 : Nat), op := AOp.fld (1 : Nat) (1 : Nat) (Opd.t (20 : Nat)), guard := none, deps := [(7 : Nat), (8 : Nat), (9 : Nat)] : AOper }, { dst := some (22 : Nat), op := AOp.load false (1 : Nat) (Opd.t (21 : Nat)), guard := none, deps := [(9 : Nat), (8 : Nat), (7 : Nat), (10 : Nat)] : AOper }, { dst := some (23 : Nat), op := AOp.bin BinOp.add (Opd.t (17 : Nat)) (Opd.t (22 : Nat)), guard := none, deps := [(10 : Nat), (7 : Nat), (8 : Nat), (9 : Nat), (11 : Nat), (5 : Nat), (3 : Nat), (2 : Nat), (1 : Nat), (4 : Nat), (6 : Nat)] : AOper }, { dst := some (24 : Nat), op := AOp.bslice (1 : Nat) [Opd.t (23 : Nat)], guard := none, deps := [(6 : Nat), (4 : Nat), (1 : Nat), (2 : Nat), (3 : Nat), (5 : Nat), (11 : Nat), (9 : Nat), (8 : Nat), (7 : Nat), (10 : Nat), (12 : Nat)] : AOper }, { dst := some (25 : Nat), op := AOp.append (1 : Nat) (16 : Nat) (Opd.t (11 : Nat)) (Opd.t (24 : Nat)), guard := none, deps := [(12 : Nat), (10 : Nat), (7 : Nat), (8 : Nat), (9 : Nat), (11 : Nat), (5 : Nat), (3 : Nat), (2 : Nat), (1 : Nat), (4 : Nat), (6 : Nat), (13 : Nat), (0 : Nat)] : AOper }, { dst := some (3 : Nat), op := AOp.mov (Opd.t (25 : Nat)), guard := none, deps := [(0 : Nat), (13 : Nat), (6 : Nat), (4 : Nat), (1 : Nat), (2 : Nat), (3 : Nat), (5 : Nat), (11 : Nat), (9 : Nat), (8 : Nat), (7 : Nat), (10 : Nat), (12 : Nat), (14 : Nat)] : AOper }])) (AV.ref [AV.str x.val]) = some (AV.str x.val) from rfl) <| .bin (show binA .add (AV.str (x.key ++ [(58 : UInt8)])) (AV.str x.val) = some (AV.str (x.key ++ [(58 : UInt8)] ++ x.val)) from str_add (by simp; omega)) <| .append (show appendA (1 : Nat) (16 : Nat) (roomH (rowH Heap.nil (List.map AV.str acc)) (resvCells [{ dst := some (11 : Nat), op := AOp.mov (Opd.t (3 : Nat)), guard := none, deps := [] : AOper }, { dst := some (12 : Nat), op := AOp.mov (Opd.t (0 : Nat)), guard := none, deps := [] : AOper }, { dst := some (13 : Nat), op := AOp.mov (Opd.t (4 : Nat)), guard := none, deps := [] : AOper }, { dst := some (14 : Nat), op := AOp.idx (2 : Nat) (Opd.t (12 : Nat)) (Opd.t (13 : Nat)), guard := none, deps := [(2 : Nat), (1 : Nat)] : AOper }, { dst := some (15 : Nat), op := AOp.fld (0 : Nat) (1 : Nat) (Opd.t (14 : Nat)), guard := none, deps := [(1 : Nat), (2 : Nat), (3 : Nat)] : AOper }, { dst := some (16 : Nat), op := AOp.load false (1 : Nat) (Opd.t (15 : Nat)), guard := none, deps := [(3 : Nat), (2 : Nat), (1 : Nat), (4 : Nat)] : AOper }, { dst := some (17 : Nat), op := AOp.bin BinOp.add (Opd.t (16 : Nat)) (Opd.c (AV.str [(58 : UInt8)])), guard := none, deps := [(4 : Nat), (1 : Nat), (2 : Nat), (3 : Nat), (5 : Nat)] : AOper }, { dst := some (18 : Nat), op := AOp.mov (Opd.t (0 : Nat)), guard := none, deps := [] : AOper }, { dst := some (19 : Nat), op := AOp.mov (Opd.t (4 : Nat)), guard := none, deps := [] : AOper }, { dst := some (20 : Nat), op := AOp.idx (2 : Nat) (Opd.t (18 : Nat)) (Opd.t (19 : Nat)), guard := none, deps := [(8 : Nat), (7 : Nat)] : AOper }, { dst := some (21 : Nat), op := AOp.fld (1 : Nat) (1 : Nat) (Opd.t (20 : Nat)), guard := none, deps := [(7 : Nat), (8 : Nat), (9 : Nat)] : AOper }, { dst := some (22 : Nat), op := AOp.load false (1 : Nat) (Opd.t (21 : Nat)), guard := none, deps := [(9 : Nat), (8 : Nat), (7 : Nat), (10 : Nat)] : AOper }, { dst := some (23 : Nat), op := AOp.bin BinOp.add (Opd.t (17 : Nat)) (Opd.t (22 : Nat)), guard := none, deps := [(10 : Nat), (7 : Nat), (8 : Nat), (9 : Nat), (11 : Nat), (5 : Nat), (3 : Nat), (2 : Nat), (1 : Nat), (4 : Nat), (6 : Nat)] : AOper }, { dst := some (24 : Nat), op := AOp.bslice (1 : Nat) [Opd.t (23 : Nat)], guard := none, deps := [(6 : Nat), (4 : Nat), (1 : Nat), (2 : Nat), (3 : Nat), (5 : Nat), (11 : Nat), (9 : Nat), (8 : Nat), (7 : Nat), (10 : Nat), (12 : Nat)] : AOper }, { dst := some (25 : Nat), op := AOp.append (1 : Nat) (16 : Nat) (Opd.t (11 : Nat)) (Opd.t (24 : Nat)), guard := none, deps := [(12 : Nat), (10 : Nat), (7 : Nat), (8 : Nat), (9 : Nat), (11 : Nat), (5 : Nat), (3 : Nat), (2 : Nat), (1 : Nat), (4 : Nat), (6 : Nat), (13 : Nat), (0 : Nat)] : AOper }, { dst := some (3 : Nat), op := AOp.mov (Opd.t (25 : Nat)), guard := none, deps := [(0 : Nat), (13 : Nat), (6 : Nat), (4 : Nat), (1 : Nat), (2 : Nat), (3 : Nat), (5 : Nat), (11 : Nat), (9 : Nat), (8 : Nat), (7 : Nat), (10 : Nat), (12 : Nat), (14 : Nat)] : AOper }])) (rowS Heap.nil (List.map AV.str acc)) (AV.sl .full [AV.str (x.key ++ [(58 : UInt8)] ++ x.val)]) = some ((rowS Heap.nil (List.map AV.str (acc ++ [x.key ++ [(58 : UInt8)] ++ x.val])), rowH Heap.nil (List.map AV.str (acc ++ [x.key ++ [(58 : UInt8)] ++ x.val])))) from row_append_map (by simp; omega) (by exact lenSt) (by rfl) (by rfl)) <| .bin (show binA .add (AV.int .i64 (↑i : Int)) (AV.int .i64 1) = some (AV.int .i64 (↑(i + (1 : Nat)) : Int)) from inc_i (by omega)) <| .cutQ k106_0 [(0, AV.sl .sh (List.map encP l)), (3, rowS Heap.nil (List.map AV.str (acc ++ [x.key ++ [(58 : UInt8)] ++ x.val]))), (4, AV.int .i64 (↑(i + (1 : Nat)) : Int))] (rowH Heap.nil (List.map AV.str (acc ++ [x.key ++ [(58 : UInt8)] ++ x.val]))) (fun T hT => (ih (i + (1 : Nat)) (acc ++ [x.key ++ [(58 : UInt8)] ++ x.val]) hnx (by simp; omega) hall2 T hT))) (by kernel_rfl)
theorem pText_ref (l : List Pair) (hf : fewP l = true) : Gives cfg 106 [.sl .sh (l.map encP)] (.str (textOf pText l)) := by
  have hn := fewP_len hf
  have hf2 : ∀ x ∈ l, x.key.length ≤ 50 ∧ x.val.length ≤ 50 := by
    simp only [fewP, few, Bool.and_eq_true, List.all_eq_true, decide_eq_true_eq] at hf
    exact hf.2
  have hj : (Lib.join (l.map pText) [44]).length ≤ 3000 := join_len _ (by
    intro s hs
    obtain ⟨x, hx, rfl⟩ := List.mem_map.1 hs
    exact pText_len x (hf2 x hx).1 (hf2 x hx).2) (by simpa using hn)
  refine Gives.run (l106 _ _) ?_
  have h := pText_ref_loop l hn hf2 hj l 0 [] rfl rfl rfl
  exact goG 60 []  trivial  (.cutQ k106_0 [(0, AV.sl .sh (List.map encP l)), (3, AV.sl .full []), (4, AV.int .i64 0)] ({ boxes := [], toks := [], loops := [] : Heap }) (fun T hT => (h T hT))) (by kernel_rfl)
end Go.Aa.T

set_option linter.unusedVariables false
set_option linter.unusedSimpArgs false
set_option maxRecDepth 100000
namespace Go.Aa.T
open Go.Aa Go.Proofs
theorem map_of2 {α : Type} {f : α → AV} {Q : AV → Prop} {S : α → Prop} (h : ∀ y, Q y → ∃ x, y = f x ∧ S x) : ∀ (l : List AV), (∀ y ∈ l, Q y) → ∃ t : List α, l = t.map f ∧ ∀ x ∈ t, S x
  | [], _ => ⟨[], rfl, by simp⟩
  | y :: l, hl => by
    obtain ⟨x, rfl, hx⟩ := h y (hl y (by simp))
    obtain ⟨t, rfl, ht⟩ := map_of2 h l (fun z hz => hl z (by simp [hz]))
    exact ⟨x :: t, rfl, by simpa using ⟨hx, ht⟩⟩
theorem i64_range {m : Int} (h : (Lit.int .i64 m).wf = true) : -9223372036854775808 ≤ m ∧ m ≤ 9223372036854775807 := by
  have h' : IntKind.i64.min ≤ m ∧ m ≤ IntKind.i64.max := by simpa [Lit.wf, IntKind.has] using h
  have e1 : IntKind.i64.min = -9223372036854775808 := rfl
  have e2 : IntKind.i64.max = 9223372036854775807 := rfl
  omega
theorem tys2 {R : TypeId → List AV → Prop} {f1 f2 : Field} {cs : List AV} (h : Tys R (#[f1, f2] : Array Field).toList cs) : ∃ a1 a2, cs = a1 ++ (a2) ∧ R f1.type a1 ∧ R f2.type a2 := by
  obtain ⟨a1, b1, rfl, h1, a2, b2, rfl, h2, e⟩ := (show Tys R [f1, f2] cs from h)
  cases e
  exact ⟨a1, a2, by simp, h1, h2⟩
theorem tys3 {R : TypeId → List AV → Prop} {f1 f2 f3 : Field} {cs : List AV} (h : Tys R (#[f1, f2, f3] : Array Field).toList cs) : ∃ a1 a2 a3, cs = a1 ++ (a2 ++ (a3)) ∧ R f1.type a1 ∧ R f2.type a2 ∧ R f3.type a3 := by
  obtain ⟨a1, b1, rfl, h1, a2, b2, rfl, h2, a3, b3, rfl, h3, e⟩ := (show Tys R [f1, f2, f3] cs from h)
  cases e
  exact ⟨a1, a2, a3, by simp, h1, h2, h3⟩
theorem tys5 {R : TypeId → List AV → Prop} {f1 f2 f3 f4 f5 : Field} {cs : List AV} (h : Tys R (#[f1, f2, f3, f4, f5] : Array Field).toList cs) : ∃ a1 a2 a3 a4 a5, cs = a1 ++ (a2 ++ (a3 ++ (a4 ++ (a5)))) ∧ R f1.type a1 ∧ R f2.type a2 ∧ R f3.type a3 ∧ R f4.type a4 ∧ R f5.type a5 := by
  obtain ⟨a1, b1, rfl, h1, a2, b2, rfl, h2, a3, b3, rfl, h3, a4, b4, rfl, h4, a5, b5, rfl, h5, e⟩ := (show Tys R [f1, f2, f3, f4, f5] cs from h)
  cases e
  exact ⟨a1, a2, a3, a4, a5, by simp, h1, h2, h3, h4, h5⟩
theorem ty100 {k : Nat} {y : AV} (h : TyV Tryz.prog (k + 2) 100 y) : ∃ x : Amount, y = encA x ∧ (-9223372036854775808 ≤ x.n ∧ x.n ≤ 9223372036854775807) := by
  obtain ⟨cs, rfl, hh⟩ := tyv_struct Tryz.underlying100 h
  obtain ⟨a1, a2, rfl, h1, h2⟩ := tys2 hh
  obtain ⟨s1, rfl, -⟩ := ty_string Tryz.underlying9 h1
  obtain ⟨s2, rfl, w2⟩ := ty_int Tryz.underlying2 h2
  have r2 := i64_range w2
  exact ⟨⟨s1, s2⟩, rfl, r2⟩
theorem ty28s {k : Nat} {y : List AV} (h : Ty Tryz.prog (k + 3) 28 y) : ∃ t : List Amount, y = [.sl .sh (t.map encA)] ∧ ∀ x ∈ t, -9223372036854775808 ≤ x.n ∧ x.n ≤ 9223372036854775807 := by
  obtain ⟨l, rfl, -, hl⟩ := ty_slice Tryz.underlying28 h
  obtain ⟨t, rfl, hs⟩ := map_of2 (S := fun x : Amount => -9223372036854775808 ≤ x.n ∧ x.n ≤ 9223372036854775807) (fun y hy => ty100 hy) l hl
  exact ⟨t, rfl, hs⟩
theorem ty64 {k : Nat} {y : AV} (h : TyV Tryz.prog (k + 2) 64 y) : ∃ x : Pair, y = encP x ∧ (True) := by
  obtain ⟨cs, rfl, hh⟩ := tyv_struct Tryz.underlying64 h
  obtain ⟨a1, a2, rfl, h1, h2⟩ := tys2 hh
  obtain ⟨s1, rfl, -⟩ := ty_string Tryz.underlying9 h1
  obtain ⟨s2, rfl, -⟩ := ty_string Tryz.underlying9 h2
  exact ⟨⟨s1, s2⟩, rfl, trivial⟩
theorem ty30s {k : Nat} {y : List AV} (h : Ty Tryz.prog (k + 3) 30 y) : ∃ t : List Pair, y = [.sl .sh (t.map encP)] ∧ ∀ x ∈ t, True := by
  obtain ⟨l, rfl, -, hl⟩ := ty_slice Tryz.underlying30 h
  obtain ⟨t, rfl, hs⟩ := map_of2 (S := fun x : Pair => True) (fun y hy => ty64 hy) l hl
  exact ⟨t, rfl, hs⟩
theorem ty150 {k : Nat} {y : AV} (h : TyV Tryz.prog (k + 2) 150 y) : ∃ x : Taint, y = encT x ∧ (True) := by
  obtain ⟨cs, rfl, hh⟩ := tyv_struct Tryz.underlying150 h
  obtain ⟨a1, a2, a3, rfl, h1, h2, h3⟩ := tys3 hh
  obtain ⟨s1, rfl, -⟩ := ty_string Tryz.underlying9 h1
  obtain ⟨s2, rfl, -⟩ := ty_string Tryz.underlying9 h2
  obtain ⟨s3, rfl⟩ := ty_bool Tryz.underlying4 h3
  exact ⟨⟨s1, s2, s3⟩, rfl, trivial⟩
theorem ty68s {k : Nat} {y : List AV} (h : Ty Tryz.prog (k + 3) 68 y) : ∃ t : List Taint, y = [.sl .sh (t.map encT)] ∧ ∀ x ∈ t, True := by
  obtain ⟨l, rfl, -, hl⟩ := ty_slice Tryz.underlying68 h
  obtain ⟨t, rfl, hs⟩ := map_of2 (S := fun x : Taint => True) (fun y hy => ty150 hy) l hl
  exact ⟨t, rfl, hs⟩
theorem ty70 {k : Nat} {y : AV} (h : TyV Tryz.prog (k + 4) 70 y) : ∃ x : Node, y = encN x ∧ (smallI x.cap) := by
  obtain ⟨cs, rfl, hh⟩ := tyv_struct Tryz.underlying70 h
  obtain ⟨a1, a2, a3, a4, a5, rfl, h1, h2, h3, h4, h5⟩ := tys5 hh
  obtain ⟨s1, rfl, -⟩ := ty_string Tryz.underlying9 h1
  obtain ⟨s2, rfl, w2⟩ := ty28s h2
  obtain ⟨s3, rfl, w3⟩ := ty30s h3
  obtain ⟨s4, rfl, w4⟩ := ty68s h4
  obtain ⟨s5, rfl⟩ := ty_bool Tryz.underlying4 h5
  exact ⟨⟨s1, s2, s3, s4, s5⟩, rfl, w2⟩
end Go.Aa.T

set_option linter.unusedVariables false
set_option linter.unusedSimpArgs false
set_option maxRecDepth 100000
namespace Go.Aa.T
open Go.Aa Go.Proofs
theorem textOf_lenG {X : Type} {f : X → List UInt8} {l : List X} {m : Nat} (hn : l.length ≤ 8) (h : ∀ x ∈ l, (f x).length ≤ m) : (textOf f l).length ≤ 8 * (m + 1) + 1 := by
  unfold textOf
  split
  · simp
  · have h1 := join_lenC 44 (l.map f) m (fun s hs => by obtain ⟨x, hx, rfl⟩ := List.mem_map.1 hs; exact h x hx)
    rw [List.length_map] at h1
    have := Nat.mul_le_mul_right (m + 1) hn
    omega
theorem ckT_len8 {l : List Taint} (h : ckT l = 0) : l.length ≤ 8 := by
  unfold ckT at h
  split at h
  · assumption
  · cases h
theorem ckS_len8 {l : List Pair} (h : ckS l = 0) : l.length ≤ 8 := by
  unfold ckS at h
  split at h
  · assumption
  · cases h
theorem okN_lens {n : Node} (h : ckN n = 0) (hs : smallI n.cap) : n.name.length ≤ 12 ∧ (textOf aText n.cap).length ≤ 281 ∧ (textOf pText n.labels).length ≤ 209 ∧ (textOf tText n.taints).length ≤ 217 := by
  have ok := nodeOk h
  refine ⟨name_len ok.name, ?_, ?_, ?_⟩
  · refine textOf_lenG (m := 34) (ckV_len ok.cap) fun x hx => ?_
    have hg := ckV_good ok.cap x hx
    simp only [goodA, Bool.and_eq_true] at hg
    have h1 := name_len hg.1
    have h2 := itoaF_len (hs x hx).1 (hs x hx).2
    simp only [aText, List.length_append, List.length_cons, List.length_nil]
    omega
  · refine textOf_lenG (m := 25) (ckS_len8 ok.labels) fun x hx => ?_
    have hg := ckS_good ok.labels x hx
    simp only [goodP, Bool.and_eq_true] at hg
    have h1 := name_len hg.1
    have h2 := name_len hg.2
    simp only [pText, List.length_append, List.length_cons, List.length_nil]
    omega
  · refine textOf_lenG (m := 26) (ckT_len8 ok.taints) fun x hx => ?_
    have hg := ckT_good ok.taints x hx
    simp only [goodT, Bool.and_eq_true] at hg
    have h1 := name_len hg.1
    have h2 := name_len hg.2
    unfold tText
    split <;> simp only [List.length_append, List.length_cons, List.length_nil] <;> omega
theorem textN_app (n : Node) : textN n = n.name ++ [32] ++ textOf aText n.cap ++ [32] ++ textOf pText n.labels ++ [32] ++ textOf tText n.taints ++ (32 :: endN n.cordon) := by
  simp [textN, wordsN, Lib.join_cons, tail_consC, Lib.joinTail]
theorem textN_ref (n : Node) (h : ckN n = 0) (hs : smallI n.cap) : Gives cfg 39 [encN n] (.str (textN n)) := by
  have ok := nodeOk h
  obtain ⟨z1, z2, z3, z4⟩ := okN_lens h hs
  have tA := aText_ref n.cap (ckV_few ok.cap) (fun x hx => by
    have hg := ckV_good ok.cap x hx
    simp only [goodA, Bool.and_eq_true, decide_eq_true_eq] at hg
    have := hs x hx
    omega)
  have tP := pText_ref n.labels (ckS_few ok.labels)
  have tT := tText_ref n.taints (ckT_few ok.taints)
  have e := textN_app n
  generalize textN n = tot at *
  generalize textOf aText n.cap = sA at *
  generalize textOf pText n.labels = sP at *
  generalize textOf tText n.taints = sT at *
  refine Gives.run (l39 _ _) ?_
  have a1 : binA .add (.str n.name) (.str [32]) = some (.str (n.name ++ [32])) := str_add (by simp; omega)
  have a2 : binA .add (.str (n.name ++ [32])) (.str sA) = some (.str (n.name ++ [32] ++ sA)) := str_add (by simp; omega)
  have a3 : binA .add (.str (n.name ++ [32] ++ sA)) (.str [32]) = some (.str (n.name ++ [32] ++ sA ++ [32])) := str_add (by simp; omega)
  have a4 : binA .add (.str (n.name ++ [32] ++ sA ++ [32])) (.str sP) = some (.str (n.name ++ [32] ++ sA ++ [32] ++ sP)) := str_add (by simp; omega)
  have a5 : binA .add (.str (n.name ++ [32] ++ sA ++ [32] ++ sP)) (.str [32]) = some (.str (n.name ++ [32] ++ sA ++ [32] ++ sP ++ [32])) := str_add (by simp; omega)
  have a6 : binA .add (.str (n.name ++ [32] ++ sA ++ [32] ++ sP ++ [32])) (.str sT) = some (.str (n.name ++ [32] ++ sA ++ [32] ++ sP ++ [32] ++ sT)) := str_add (by simp; omega)
  by_cases hc : n.cordon = true
  · rw [hc] at e
    have a7 : binA .add (.str (n.name ++ [32] ++ sA ++ [32] ++ sP ++ [32] ++ sT)) (.str [32, 99, 111, 114, 100, 111, 110]) = some (.str tot) := by
      rw [e]; exact str_add (b := [32, 99, 111, 114, 100, 111, 110]) (by simp; omega)
    generalize n.name ++ [32] ++ sA ++ [32] ++ sP ++ [32] ++ sT = b6 at *
    generalize n.name ++ [32] ++ sA ++ [32] ++ sP ++ [32] = b5 at *
    generalize n.name ++ [32] ++ sA ++ [32] ++ sP = b4 at *
    generalize n.name ++ [32] ++ sA ++ [32] = b3 at *
    generalize n.name ++ [32] ++ sA = b2 at *
    generalize n.name ++ [32] = b1 at *
    exact goG 120 []  trivial  (.bin (show binA .add (AV.str n.name) (AV.str [(32 : UInt8)]) = some (AV.str b1) from a1) <| .callG ([AV.sl .sh (List.map encA n.cap)]) (AV.str sA) (show Gives cfg (105 : FuncId) [AV.sl .sh (List.map encA n.cap)] (AV.str sA) from tA) ⟨rfl, rfl⟩ ⟨rfl, rfl⟩ <| .bin (show binA .add (AV.str b1) (AV.str sA) = some (AV.str b2) from a2) <| .bin (show binA .add (AV.str b2) (AV.str [(32 : UInt8)]) = some (AV.str b3) from a3) <| .callG ([AV.sl .sh (List.map encP n.labels)]) (AV.str sP) (show Gives cfg (106 : FuncId) [AV.sl .sh (List.map encP n.labels)] (AV.str sP) from tP) ⟨rfl, rfl⟩ ⟨rfl, rfl⟩ <| .bin (show binA .add (AV.str b3) (AV.str sP) = some (AV.str b4) from a4) <| .bin (show binA .add (AV.str b4) (AV.str [(32 : UInt8)]) = some (AV.str b5) from a5) <| .callG ([AV.sl .sh (List.map encT n.taints)]) (AV.str sT) (show Gives cfg (107 : FuncId) [AV.sl .sh (List.map encT n.taints)] (AV.str sT) from tT) ⟨rfl, rfl⟩ ⟨rfl, rfl⟩ <| .bin (show binA .add (AV.str b5) (AV.str sT) = some (AV.str b6) from a6) <| .yes (show (n.cordon) = true from (by exact hc)) <| .bin (show binA .add (AV.str b6) (AV.str [(32 : UInt8), (99 : UInt8), (111 : UInt8), (114 : UInt8), (100 : UInt8), (111 : UInt8), (110 : UInt8)]) = some (AV.str tot) from a7) <| .fin ((ARes.ret (AV.str tot), { boxes := [[AV.str n.name, AV.sl .sh (List.map encA n.cap), AV.sl .sh (List.map encP n.labels), AV.sl .sh (List.map encT n.taints), AV.bool n.cordon]], toks := [], loops := [] : Heap })) rfl) (by kernel_rfl)
  · have hc' : n.cordon = false := Bool.eq_false_iff.2 hc
    rw [hc'] at e
    have a7 : binA .add (.str (n.name ++ [32] ++ sA ++ [32] ++ sP ++ [32] ++ sT)) (.str [32, 117, 112]) = some (.str tot) := by
      rw [e]; exact str_add (b := [32, 117, 112]) (by simp; omega)
    generalize n.name ++ [32] ++ sA ++ [32] ++ sP ++ [32] ++ sT = b6 at *
    generalize n.name ++ [32] ++ sA ++ [32] ++ sP ++ [32] = b5 at *
    generalize n.name ++ [32] ++ sA ++ [32] ++ sP = b4 at *
    generalize n.name ++ [32] ++ sA ++ [32] = b3 at *
    generalize n.name ++ [32] ++ sA = b2 at *
    generalize n.name ++ [32] = b1 at *
    exact goG 120 []  trivial  (.bin (show binA .add (AV.str n.name) (AV.str [(32 : UInt8)]) = some (AV.str b1) from a1) <| .callG ([AV.sl .sh (List.map encA n.cap)]) (AV.str sA) (show Gives cfg (105 : FuncId) [AV.sl .sh (List.map encA n.cap)] (AV.str sA) from tA) ⟨rfl, rfl⟩ ⟨rfl, rfl⟩ <| .bin (show binA .add (AV.str b1) (AV.str sA) = some (AV.str b2) from a2) <| .bin (show binA .add (AV.str b2) (AV.str [(32 : UInt8)]) = some (AV.str b3) from a3) <| .callG ([AV.sl .sh (List.map encP n.labels)]) (AV.str sP) (show Gives cfg (106 : FuncId) [AV.sl .sh (List.map encP n.labels)] (AV.str sP) from tP) ⟨rfl, rfl⟩ ⟨rfl, rfl⟩ <| .bin (show binA .add (AV.str b3) (AV.str sP) = some (AV.str b4) from a4) <| .bin (show binA .add (AV.str b4) (AV.str [(32 : UInt8)]) = some (AV.str b5) from a5) <| .callG ([AV.sl .sh (List.map encT n.taints)]) (AV.str sT) (show Gives cfg (107 : FuncId) [AV.sl .sh (List.map encT n.taints)] (AV.str sT) from tT) ⟨rfl, rfl⟩ ⟨rfl, rfl⟩ <| .bin (show binA .add (AV.str b5) (AV.str sT) = some (AV.str b6) from a6) <| .no (show (n.cordon) = false from Bool.eq_false_iff.2 (show ¬ (n.cordon = true) from (by exact hc))) <| .bin (show binA .add (AV.str b6) (AV.str [(32 : UInt8), (117 : UInt8), (112 : UInt8)]) = some (AV.str tot) from a7) <| .fin ((ARes.ret (AV.str tot), { boxes := [[AV.str n.name, AV.sl .sh (List.map encA n.cap), AV.sl .sh (List.map encP n.labels), AV.sl .sh (List.map encT n.taints), AV.bool n.cordon]], toks := [], loops := [] : Heap })) rfl) (by kernel_rfl)
theorem nodeAny (a b : Node) (sa : smallI a.cap) (sb : smallI b.cap) : Gives cfg 6 [encN a, encN b] (.bool true) := by
  refine Gives.run (l6 _ _) ?_
  have fa := fewN_any a
  have fb := fewN_any b
  by_cases ha : fewN a = true
  · by_cases hb : fewN b = true
    · rw [ha] at fa
      rw [hb] at fb
      have ha2 := ha
      have hb2 := hb
      simp only [fewN, Bool.and_eq_true, decide_eq_true_eq] at ha2 hb2
      obtain ⟨a1, a2, a3, a4⟩ := ha2
      obtain ⟨b1, b2, b3, b4⟩ := hb2
      have oa := ofN1 a (fewA_len a2) (fewP_len a3) (fewT_len a4)
      have ob := ofN1 b (fewA_len b2) (fewP_len b3) (fewT_len b4)
      have c1 := ckN_any a
      have c2 := ckN_ref a
      have s1 := sameN_any a b (by have := fewA_len a2; omega) (by have := fewP_len a3; omega) (by have := fewT_len a4; omega)
      have s2 := sameN_ref a b (by have := fewA_len a2; omega) (by have := fewP_len a3; omega) (by have := fewT_len a4; omega)
      by_cases h0 : ckN a = 0
      · rw [h0] at c1 c2
        have ok := nodeOk h0
        have t1 := textN_any a (by omega) a2 sa a3 a4
        have t2 := textN_ref a h0 sa
        have hl : (textN a).length ≤ 1000 := by
          obtain ⟨z1, z2, z3, z4⟩ := okN_lens h0 sa
          rw [textN_app]
          have : (endN a.cordon).length ≤ 6 := by cases a.cordon <;> decide
          simp only [List.length_append, List.length_cons, List.length_nil]
          omega
        have p1 := node_parse (textN a) hl
        rw [readN_back h0 (fun x hx => (sa x hx).2)] at p1
        have p1' : Gives cfg 37 [.str (textN a)] (.tuple [encN a, .int .i64 0]) := p1
        have s3 := sameN_any a a (by have := fewA_len a2; omega) (by have := fewP_len a3; omega) (by have := fewT_len a4; omega)
        rw [(sameNB_iff _ _).2 rfl] at s3
        generalize textN a = tx at *
        generalize sameNB a b = sm at *
        exact goG 200 []  trivial  (.callG ([]) (AV.bool true) (show Gives cfg (30 : FuncId) [] (AV.bool true) from known30') ⟨rfl, rfl⟩ ⟨rfl, rfl⟩ <| .ff <| .callG ([AV.agg [AV.str a.name, AV.sl .sh (List.map encA a.cap), AV.sl .sh (List.map encP a.labels), AV.sl .sh (List.map encT a.taints), AV.bool a.cordon]]) (AV.bool true) (show Gives cfg (31 : FuncId) [encN a] (AV.bool true) from fa) ⟨rfl, rfl⟩ ⟨rfl, rfl⟩ <| .ff <| .callG ([AV.agg [AV.str b.name, AV.sl .sh (List.map encA b.cap), AV.sl .sh (List.map encP b.labels), AV.sl .sh (List.map encT b.taints), AV.bool b.cordon]]) (AV.bool true) (show Gives cfg (31 : FuncId) [encN b] (AV.bool true) from fb) ⟨rfl, rfl⟩ ⟨rfl, rfl⟩ <| .ff <| .callG ([AV.agg [AV.str a.name, AV.sl .sh (List.map encA a.cap), AV.sl .sh (List.map encP a.labels), AV.sl .sh (List.map encT a.taints), AV.bool a.cordon]]) (AV.agg [AV.str a.name, AV.sl .sh (List.map encA a.cap), AV.sl .sh (List.map encP a.labels), AV.sl .sh (List.map encT a.taints), AV.bool a.cordon]) (show Gives cfg (32 : FuncId) [encN a] (encN a) from oa) ⟨rfl, rfl⟩ ⟨rfl, rfl⟩ <| .callG ([AV.agg [AV.str b.name, AV.sl .sh (List.map encA b.cap), AV.sl .sh (List.map encP b.labels), AV.sl .sh (List.map encT b.taints), AV.bool b.cordon]]) (AV.agg [AV.str b.name, AV.sl .sh (List.map encA b.cap), AV.sl .sh (List.map encP b.labels), AV.sl .sh (List.map encT b.taints), AV.bool b.cordon]) (show Gives cfg (32 : FuncId) [encN b] (encN b) from ob) ⟨rfl, rfl⟩ ⟨rfl, rfl⟩ <| .callG ([AV.agg [AV.str a.name, AV.sl .sh (List.map encA a.cap), AV.sl .sh (List.map encP a.labels), AV.sl .sh (List.map encT a.taints), AV.bool a.cordon]]) (AV.int .i64 0) (show Gives cfg (33 : FuncId) [encN a] (AV.int .i64 0) from c2) ⟨rfl, rfl⟩ ⟨rfl, rfl⟩ <| .callG ([AV.agg [AV.str a.name, AV.sl .sh (List.map encA a.cap), AV.sl .sh (List.map encP a.labels), AV.sl .sh (List.map encT a.taints), AV.bool a.cordon]]) (AV.int .i64 0) (show Gives cfg (34 : FuncId) [encN a] (AV.int .i64 0) from c1) ⟨rfl, rfl⟩ ⟨rfl, rfl⟩ <| .ff <| .callG ([AV.agg [AV.str a.name, AV.sl .sh (List.map encA a.cap), AV.sl .sh (List.map encP a.labels), AV.sl .sh (List.map encT a.taints), AV.bool a.cordon], AV.agg [AV.str b.name, AV.sl .sh (List.map encA b.cap), AV.sl .sh (List.map encP b.labels), AV.sl .sh (List.map encT b.taints), AV.bool b.cordon]]) (AV.bool sm) (show Gives cfg (35 : FuncId) [encN a, encN b] (AV.bool sm) from s1) ⟨rfl, rfl⟩ ⟨rfl, rfl⟩ <| .callG ([AV.agg [AV.str a.name, AV.sl .sh (List.map encA a.cap), AV.sl .sh (List.map encP a.labels), AV.sl .sh (List.map encT a.taints), AV.bool a.cordon], AV.agg [AV.str b.name, AV.sl .sh (List.map encA b.cap), AV.sl .sh (List.map encP b.labels), AV.sl .sh (List.map encT b.taints), AV.bool b.cordon]]) (AV.bool sm) (show Gives cfg (36 : FuncId) [encN a, encN b] (AV.bool sm) from s2) ⟨rfl, rfl⟩ ⟨rfl, rfl⟩ <| .no (show (if true = true then !sm == sm else sm == sm) = false from Bool.eq_false_iff.2 (show ¬ ((if true = true then !sm == sm else sm == sm) = true) from (by simp))) <| .ff <| .callG ([AV.agg [AV.str a.name, AV.sl .sh (List.map encA a.cap), AV.sl .sh (List.map encP a.labels), AV.sl .sh (List.map encT a.taints), AV.bool a.cordon]]) (AV.str tx) (show Gives cfg (38 : FuncId) [encN a] (AV.str tx) from t1) ⟨rfl, rfl⟩ ⟨rfl, rfl⟩ <| .callG ([AV.str tx]) (AV.tuple [AV.agg [AV.str a.name, AV.sl .sh (List.map encA a.cap), AV.sl .sh (List.map encP a.labels), AV.sl .sh (List.map encT a.taints), AV.bool a.cordon], AV.int .i64 0]) (show Gives cfg (37 : FuncId) [AV.str tx] (AV.tuple [encN a, AV.int .i64 0]) from p1') ⟨rfl, rfl⟩ ⟨rfl, rfl⟩ <| .callG ([AV.agg [AV.str a.name, AV.sl .sh (List.map encA a.cap), AV.sl .sh (List.map encP a.labels), AV.sl .sh (List.map encT a.taints), AV.bool a.cordon]]) (AV.str tx) (show Gives cfg (38 : FuncId) [encN a] (AV.str tx) from t1) ⟨rfl, rfl⟩ ⟨rfl, rfl⟩ <| .callG ([AV.agg [AV.str a.name, AV.sl .sh (List.map encA a.cap), AV.sl .sh (List.map encP a.labels), AV.sl .sh (List.map encT a.taints), AV.bool a.cordon]]) (AV.str tx) (show Gives cfg (39 : FuncId) [encN a] (AV.str tx) from t2) ⟨rfl, rfl⟩ ⟨rfl, rfl⟩ <| .yes (show (tx == tx) = true from (by simp)) <| .tt <| .callG ([AV.agg [AV.str a.name, AV.sl .sh (List.map encA a.cap), AV.sl .sh (List.map encP a.labels), AV.sl .sh (List.map encT a.taints), AV.bool a.cordon], AV.agg [AV.str a.name, AV.sl .sh (List.map encA a.cap), AV.sl .sh (List.map encP a.labels), AV.sl .sh (List.map encT a.taints), AV.bool a.cordon]]) (AV.bool true) (show Gives cfg (35 : FuncId) [encN a, encN a] (AV.bool true) from s3) ⟨rfl, rfl⟩ ⟨rfl, rfl⟩ <| .fin ((ARes.ret (AV.bool true), { boxes := [[AV.str a.name, AV.sl .sh (List.map encA a.cap), AV.sl .sh (List.map encP a.labels), AV.sl .sh (List.map encT a.taints), AV.bool a.cordon], [AV.str b.name, AV.sl .sh (List.map encA b.cap), AV.sl .sh (List.map encP b.labels), AV.sl .sh (List.map encT b.taints), AV.bool b.cordon], [AV.str a.name, AV.sl .sh (List.map encA a.cap), AV.sl .sh (List.map encP a.labels), AV.sl .sh (List.map encT a.taints), AV.bool a.cordon], [AV.str b.name, AV.sl .sh (List.map encA b.cap), AV.sl .sh (List.map encP b.labels), AV.sl .sh (List.map encT b.taints), AV.bool b.cordon], [AV.str a.name, AV.sl .sh (List.map encA a.cap), AV.sl .sh (List.map encP a.labels), AV.sl .sh (List.map encT a.taints), AV.bool a.cordon]], toks := [], loops := [] : Heap })) rfl) (by kernel_rfl)
      · generalize ckN a = e at *
        generalize sameNB a b = sm at *
        exact goG 200 []  trivial  (.callG ([]) (AV.bool true) (show Gives cfg (30 : FuncId) [] (AV.bool true) from known30') ⟨rfl, rfl⟩ ⟨rfl, rfl⟩ <| .ff <| .callG ([AV.agg [AV.str a.name, AV.sl .sh (List.map encA a.cap), AV.sl .sh (List.map encP a.labels), AV.sl .sh (List.map encT a.taints), AV.bool a.cordon]]) (AV.bool true) (show Gives cfg (31 : FuncId) [encN a] (AV.bool true) from fa) ⟨rfl, rfl⟩ ⟨rfl, rfl⟩ <| .ff <| .callG ([AV.agg [AV.str b.name, AV.sl .sh (List.map encA b.cap), AV.sl .sh (List.map encP b.labels), AV.sl .sh (List.map encT b.taints), AV.bool b.cordon]]) (AV.bool true) (show Gives cfg (31 : FuncId) [encN b] (AV.bool true) from fb) ⟨rfl, rfl⟩ ⟨rfl, rfl⟩ <| .ff <| .callG ([AV.agg [AV.str a.name, AV.sl .sh (List.map encA a.cap), AV.sl .sh (List.map encP a.labels), AV.sl .sh (List.map encT a.taints), AV.bool a.cordon]]) (AV.agg [AV.str a.name, AV.sl .sh (List.map encA a.cap), AV.sl .sh (List.map encP a.labels), AV.sl .sh (List.map encT a.taints), AV.bool a.cordon]) (show Gives cfg (32 : FuncId) [encN a] (encN a) from oa) ⟨rfl, rfl⟩ ⟨rfl, rfl⟩ <| .callG ([AV.agg [AV.str b.name, AV.sl .sh (List.map encA b.cap), AV.sl .sh (List.map encP b.labels), AV.sl .sh (List.map encT b.taints), AV.bool b.cordon]]) (AV.agg [AV.str b.name, AV.sl .sh (List.map encA b.cap), AV.sl .sh (List.map encP b.labels), AV.sl .sh (List.map encT b.taints), AV.bool b.cordon]) (show Gives cfg (32 : FuncId) [encN b] (encN b) from ob) ⟨rfl, rfl⟩ ⟨rfl, rfl⟩ <| .callG ([AV.agg [AV.str a.name, AV.sl .sh (List.map encA a.cap), AV.sl .sh (List.map encP a.labels), AV.sl .sh (List.map encT a.taints), AV.bool a.cordon]]) (AV.int .i64 e) (show Gives cfg (33 : FuncId) [encN a] (AV.int .i64 e) from c2) ⟨rfl, rfl⟩ ⟨rfl, rfl⟩ <| .callG ([AV.agg [AV.str a.name, AV.sl .sh (List.map encA a.cap), AV.sl .sh (List.map encP a.labels), AV.sl .sh (List.map encT a.taints), AV.bool a.cordon]]) (AV.int .i64 e) (show Gives cfg (34 : FuncId) [encN a] (AV.int .i64 e) from c1) ⟨rfl, rfl⟩ ⟨rfl, rfl⟩ <| .no (show (e != e) = false from Bool.eq_false_iff.2 (show ¬ ((e != e) = true) from (by simp))) <| .callG ([AV.agg [AV.str a.name, AV.sl .sh (List.map encA a.cap), AV.sl .sh (List.map encP a.labels), AV.sl .sh (List.map encT a.taints), AV.bool a.cordon], AV.agg [AV.str b.name, AV.sl .sh (List.map encA b.cap), AV.sl .sh (List.map encP b.labels), AV.sl .sh (List.map encT b.taints), AV.bool b.cordon]]) (AV.bool sm) (show Gives cfg (35 : FuncId) [encN a, encN b] (AV.bool sm) from s1) ⟨rfl, rfl⟩ ⟨rfl, rfl⟩ <| .callG ([AV.agg [AV.str a.name, AV.sl .sh (List.map encA a.cap), AV.sl .sh (List.map encP a.labels), AV.sl .sh (List.map encT a.taints), AV.bool a.cordon], AV.agg [AV.str b.name, AV.sl .sh (List.map encA b.cap), AV.sl .sh (List.map encP b.labels), AV.sl .sh (List.map encT b.taints), AV.bool b.cordon]]) (AV.bool sm) (show Gives cfg (36 : FuncId) [encN a, encN b] (AV.bool sm) from s2) ⟨rfl, rfl⟩ ⟨rfl, rfl⟩ <| .no (show (if true = true then !sm == sm else sm == sm) = false from Bool.eq_false_iff.2 (show ¬ ((if true = true then !sm == sm else sm == sm) = true) from (by simp))) <| .yes (show (e != (0 : Int)) = true from (by simpa using h0)) <| .fin ((ARes.ret (AV.bool true), { boxes := [[AV.str a.name, AV.sl .sh (List.map encA a.cap), AV.sl .sh (List.map encP a.labels), AV.sl .sh (List.map encT a.taints), AV.bool a.cordon], [AV.str b.name, AV.sl .sh (List.map encA b.cap), AV.sl .sh (List.map encP b.labels), AV.sl .sh (List.map encT b.taints), AV.bool b.cordon], [AV.str a.name, AV.sl .sh (List.map encA a.cap), AV.sl .sh (List.map encP a.labels), AV.sl .sh (List.map encT a.taints), AV.bool a.cordon], [AV.str b.name, AV.sl .sh (List.map encA b.cap), AV.sl .sh (List.map encP b.labels), AV.sl .sh (List.map encT b.taints), AV.bool b.cordon]], toks := [], loops := [] : Heap })) rfl) (by kernel_rfl)
    · rw [ha] at fa
      rw [Bool.eq_false_iff.2 hb] at fb
      exact goG 60 []  trivial  (.callG ([]) (AV.bool true) (show Gives cfg (30 : FuncId) [] (AV.bool true) from known30') ⟨rfl, rfl⟩ ⟨rfl, rfl⟩ <| .ff <| .callG ([AV.agg [AV.str a.name, AV.sl .sh (List.map encA a.cap), AV.sl .sh (List.map encP a.labels), AV.sl .sh (List.map encT a.taints), AV.bool a.cordon]]) (AV.bool true) (show Gives cfg (31 : FuncId) [encN a] (AV.bool true) from fa) ⟨rfl, rfl⟩ ⟨rfl, rfl⟩ <| .ff <| .callG ([AV.agg [AV.str b.name, AV.sl .sh (List.map encA b.cap), AV.sl .sh (List.map encP b.labels), AV.sl .sh (List.map encT b.taints), AV.bool b.cordon]]) (AV.bool false) (show Gives cfg (31 : FuncId) [encN b] (AV.bool false) from fb) ⟨rfl, rfl⟩ ⟨rfl, rfl⟩ <| .tt <| .fin ((ARes.ret (AV.bool true), { boxes := [[AV.str a.name, AV.sl .sh (List.map encA a.cap), AV.sl .sh (List.map encP a.labels), AV.sl .sh (List.map encT a.taints), AV.bool a.cordon], [AV.str b.name, AV.sl .sh (List.map encA b.cap), AV.sl .sh (List.map encP b.labels), AV.sl .sh (List.map encT b.taints), AV.bool b.cordon]], toks := [], loops := [] : Heap })) rfl) (by kernel_rfl)
  · rw [Bool.eq_false_iff.2 ha] at fa
    exact goG 60 []  trivial  (.callG ([]) (AV.bool true) (show Gives cfg (30 : FuncId) [] (AV.bool true) from known30') ⟨rfl, rfl⟩ ⟨rfl, rfl⟩ <| .ff <| .callG ([AV.agg [AV.str a.name, AV.sl .sh (List.map encA a.cap), AV.sl .sh (List.map encP a.labels), AV.sl .sh (List.map encT a.taints), AV.bool a.cordon]]) (AV.bool false) (show Gives cfg (31 : FuncId) [encN a] (AV.bool false) from fa) ⟨rfl, rfl⟩ ⟨rfl, rfl⟩ <| .tt <| .tt <| .fin ((ARes.ret (AV.bool true), { boxes := [[AV.str a.name, AV.sl .sh (List.map encA a.cap), AV.sl .sh (List.map encP a.labels), AV.sl .sh (List.map encT a.taints), AV.bool a.cordon], [AV.str b.name, AV.sl .sh (List.map encA b.cap), AV.sl .sh (List.map encP b.labels), AV.sl .sh (List.map encT b.taints), AV.bool b.cordon]], toks := [], loops := [] : Heap })) rfl) (by kernel_rfl)
end Go.Aa.T

set_option linter.unusedVariables false
set_option linter.unusedSimpArgs false
set_option maxRecDepth 100000
namespace Go.Aa.T
open Go.Aa Go.Proofs
theorem law6 (xs : List AV) (h : TyAll Tryz.prog 5 [70, 70] xs) (hz : SzAll Tryz.prog [70, 70] xs) : ∃ H', lim cfg (.fn 6) xs Heap.nil = some (.ret (.bool true), H') := by
  obtain ⟨x1, x2, rfl, h1, h2⟩ := tyall_2 h
  obtain ⟨a, rfl, sa⟩ := ty70 (k := 1) h1
  obtain ⟨b, rfl, sb⟩ := ty70 (k := 1) h2
  exact (nodeAny a b sa sb).ret
end Go.Aa.T

set_option linter.unusedVariables false
set_option linter.unusedSimpArgs false
set_option maxRecDepth 100000
namespace Go.Aa.T
open Go.Aa Go.Proofs Go.RowKit Go.ChangeShapes Go.Proofs.YtppplbpilpjokaaGreatDoor
theorem star : "*" ++ "errors.errorString" = "*errors.errorString" := by decide
theorem rowES (u : TypeId) (h : Tryz.prog.typeName? 3 u = some "*errors.errorString") : u = 331 :=
  typeName_ptr_named (nm := "errors.errorString") (by rw [star]; kernel_rfl) (by kernel_rfl) (by decide) u (by rw [star]; exact h)
theorem var_heap {P : Program} {W : World} {n : String} {cs : Array Value} {g : Nat} (h : W.var? P n = some cs) (hg : P.globalNamed n = some g) : ∃ e m, W.heap[g]? = some (.cells cs e m) := by
  simp only [World.var?, hg, Option.bind_some] at h
  split at h
  · rename_i cs' e m hc
    cases h
    exact ⟨e, m, hc⟩
  · cases h
def laidL : List (String × DataW Unit) := Rows.podEdgesRow.laid
theorem pow_eq : (Rows.laid_internal_strconv_uint64pow10 : DataW Unit) = Lib.tabData .u64 Lib.pow10Tab := by kernel_rfl
theorem cellsES : Tryz.prog.cellsOf 333 = 1 := by kernel_rfl
theorem cellsS : Tryz.prog.cellsOf 9 = 1 := by kernel_rfl
theorem glob0Z {W : World} (h : laidMet Tryz.prog laidL W) : Glob0 Tryz.prog W := by
  have h2 := laidMet.tail (laidMet.tail h)
  have ht : Lib.TabIs Tryz.prog W "internal/strconv.uint64pow10" .u64 Lib.pow10Tab := by
    have h3 : laidMet Tryz.prog (("internal/strconv.uint64pow10", Rows.laid_internal_strconv_uint64pow10) :: _) W := h2
    rw [pow_eq] at h3
    exact Lib.tabIs_of_head (g := 1) (t := 303) (n := 20) (by kernel_rfl) (by kernel_rfl) Tryz.underlying303 Tryz.underlying282 (by kernel_rfl) (by kernel_rfl) h3
  have h4 := laidMet.tail (laidMet.tail h2)
  obtain ⟨a1, s1, hv1, -, -, -⟩ := laid_sentinel h4 (g := 5) (ti := 238) (tp := 331) (te := 333) (ts := 9) (by kernel_rfl) (by kernel_rfl) Tryz.underlying238 rowES Tryz.underlying331 Tryz.underlying333 rfl rfl Tryz.underlying9 cellsES cellsS
  have h5 := laidMet.tail h4
  obtain ⟨a2, s2, hv2, -, -, -⟩ := laid_sentinel h5 (g := 4) (ti := 238) (tp := 331) (te := 333) (ts := 9) (by kernel_rfl) (by kernel_rfl) Tryz.underlying238 rowES Tryz.underlying331 Tryz.underlying333 rfl rfl Tryz.underlying9 cellsES cellsS
  intro s hs g hg
  simp only [globSpec, List.mem_cons, List.not_mem_nil, or_false] at hs
  rcases hs with rfl | rfl | rfl
  · obtain ⟨e, m, hh⟩ := var_heap ht hg
    exact ⟨_, e, m, hh, rfl⟩
  · obtain ⟨e, m, hh⟩ := var_heap hv2 hg
    exact ⟨_, e, m, hh, _, _, rfl⟩
  · obtain ⟨e, m, hh⟩ := var_heap hv1 hg
    exact ⟨_, e, m, hh, _, _, rfl⟩
end Go.Aa.T
