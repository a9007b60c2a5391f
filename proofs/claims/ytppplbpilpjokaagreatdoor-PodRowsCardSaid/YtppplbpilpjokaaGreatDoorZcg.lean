/-
  WHAT THE LAW LEANS ON, part 7 of 8: a machine of values and its soundness; the functions of the law upon it; what they come to.
-/
import Derived.Test.YtppplbpilpjokaaGreatDoorZcf
import Derived.Sort.Walk0

set_option linter.unusedVariables false
set_option linter.unusedSimpArgs false
set_option maxRecDepth 100000
namespace Go.Aa.T
open Go.Aa Go.Proofs
structure Pair where
  key : List UInt8
  val : List UInt8
structure Term where
  op : Int
  key : List UInt8
  val : List UInt8
def Pair.cells (t : Pair) : List AV := [.str t.key, .str t.val]
def Term.cells (t : Term) : List AV := [.int .i64 t.op, .str t.key, .str t.val]
def encP (t : Pair) : AV := .agg t.cells
def encM (t : Term) : AV := .agg t.cells

def fewP (l : List Pair) : Bool := decide (l.length ≤ 20) && few (fun t => (t.key, t.val)) l
def fewM (l : List Term) : Bool := decide (l.length ≤ 20) && few (fun t => (t.key, t.val)) l
theorem fewP_len {l : List Pair} (h : fewP l = true) : l.length ≤ 20 := by
  simp only [fewP, Bool.and_eq_true, decide_eq_true_eq] at h; exact h.1
theorem fewM_len {l : List Term} (h : fewM l = true) : l.length ≤ 20 := by
  simp only [fewM, Bool.and_eq_true, decide_eq_true_eq] at h; exact h.1
theorem fewP_loop (l : List Pair) (hn : l.length ≤ 20) : ∀ (post : List Pair) (i : Nat) (hd : l.drop i = post) (T : Env) (hT : Has T [(0, .sl .sh (l.map encP)), (3, .int .i64 i)]),
    Goes cfg a60 k60_0 T Heap.nil (IsRet (.bool (few (fun t => (t.key, t.val)) post))) := by
  intro post
  induction post with
  | nil =>
    intro i hd T hT
    have hge := drop_ge hd
    exact goG 60 _  hT  (.len (show lenA false (AV.sl SK.sh (List.map encP l)) = some (AV.int IntKind.i64 (↑l.length : Int)) from len_map _) <| .no (show (decide ((↑i : Int) < (↑l.length : Int))) = false from decide_eq_false (show ¬ ((↑i : Int) < (↑l.length : Int)) from (by omega))) <| .fin ((ARes.ret (AV.bool true), { boxes := [], toks := [], loops := [] : Heap })) rfl) (by kernel_rfl)
  | cons x post ih =>
    intro i hd T hT
    have hlt := drop_lt hd
    have hnx := drop_next hd
    exact goG 60 _  hT  (.len (show lenA false (AV.sl SK.sh (List.map encP l)) = some (AV.int IntKind.i64 (↑l.length : Int)) from len_map _) <| .yes (show (decide ((↑i : Int) < (↑l.length : Int))) = true from decide_eq_true (show (↑i : Int) < (↑l.length : Int) from (by omega))) <| .idx (show idxA (2 : Nat) (AV.sl SK.sh (List.map encP l)) (AV.int IntKind.i64 (↑i : Int)) = some (AV.ref (encP x).cells) from idx_row hd (by rfl)) <| .len (show lenA true (AV.str x.key) = some (AV.int IntKind.i64 (↑x.key.length : Int)) from len_str _) <| .split ((50 : Int) < (↑x.key.length : Int)) (fun h1 => .yes (show (decide ((50 : Int) < (↑x.key.length : Int))) = true from decide_eq_true (show (50 : Int) < (↑x.key.length : Int) from h1)) <| .tt <| .fin ((ARes.ret (AV.bool false), { boxes := [], toks := [], loops := [] : Heap })) (by simp only [IsRet]; grind [few])) (fun h1 => .no (show (decide ((50 : Int) < (↑x.key.length : Int))) = false from decide_eq_false (show ¬ ((50 : Int) < (↑x.key.length : Int)) from h1)) <| .idx (show idxA (2 : Nat) (AV.sl SK.sh (List.map encP l)) (AV.int IntKind.i64 (↑i : Int)) = some (AV.ref (encP x).cells) from idx_row hd (by rfl)) <| .len (show lenA true (AV.str x.val) = some (AV.int IntKind.i64 (↑x.val.length : Int)) from len_str _) <| .split ((50 : Int) < (↑x.val.length : Int)) (fun h2 => .yes (show (decide ((50 : Int) < (↑x.val.length : Int))) = true from decide_eq_true (show (50 : Int) < (↑x.val.length : Int) from h2)) <| .fin ((ARes.ret (AV.bool false), { boxes := [], toks := [], loops := [] : Heap })) (by simp only [IsRet]; grind [few])) (fun h2 => .no (show (decide ((50 : Int) < (↑x.val.length : Int))) = false from decide_eq_false (show ¬ ((50 : Int) < (↑x.val.length : Int)) from h2)) <| .bin (show binA BinOp.add (AV.int IntKind.i64 (↑i : Int)) (AV.int IntKind.i64 (1 : Int)) = some (AV.int IntKind.i64 (↑(i + (1 : Nat)) : Int)) from inc_i (by omega)) <| .cutQ k60_0 [(0, AV.sl SK.sh (List.map encP l)), (3, AV.int IntKind.i64 (↑(i + (1 : Nat)) : Int))] ({ boxes := [], toks := [], loops := [] : Heap }) (fun T hT => (ih (i + (1 : Nat)) hnx T hT).to (by grind [few]))))) (by kernel_rfl)
theorem fewM_loop (l : List Term) (hn : l.length ≤ 20) : ∀ (post : List Term) (i : Nat) (hd : l.drop i = post) (T : Env) (hT : Has T [(0, .sl .sh (l.map encM)), (3, .int .i64 i)]),
    Goes cfg a58 k58_0 T Heap.nil (IsRet (.bool (few (fun t => (t.key, t.val)) post))) := by
  intro post
  induction post with
  | nil =>
    intro i hd T hT
    have hge := drop_ge hd
    exact goG 60 _  hT  (.len (show lenA false (AV.sl SK.sh (List.map encM l)) = some (AV.int IntKind.i64 (↑l.length : Int)) from len_map _) <| .no (show (decide ((↑i : Int) < (↑l.length : Int))) = false from decide_eq_false (show ¬ ((↑i : Int) < (↑l.length : Int)) from (by omega))) <| .fin ((ARes.ret (AV.bool true), { boxes := [], toks := [], loops := [] : Heap })) rfl) (by kernel_rfl)
  | cons x post ih =>
    intro i hd T hT
    have hlt := drop_lt hd
    have hnx := drop_next hd
    exact goG 60 _  hT  (.len (show lenA false (AV.sl SK.sh (List.map encM l)) = some (AV.int IntKind.i64 (↑l.length : Int)) from len_map _) <| .yes (show (decide ((↑i : Int) < (↑l.length : Int))) = true from decide_eq_true (show (↑i : Int) < (↑l.length : Int) from (by omega))) <| .idx (show idxA (3 : Nat) (AV.sl SK.sh (List.map encM l)) (AV.int IntKind.i64 (↑i : Int)) = some (AV.ref (encM x).cells) from idx_row hd (by rfl)) <| .len (show lenA true (AV.str x.key) = some (AV.int IntKind.i64 (↑x.key.length : Int)) from len_str _) <| .split ((50 : Int) < (↑x.key.length : Int)) (fun h1 => .yes (show (decide ((50 : Int) < (↑x.key.length : Int))) = true from decide_eq_true (show (50 : Int) < (↑x.key.length : Int) from h1)) <| .tt <| .fin ((ARes.ret (AV.bool false), { boxes := [], toks := [], loops := [] : Heap })) (by simp only [IsRet]; grind [few])) (fun h1 => .no (show (decide ((50 : Int) < (↑x.key.length : Int))) = false from decide_eq_false (show ¬ ((50 : Int) < (↑x.key.length : Int)) from h1)) <| .idx (show idxA (3 : Nat) (AV.sl SK.sh (List.map encM l)) (AV.int IntKind.i64 (↑i : Int)) = some (AV.ref (encM x).cells) from idx_row hd (by rfl)) <| .len (show lenA true (AV.str x.val) = some (AV.int IntKind.i64 (↑x.val.length : Int)) from len_str _) <| .split ((50 : Int) < (↑x.val.length : Int)) (fun h2 => .yes (show (decide ((50 : Int) < (↑x.val.length : Int))) = true from decide_eq_true (show (50 : Int) < (↑x.val.length : Int) from h2)) <| .fin ((ARes.ret (AV.bool false), { boxes := [], toks := [], loops := [] : Heap })) (by simp only [IsRet]; grind [few])) (fun h2 => .no (show (decide ((50 : Int) < (↑x.val.length : Int))) = false from decide_eq_false (show ¬ ((50 : Int) < (↑x.val.length : Int)) from h2)) <| .bin (show binA BinOp.add (AV.int IntKind.i64 (↑i : Int)) (AV.int IntKind.i64 (1 : Int)) = some (AV.int IntKind.i64 (↑(i + (1 : Nat)) : Int)) from inc_i (by omega)) <| .cutQ k58_0 [(0, AV.sl SK.sh (List.map encM l)), (3, AV.int IntKind.i64 (↑(i + (1 : Nat)) : Int))] ({ boxes := [], toks := [], loops := [] : Heap }) (fun T hT => (ih (i + (1 : Nat)) hnx T hT).to (by grind [few]))))) (by kernel_rfl)
theorem fewP_any (l : List Pair) : Gives cfg 60 [.sl .sh (l.map encP)] (.bool (fewP l)) := by
  refine Gives.run (l60 _ _) ?_
  have h := fun hn => fewP_loop l hn l 0 rfl
  exact goG 60 []  trivial  (.len (show lenA false (AV.sl SK.sh (List.map encP l)) = some (AV.int IntKind.i64 (↑l.length : Int)) from len_map _) <| .split ((20 : Int) < (↑l.length : Int)) (fun h1 => .yes (show (decide ((20 : Int) < (↑l.length : Int))) = true from decide_eq_true (show (20 : Int) < (↑l.length : Int) from h1)) <| .fin ((ARes.ret (AV.bool false), { boxes := [], toks := [], loops := [] : Heap })) (by simp only [IsRet]; grind [fewP])) (fun h1 => .no (show (decide ((20 : Int) < (↑l.length : Int))) = false from decide_eq_false (show ¬ ((20 : Int) < (↑l.length : Int)) from h1)) <| .cutQ k60_0 [(0, AV.sl SK.sh (List.map encP l)), (3, AV.int IntKind.i64 (0 : Int))] ({ boxes := [], toks := [], loops := [] : Heap }) (fun T hT => (h (by omega) T hT).to (by grind [fewP])))) (by kernel_rfl)
theorem fewM_any (l : List Term) : Gives cfg 58 [.sl .sh (l.map encM)] (.bool (fewM l)) := by
  refine Gives.run (l58 _ _) ?_
  have h := fun hn => fewM_loop l hn l 0 rfl
  exact goG 60 []  trivial  (.len (show lenA false (AV.sl SK.sh (List.map encM l)) = some (AV.int IntKind.i64 (↑l.length : Int)) from len_map _) <| .split ((20 : Int) < (↑l.length : Int)) (fun h1 => .yes (show (decide ((20 : Int) < (↑l.length : Int))) = true from decide_eq_true (show (20 : Int) < (↑l.length : Int) from h1)) <| .fin ((ARes.ret (AV.bool false), { boxes := [], toks := [], loops := [] : Heap })) (by simp only [IsRet]; grind [fewM])) (fun h1 => .no (show (decide ((20 : Int) < (↑l.length : Int))) = false from decide_eq_false (show ¬ ((20 : Int) < (↑l.length : Int)) from h1)) <| .cutQ k58_0 [(0, AV.sl SK.sh (List.map encM l)), (3, AV.int IntKind.i64 (0 : Int))] ({ boxes := [], toks := [], loops := [] : Heap }) (fun T hT => (h (by omega) T hT).to (by grind [fewM])))) (by kernel_rfl)

theorem ofP_loop (l : List Pair) (hn : l.length ≤ 20) : ∀ (post : List Pair) (i : Nat) (acc : List AV) (hd : l.drop i = post) (ha : acc.length = i) (hl : lenOk 2 acc = true) (T : Env) (hT : Has T [(0, .sl .sh (l.map encP)), (3, rowS Heap.nil acc), (4, .int .i64 i)]),
    Goes cfg a74 k74_0 T (rowH Heap.nil acc) (IsRet (rowS Heap.nil (acc ++ post.map encP))) := by
  intro post
  induction post with
  | nil =>
    intro i acc hd ha hl T hT
    have hge := drop_ge hd
    exact goG 60 _  hT  (.len (show lenA false (AV.sl SK.sh (List.map encP l)) = some (AV.int IntKind.i64 (↑l.length : Int)) from len_map _) <| .no (show (decide ((↑i : Int) < (↑l.length : Int))) = false from decide_eq_false (show ¬ ((↑i : Int) < (↑l.length : Int)) from (by omega))) <| .fin ((ARes.ret (setD (setD (setD (setD (setD (setD (updL T [((0 : Nat), AV.sl SK.sh (List.map encP l)), ((3 : Nat), rowS Heap.nil acc), ((4 : Nat), AV.int IntKind.i64 (↑i : Int))]) { dst := some (5 : Nat), op := AOp.mov (Opd.t (4 : Nat)), guard := none, deps := [] : AOper }.dst (ev (updL T [((0 : Nat), AV.sl SK.sh (List.map encP l)), ((3 : Nat), rowS Heap.nil acc), ((4 : Nat), AV.int IntKind.i64 (↑i : Int))]) (Opd.t (4 : Nat)))) { dst := some (6 : Nat), op := AOp.mov (Opd.t (0 : Nat)), guard := none, deps := [] : AOper }.dst (ev (setD (updL T [((0 : Nat), AV.sl SK.sh (List.map encP l)), ((3 : Nat), rowS Heap.nil acc), ((4 : Nat), AV.int IntKind.i64 (↑i : Int))]) { dst := some (5 : Nat), op := AOp.mov (Opd.t (4 : Nat)), guard := none, deps := [] : AOper }.dst (ev (updL T [((0 : Nat), AV.sl SK.sh (List.map encP l)), ((3 : Nat), rowS Heap.nil acc), ((4 : Nat), AV.int IntKind.i64 (↑i : Int))]) (Opd.t (4 : Nat)))) (Opd.t (0 : Nat)))) { dst := some (7 : Nat), op := AOp.len false (Opd.t (6 : Nat)), guard := none, deps := [] : AOper }.dst (AV.int IntKind.i64 (↑l.length : Int))) { dst := some (8 : Nat), op := AOp.bin BinOp.lss (Opd.t (5 : Nat)) (Opd.t (7 : Nat)), guard := none, deps := [] : AOper }.dst (AV.bool (decide ((↑i : Int) < (↑l.length : Int))))) { dst := some (25 : Nat), op := AOp.mov (Opd.t (3 : Nat)), guard := none, deps := [] : AOper }.dst (ev (setD (setD (setD (setD (updL T [((0 : Nat), AV.sl SK.sh (List.map encP l)), ((3 : Nat), rowS Heap.nil acc), ((4 : Nat), AV.int IntKind.i64 (↑i : Int))]) { dst := some (5 : Nat), op := AOp.mov (Opd.t (4 : Nat)), guard := none, deps := [] : AOper }.dst (ev (updL T [((0 : Nat), AV.sl SK.sh (List.map encP l)), ((3 : Nat), rowS Heap.nil acc), ((4 : Nat), AV.int IntKind.i64 (↑i : Int))]) (Opd.t (4 : Nat)))) { dst := some (6 : Nat), op := AOp.mov (Opd.t (0 : Nat)), guard := none, deps := [] : AOper }.dst (ev (setD (updL T [((0 : Nat), AV.sl SK.sh (List.map encP l)), ((3 : Nat), rowS Heap.nil acc), ((4 : Nat), AV.int IntKind.i64 (↑i : Int))]) { dst := some (5 : Nat), op := AOp.mov (Opd.t (4 : Nat)), guard := none, deps := [] : AOper }.dst (ev (updL T [((0 : Nat), AV.sl SK.sh (List.map encP l)), ((3 : Nat), rowS Heap.nil acc), ((4 : Nat), AV.int IntKind.i64 (↑i : Int))]) (Opd.t (4 : Nat)))) (Opd.t (0 : Nat)))) { dst := some (7 : Nat), op := AOp.len false (Opd.t (6 : Nat)), guard := none, deps := [] : AOper }.dst (AV.int IntKind.i64 (↑l.length : Int))) { dst := some (8 : Nat), op := AOp.bin BinOp.lss (Opd.t (5 : Nat)) (Opd.t (7 : Nat)), guard := none, deps := [] : AOper }.dst (AV.bool (decide ((↑i : Int) < (↑l.length : Int))))) (Opd.t (3 : Nat)))) { dst := some (2 : Nat), op := AOp.mov (Opd.t (25 : Nat)), guard := none, deps := [] : AOper }.dst (ev (setD (setD (setD (setD (setD (updL T [((0 : Nat), AV.sl SK.sh (List.map encP l)), ((3 : Nat), rowS Heap.nil acc), ((4 : Nat), AV.int IntKind.i64 (↑i : Int))]) { dst := some (5 : Nat), op := AOp.mov (Opd.t (4 : Nat)), guard := none, deps := [] : AOper }.dst (ev (updL T [((0 : Nat), AV.sl SK.sh (List.map encP l)), ((3 : Nat), rowS Heap.nil acc), ((4 : Nat), AV.int IntKind.i64 (↑i : Int))]) (Opd.t (4 : Nat)))) { dst := some (6 : Nat), op := AOp.mov (Opd.t (0 : Nat)), guard := none, deps := [] : AOper }.dst (ev (setD (updL T [((0 : Nat), AV.sl SK.sh (List.map encP l)), ((3 : Nat), rowS Heap.nil acc), ((4 : Nat), AV.int IntKind.i64 (↑i : Int))]) { dst := some (5 : Nat), op := AOp.mov (Opd.t (4 : Nat)), guard := none, deps := [] : AOper }.dst (ev (updL T [((0 : Nat), AV.sl SK.sh (List.map encP l)), ((3 : Nat), rowS Heap.nil acc), ((4 : Nat), AV.int IntKind.i64 (↑i : Int))]) (Opd.t (4 : Nat)))) (Opd.t (0 : Nat)))) { dst := some (7 : Nat), op := AOp.len false (Opd.t (6 : Nat)), guard := none, deps := [] : AOper }.dst (AV.int IntKind.i64 (↑l.length : Int))) { dst := some (8 : Nat), op := AOp.bin BinOp.lss (Opd.t (5 : Nat)) (Opd.t (7 : Nat)), guard := none, deps := [] : AOper }.dst (AV.bool (decide ((↑i : Int) < (↑l.length : Int))))) { dst := some (25 : Nat), op := AOp.mov (Opd.t (3 : Nat)), guard := none, deps := [] : AOper }.dst (ev (setD (setD (setD (setD (updL T [((0 : Nat), AV.sl SK.sh (List.map encP l)), ((3 : Nat), rowS Heap.nil acc), ((4 : Nat), AV.int IntKind.i64 (↑i : Int))]) { dst := some (5 : Nat), op := AOp.mov (Opd.t (4 : Nat)), guard := none, deps := [] : AOper }.dst (ev (updL T [((0 : Nat), AV.sl SK.sh (List.map encP l)), ((3 : Nat), rowS Heap.nil acc), ((4 : Nat), AV.int IntKind.i64 (↑i : Int))]) (Opd.t (4 : Nat)))) { dst := some (6 : Nat), op := AOp.mov (Opd.t (0 : Nat)), guard := none, deps := [] : AOper }.dst (ev (setD (updL T [((0 : Nat), AV.sl SK.sh (List.map encP l)), ((3 : Nat), rowS Heap.nil acc), ((4 : Nat), AV.int IntKind.i64 (↑i : Int))]) { dst := some (5 : Nat), op := AOp.mov (Opd.t (4 : Nat)), guard := none, deps := [] : AOper }.dst (ev (updL T [((0 : Nat), AV.sl SK.sh (List.map encP l)), ((3 : Nat), rowS Heap.nil acc), ((4 : Nat), AV.int IntKind.i64 (↑i : Int))]) (Opd.t (4 : Nat)))) (Opd.t (0 : Nat)))) { dst := some (7 : Nat), op := AOp.len false (Opd.t (6 : Nat)), guard := none, deps := [] : AOper }.dst (AV.int IntKind.i64 (↑l.length : Int))) { dst := some (8 : Nat), op := AOp.bin BinOp.lss (Opd.t (5 : Nat)) (Opd.t (7 : Nat)), guard := none, deps := [] : AOper }.dst (AV.bool (decide ((↑i : Int) < (↑l.length : Int))))) (Opd.t (3 : Nat)))) (Opd.t (25 : Nat))) (2 : Nat)), rowH Heap.nil acc)) (by simp only [IsRet, List.map_nil, List.append_nil]; rfl)) (by kernel_rfl)
  | cons x post ih =>
    intro i acc hd ha hl T hT
    have hlt := drop_lt hd
    have hnx := drop_next hd
    exact goG 60 _  hT  (.len (show lenA false (AV.sl SK.sh (List.map encP l)) = some (AV.int IntKind.i64 (↑l.length : Int)) from len_map _) <| .yes (show (decide ((↑i : Int) < (↑l.length : Int))) = true from decide_eq_true (show (↑i : Int) < (↑l.length : Int) from (by simp; omega))) <| .idx (show idxA (2 : Nat) (AV.sl SK.sh (List.map encP l)) (AV.int IntKind.i64 (↑i : Int)) = some (AV.ref (encP x).cells) from idx_row hd (by rfl)) <| .load (show loadA false (1 : Nat) (rowH Heap.nil acc) (AV.ref [AV.str x.key]) = some (AV.str x.key) from rfl) <| .idx (show idxA (2 : Nat) (AV.sl SK.sh (List.map encP l)) (AV.int IntKind.i64 (↑i : Int)) = some (AV.ref (encP x).cells) from idx_row hd (by rfl)) <| .load (show loadA false (1 : Nat) (rowH Heap.nil acc) (AV.ref [AV.str x.val]) = some (AV.str x.val) from rfl) <| .append (show appendA (2 : Nat) (32 : Nat) (rowH Heap.nil acc) (rowS Heap.nil acc) (AV.sl SK.full [AV.agg [AV.str x.key, AV.str x.val]]) = some ((rowS Heap.nil (acc ++ [AV.agg [AV.str x.key, AV.str x.val]]), rowH Heap.nil (acc ++ [AV.agg [AV.str x.key, AV.str x.val]]))) from row_append (by omega) hl (by rfl) (by rfl)) <| .bin (show binA BinOp.add (AV.int IntKind.i64 (↑i : Int)) (AV.int IntKind.i64 (1 : Int)) = some (AV.int IntKind.i64 (↑(i + (1 : Nat)) : Int)) from inc_i (by omega)) <| .cutQ k74_0 [(0, AV.sl SK.sh (List.map encP l)), (3, rowS Heap.nil (acc ++ [AV.agg [AV.str x.key, AV.str x.val]])), (4, AV.int IntKind.i64 (↑(i + (1 : Nat)) : Int))] (rowH Heap.nil (acc ++ [AV.agg [AV.str x.key, AV.str x.val]])) (fun T hT => (ih (i + (1 : Nat)) (acc ++ [AV.agg [AV.str x.key, AV.str x.val]]) hnx (by simp; omega) (by exact lenOk_snoc (by assumption) rfl) T hT).to (by simp [encP, Pair.cells]))) (by kernel_rfl)
theorem ofM_loop (l : List Term) (hn : l.length ≤ 20) : ∀ (post : List Term) (i : Nat) (acc : List AV) (hd : l.drop i = post) (ha : acc.length = i) (hl : lenOk 3 acc = true) (T : Env) (hT : Has T [(0, .sl .sh (l.map encM)), (3, rowS Heap.nil acc), (4, .int .i64 i)]),
    Goes cfg a120 k120_0 T (rowH Heap.nil acc) (IsRet (rowS Heap.nil (acc ++ post.map encM))) := by
  intro post
  induction post with
  | nil =>
    intro i acc hd ha hl T hT
    have hge := drop_ge hd
    exact goG 60 _  hT  (.len (show lenA false (AV.sl SK.sh (List.map encM l)) = some (AV.int IntKind.i64 (↑l.length : Int)) from len_map _) <| .no (show (decide ((↑i : Int) < (↑l.length : Int))) = false from decide_eq_false (show ¬ ((↑i : Int) < (↑l.length : Int)) from (by omega))) <| .fin ((ARes.ret (setD (setD (setD (setD (setD (setD (updL T [((0 : Nat), AV.sl SK.sh (List.map encM l)), ((3 : Nat), rowS Heap.nil acc), ((4 : Nat), AV.int IntKind.i64 (↑i : Int))]) { dst := some (5 : Nat), op := AOp.mov (Opd.t (4 : Nat)), guard := none, deps := [] : AOper }.dst (ev (updL T [((0 : Nat), AV.sl SK.sh (List.map encM l)), ((3 : Nat), rowS Heap.nil acc), ((4 : Nat), AV.int IntKind.i64 (↑i : Int))]) (Opd.t (4 : Nat)))) { dst := some (6 : Nat), op := AOp.mov (Opd.t (0 : Nat)), guard := none, deps := [] : AOper }.dst (ev (setD (updL T [((0 : Nat), AV.sl SK.sh (List.map encM l)), ((3 : Nat), rowS Heap.nil acc), ((4 : Nat), AV.int IntKind.i64 (↑i : Int))]) { dst := some (5 : Nat), op := AOp.mov (Opd.t (4 : Nat)), guard := none, deps := [] : AOper }.dst (ev (updL T [((0 : Nat), AV.sl SK.sh (List.map encM l)), ((3 : Nat), rowS Heap.nil acc), ((4 : Nat), AV.int IntKind.i64 (↑i : Int))]) (Opd.t (4 : Nat)))) (Opd.t (0 : Nat)))) { dst := some (7 : Nat), op := AOp.len false (Opd.t (6 : Nat)), guard := none, deps := [] : AOper }.dst (AV.int IntKind.i64 (↑l.length : Int))) { dst := some (8 : Nat), op := AOp.bin BinOp.lss (Opd.t (5 : Nat)) (Opd.t (7 : Nat)), guard := none, deps := [] : AOper }.dst (AV.bool (decide ((↑i : Int) < (↑l.length : Int))))) { dst := some (30 : Nat), op := AOp.mov (Opd.t (3 : Nat)), guard := none, deps := [] : AOper }.dst (ev (setD (setD (setD (setD (updL T [((0 : Nat), AV.sl SK.sh (List.map encM l)), ((3 : Nat), rowS Heap.nil acc), ((4 : Nat), AV.int IntKind.i64 (↑i : Int))]) { dst := some (5 : Nat), op := AOp.mov (Opd.t (4 : Nat)), guard := none, deps := [] : AOper }.dst (ev (updL T [((0 : Nat), AV.sl SK.sh (List.map encM l)), ((3 : Nat), rowS Heap.nil acc), ((4 : Nat), AV.int IntKind.i64 (↑i : Int))]) (Opd.t (4 : Nat)))) { dst := some (6 : Nat), op := AOp.mov (Opd.t (0 : Nat)), guard := none, deps := [] : AOper }.dst (ev (setD (updL T [((0 : Nat), AV.sl SK.sh (List.map encM l)), ((3 : Nat), rowS Heap.nil acc), ((4 : Nat), AV.int IntKind.i64 (↑i : Int))]) { dst := some (5 : Nat), op := AOp.mov (Opd.t (4 : Nat)), guard := none, deps := [] : AOper }.dst (ev (updL T [((0 : Nat), AV.sl SK.sh (List.map encM l)), ((3 : Nat), rowS Heap.nil acc), ((4 : Nat), AV.int IntKind.i64 (↑i : Int))]) (Opd.t (4 : Nat)))) (Opd.t (0 : Nat)))) { dst := some (7 : Nat), op := AOp.len false (Opd.t (6 : Nat)), guard := none, deps := [] : AOper }.dst (AV.int IntKind.i64 (↑l.length : Int))) { dst := some (8 : Nat), op := AOp.bin BinOp.lss (Opd.t (5 : Nat)) (Opd.t (7 : Nat)), guard := none, deps := [] : AOper }.dst (AV.bool (decide ((↑i : Int) < (↑l.length : Int))))) (Opd.t (3 : Nat)))) { dst := some (2 : Nat), op := AOp.mov (Opd.t (30 : Nat)), guard := none, deps := [] : AOper }.dst (ev (setD (setD (setD (setD (setD (updL T [((0 : Nat), AV.sl SK.sh (List.map encM l)), ((3 : Nat), rowS Heap.nil acc), ((4 : Nat), AV.int IntKind.i64 (↑i : Int))]) { dst := some (5 : Nat), op := AOp.mov (Opd.t (4 : Nat)), guard := none, deps := [] : AOper }.dst (ev (updL T [((0 : Nat), AV.sl SK.sh (List.map encM l)), ((3 : Nat), rowS Heap.nil acc), ((4 : Nat), AV.int IntKind.i64 (↑i : Int))]) (Opd.t (4 : Nat)))) { dst := some (6 : Nat), op := AOp.mov (Opd.t (0 : Nat)), guard := none, deps := [] : AOper }.dst (ev (setD (updL T [((0 : Nat), AV.sl SK.sh (List.map encM l)), ((3 : Nat), rowS Heap.nil acc), ((4 : Nat), AV.int IntKind.i64 (↑i : Int))]) { dst := some (5 : Nat), op := AOp.mov (Opd.t (4 : Nat)), guard := none, deps := [] : AOper }.dst (ev (updL T [((0 : Nat), AV.sl SK.sh (List.map encM l)), ((3 : Nat), rowS Heap.nil acc), ((4 : Nat), AV.int IntKind.i64 (↑i : Int))]) (Opd.t (4 : Nat)))) (Opd.t (0 : Nat)))) { dst := some (7 : Nat), op := AOp.len false (Opd.t (6 : Nat)), guard := none, deps := [] : AOper }.dst (AV.int IntKind.i64 (↑l.length : Int))) { dst := some (8 : Nat), op := AOp.bin BinOp.lss (Opd.t (5 : Nat)) (Opd.t (7 : Nat)), guard := none, deps := [] : AOper }.dst (AV.bool (decide ((↑i : Int) < (↑l.length : Int))))) { dst := some (30 : Nat), op := AOp.mov (Opd.t (3 : Nat)), guard := none, deps := [] : AOper }.dst (ev (setD (setD (setD (setD (updL T [((0 : Nat), AV.sl SK.sh (List.map encM l)), ((3 : Nat), rowS Heap.nil acc), ((4 : Nat), AV.int IntKind.i64 (↑i : Int))]) { dst := some (5 : Nat), op := AOp.mov (Opd.t (4 : Nat)), guard := none, deps := [] : AOper }.dst (ev (updL T [((0 : Nat), AV.sl SK.sh (List.map encM l)), ((3 : Nat), rowS Heap.nil acc), ((4 : Nat), AV.int IntKind.i64 (↑i : Int))]) (Opd.t (4 : Nat)))) { dst := some (6 : Nat), op := AOp.mov (Opd.t (0 : Nat)), guard := none, deps := [] : AOper }.dst (ev (setD (updL T [((0 : Nat), AV.sl SK.sh (List.map encM l)), ((3 : Nat), rowS Heap.nil acc), ((4 : Nat), AV.int IntKind.i64 (↑i : Int))]) { dst := some (5 : Nat), op := AOp.mov (Opd.t (4 : Nat)), guard := none, deps := [] : AOper }.dst (ev (updL T [((0 : Nat), AV.sl SK.sh (List.map encM l)), ((3 : Nat), rowS Heap.nil acc), ((4 : Nat), AV.int IntKind.i64 (↑i : Int))]) (Opd.t (4 : Nat)))) (Opd.t (0 : Nat)))) { dst := some (7 : Nat), op := AOp.len false (Opd.t (6 : Nat)), guard := none, deps := [] : AOper }.dst (AV.int IntKind.i64 (↑l.length : Int))) { dst := some (8 : Nat), op := AOp.bin BinOp.lss (Opd.t (5 : Nat)) (Opd.t (7 : Nat)), guard := none, deps := [] : AOper }.dst (AV.bool (decide ((↑i : Int) < (↑l.length : Int))))) (Opd.t (3 : Nat)))) (Opd.t (30 : Nat))) (2 : Nat)), rowH Heap.nil acc)) (by simp only [IsRet, List.map_nil, List.append_nil]; rfl)) (by kernel_rfl)
  | cons x post ih =>
    intro i acc hd ha hl T hT
    have hlt := drop_lt hd
    have hnx := drop_next hd
    exact goG 60 _  hT  (.len (show lenA false (AV.sl SK.sh (List.map encM l)) = some (AV.int IntKind.i64 (↑l.length : Int)) from len_map _) <| .yes (show (decide ((↑i : Int) < (↑l.length : Int))) = true from decide_eq_true (show (↑i : Int) < (↑l.length : Int) from (by simp; omega))) <| .idx (show idxA (3 : Nat) (AV.sl SK.sh (List.map encM l)) (AV.int IntKind.i64 (↑i : Int)) = some (AV.ref (encM x).cells) from idx_row hd (by rfl)) <| .load (show loadA false (1 : Nat) (rowH Heap.nil acc) (AV.ref [AV.int IntKind.i64 x.op]) = some (AV.int IntKind.i64 x.op) from rfl) <| .idx (show idxA (3 : Nat) (AV.sl SK.sh (List.map encM l)) (AV.int IntKind.i64 (↑i : Int)) = some (AV.ref (encM x).cells) from idx_row hd (by rfl)) <| .load (show loadA false (1 : Nat) (rowH Heap.nil acc) (AV.ref [AV.str x.key]) = some (AV.str x.key) from rfl) <| .idx (show idxA (3 : Nat) (AV.sl SK.sh (List.map encM l)) (AV.int IntKind.i64 (↑i : Int)) = some (AV.ref (encM x).cells) from idx_row hd (by rfl)) <| .load (show loadA false (1 : Nat) (rowH Heap.nil acc) (AV.ref [AV.str x.val]) = some (AV.str x.val) from rfl) <| .append (show appendA (3 : Nat) (40 : Nat) (rowH Heap.nil acc) (rowS Heap.nil acc) (AV.sl SK.full [AV.agg [AV.int IntKind.i64 x.op, AV.str x.key, AV.str x.val]]) = some ((rowS Heap.nil (acc ++ [AV.agg [AV.int IntKind.i64 x.op, AV.str x.key, AV.str x.val]]), rowH Heap.nil (acc ++ [AV.agg [AV.int IntKind.i64 x.op, AV.str x.key, AV.str x.val]]))) from row_append (by omega) hl (by rfl) (by rfl)) <| .bin (show binA BinOp.add (AV.int IntKind.i64 (↑i : Int)) (AV.int IntKind.i64 (1 : Int)) = some (AV.int IntKind.i64 (↑(i + (1 : Nat)) : Int)) from inc_i (by omega)) <| .cutQ k120_0 [(0, AV.sl SK.sh (List.map encM l)), (3, rowS Heap.nil (acc ++ [AV.agg [AV.int IntKind.i64 x.op, AV.str x.key, AV.str x.val]])), (4, AV.int IntKind.i64 (↑(i + (1 : Nat)) : Int))] (rowH Heap.nil (acc ++ [AV.agg [AV.int IntKind.i64 x.op, AV.str x.key, AV.str x.val]])) (fun T hT => (ih (i + (1 : Nat)) (acc ++ [AV.agg [AV.int IntKind.i64 x.op, AV.str x.key, AV.str x.val]]) hnx (by simp; omega) (by exact lenOk_snoc (by assumption) rfl) T hT).to (by simp [encM, Term.cells]))) (by kernel_rfl)
theorem ofP_any (l : List Pair) (hn : l.length ≤ 20) : Gives cfg 74 [.sl .sh (l.map encP)] (rowS Heap.nil (l.map encP)) := by
  refine Gives.run (l74 _ _) ?_
  have h := ofP_loop l hn l 0 [] rfl rfl rfl
  exact goG 60 []  trivial  (.cutQ k74_0 [(0, AV.sl SK.sh (List.map encP l)), (3, AV.sl SK.full []), (4, AV.int IntKind.i64 (0 : Int))] ({ boxes := [], toks := [], loops := [] : Heap }) (fun T hT => (h T hT))) (by kernel_rfl)
theorem ofM_any (l : List Term) (hn : l.length ≤ 20) : Gives cfg 120 [.sl .sh (l.map encM)] (rowS Heap.nil (l.map encM)) := by
  refine Gives.run (l120 _ _) ?_
  have h := ofM_loop l hn l 0 [] rfl rfl rfl
  exact goG 60 []  trivial  (.cutQ k120_0 [(0, AV.sl SK.sh (List.map encM l)), (3, AV.sl SK.full []), (4, AV.int IntKind.i64 (0 : Int))] ({ boxes := [], toks := [], loops := [] : Heap }) (fun T hT => (h T hT))) (by kernel_rfl)

def ordB (s : List Pair) (i : Nat) (x : Pair) : Bool := match i with
  | 0 => false
  | j + 1 => match s[j]? with
    | some p => Op.bytesLess x.key p.key || x.key == p.key
    | none => false
def ckSl (s : List Pair) : Nat → List Pair → Int
  | _, [] => 0
  | i, x :: post => if isName x.key && isName x.val then (if ordB s i x then 13 else ckSl s (i + 1) post) else 3
def ckS (s : List Pair) : Int := if s.length ≤ 8 then ckSl s 0 s else 4
theorem dec_i {i : Nat} (h : i < 9223372036854775807) : binA .sub (.int .i64 ((i + 1 : Nat) : Int)) (.int .i64 1) = some (.int .i64 (i : Int)) := by
  rw [subI (by omega) (by omega)]; congr 2; omega
theorem ckS_ref_loop (l : List Pair) (hn : l.length ≤ 8) : ∀ (post : List Pair) (i : Nat) (hd : l.drop i = post) (T : Env) (hT : Has T [(0, .sl .sh (l.map encP)), (3, .int .i64 i)]),
    Goes cfg a78 k78_0 T Heap.nil (IsRet (.int .i64 (ckSl l i post))) := by
  intro post
  induction post with
  | nil =>
    intro i hd T hT
    have hge := drop_ge hd
    exact goG 60 _  hT  (.len (show lenA false (AV.sl SK.sh (List.map encP l)) = some (AV.int IntKind.i64 (↑l.length : Int)) from len_map _) <| .no (show (decide ((↑i : Int) < (↑l.length : Int))) = false from decide_eq_false (show ¬ ((↑i : Int) < (↑l.length : Int)) from (by omega))) <| .fin ((ARes.ret (AV.int IntKind.i64 (0 : Int)), { boxes := [], toks := [], loops := [] : Heap })) rfl) (by kernel_rfl)
  | cons x post ih =>
    intro i hd T hT
    have hlt := drop_lt hd
    have hnx := drop_next hd
    cases i with
    | zero => exact goG 60 _  hT  (.len (show lenA false (AV.sl SK.sh (List.map encP l)) = some (AV.int IntKind.i64 (↑l.length : Int)) from len_map _) <| .yes (show (decide ((↑(0 : Nat) : Int) < (↑l.length : Int))) = true from decide_eq_true (show (↑(0 : Nat) : Int) < (↑l.length : Int) from (by omega))) <| .idx (show idxA (2 : Nat) (AV.sl SK.sh (List.map encP l)) (AV.int IntKind.i64 (↑(0 : Nat) : Int)) = some (AV.ref (encP x).cells) from idx_row hd (by rfl)) <| .callG ([AV.str x.key]) (AV.bool (isName x.key)) (show Gives cfg (76 : FuncId) [AV.str x.key] (AV.bool (isName x.key)) from name_any _) ⟨rfl, rfl⟩ ⟨rfl, rfl⟩ <| .split (isName x.key = true) (fun h1 => .no (show (!isName x.key) = false from by have hh : isName x.key = true := h1; simp [hh]) <| .idx (show idxA (2 : Nat) (AV.sl SK.sh (List.map encP l)) (AV.int IntKind.i64 (↑(0 : Nat) : Int)) = some (AV.ref (encP x).cells) from idx_row hd (by rfl)) <| .callG ([AV.str x.val]) (AV.bool (isName x.val)) (show Gives cfg (76 : FuncId) [AV.str x.val] (AV.bool (isName x.val)) from name_any _) ⟨rfl, rfl⟩ ⟨rfl, rfl⟩ <| .split (isName x.val = true) (fun h2 => .no (show (!isName x.val) = false from by have hh : isName x.val = true := h2; simp [hh]) <| .ff <| .ff <| .bin (show binA BinOp.add (AV.int IntKind.i64 (↑(0 : Nat) : Int)) (AV.int IntKind.i64 (1 : Int)) = some (AV.int IntKind.i64 (↑((0 : Nat) + (1 : Nat)) : Int)) from inc_i (by omega)) <| .cutQ k78_0 [(0, AV.sl SK.sh (List.map encP l)), (3, AV.int IntKind.i64 (↑((0 : Nat) + (1 : Nat)) : Int))] ({ boxes := [], toks := [], loops := [] : Heap }) (fun T hT => (ih ((0 : Nat) + (1 : Nat)) hnx T hT).to (by grind [ckSl, ordB]))) (fun h2 => .yes (show (!isName x.val) = true from by have hh : ¬ (isName x.val = true) := h2; simp [hh]) <| .fin ((ARes.ret (AV.int IntKind.i64 (3 : Int)), { boxes := [], toks := [], loops := [] : Heap })) (by simp only [IsRet]; grind [ckSl, ordB]))) (fun h1 => .yes (show (!isName x.key) = true from by have hh : ¬ (isName x.key = true) := h1; simp [hh]) <| .tt <| .fin ((ARes.ret (AV.int IntKind.i64 (3 : Int)), { boxes := [], toks := [], loops := [] : Heap })) (by simp only [IsRet]; grind [ckSl, ordB]))) (by kernel_rfl)
    | succ j =>
      obtain ⟨p, hp⟩ : ∃ p, l[j]? = some p := ⟨l[j], List.getElem?_eq_getElem (by omega)⟩
      exact goG 60 _  hT  (.len (show lenA false (AV.sl SK.sh (List.map encP l)) = some (AV.int IntKind.i64 (↑l.length : Int)) from len_map _) <| .yes (show (decide ((↑(j + (1 : Nat)) : Int) < (↑l.length : Int))) = true from decide_eq_true (show (↑(j + (1 : Nat)) : Int) < (↑l.length : Int) from (by omega))) <| .idx (show idxA (2 : Nat) (AV.sl SK.sh (List.map encP l)) (AV.int IntKind.i64 (↑(j + (1 : Nat)) : Int)) = some (AV.ref (encP x).cells) from idx_row hd (by rfl)) <| .callG ([AV.str x.key]) (AV.bool (isName x.key)) (show Gives cfg (76 : FuncId) [AV.str x.key] (AV.bool (isName x.key)) from name_any _) ⟨rfl, rfl⟩ ⟨rfl, rfl⟩ <| .split (isName x.key = true) (fun h1 => .no (show (!isName x.key) = false from by have hh : isName x.key = true := h1; simp [hh]) <| .idx (show idxA (2 : Nat) (AV.sl SK.sh (List.map encP l)) (AV.int IntKind.i64 (↑(j + (1 : Nat)) : Int)) = some (AV.ref (encP x).cells) from idx_row hd (by rfl)) <| .callG ([AV.str x.val]) (AV.bool (isName x.val)) (show Gives cfg (76 : FuncId) [AV.str x.val] (AV.bool (isName x.val)) from name_any _) ⟨rfl, rfl⟩ ⟨rfl, rfl⟩ <| .split (isName x.val = true) (fun h2 => .no (show (!isName x.val) = false from by have hh : isName x.val = true := h2; simp [hh]) <| .yes (show (decide ((0 : Int) < (↑(j + (1 : Nat)) : Int))) = true from decide_eq_true (show (0 : Int) < (↑(j + (1 : Nat)) : Int) from (by omega))) <| .idx (show idxA (2 : Nat) (AV.sl SK.sh (List.map encP l)) (AV.int IntKind.i64 (↑(j + (1 : Nat)) : Int)) = some (AV.ref (encP x).cells) from idx_row hd (by rfl)) <| .bin (show binA BinOp.sub (AV.int IntKind.i64 (↑(j + (1 : Nat)) : Int)) (AV.int IntKind.i64 (1 : Int)) = some (AV.int IntKind.i64 (↑j : Int)) from dec_i (by omega)) <| .idx (show idxA (2 : Nat) (AV.sl SK.sh (List.map encP l)) (AV.int IntKind.i64 (↑j : Int)) = some (AV.ref (encP p).cells) from idx_get hp (by rfl)) <| .split ((Op.bytesLess x.key p.key || x.key == p.key) = true) (fun h3 => .yes (show (Op.bytesLess x.key p.key || x.key == p.key) = true from h3) <| .fin ((ARes.ret (AV.int IntKind.i64 (13 : Int)), { boxes := [], toks := [], loops := [] : Heap })) (by simp only [IsRet]; grind [ckSl, ordB])) (fun h3 => .no (show (Op.bytesLess x.key p.key || x.key == p.key) = false from Bool.eq_false_iff.2 (show ¬ ((Op.bytesLess x.key p.key || x.key == p.key) = true) from h3)) <| .bin (show binA BinOp.add (AV.int IntKind.i64 (↑(j + (1 : Nat)) : Int)) (AV.int IntKind.i64 (1 : Int)) = some (AV.int IntKind.i64 (↑(j + (1 : Nat) + (1 : Nat)) : Int)) from inc_i (by omega)) <| .cutQ k78_0 [(0, AV.sl SK.sh (List.map encP l)), (3, AV.int IntKind.i64 (↑(j + (1 : Nat) + (1 : Nat)) : Int))] ({ boxes := [], toks := [], loops := [] : Heap }) (fun T hT => (ih (j + (1 : Nat) + (1 : Nat)) hnx T hT).to (by grind [ckSl, ordB])))) (fun h2 => .yes (show (!isName x.val) = true from by have hh : ¬ (isName x.val = true) := h2; simp [hh]) <| .fin ((ARes.ret (AV.int IntKind.i64 (3 : Int)), { boxes := [], toks := [], loops := [] : Heap })) (by simp only [IsRet]; grind [ckSl, ordB]))) (fun h1 => .yes (show (!isName x.key) = true from by have hh : ¬ (isName x.key = true) := h1; simp [hh]) <| .tt <| .fin ((ARes.ret (AV.int IntKind.i64 (3 : Int)), { boxes := [], toks := [], loops := [] : Heap })) (by simp only [IsRet]; grind [ckSl, ordB]))) (by kernel_rfl)
theorem ckS_ref (l : List Pair) : Gives cfg 78 [.sl .sh (l.map encP)] (.int .i64 (ckS l)) := by
  refine Gives.run (l78 _ _) ?_
  have h := fun hn => ckS_ref_loop l hn l 0 rfl
  exact goG 60 []  trivial  (.len (show lenA false (AV.sl SK.sh (List.map encP l)) = some (AV.int IntKind.i64 (↑l.length : Int)) from len_map _) <| .split ((8 : Int) < (↑l.length : Int)) (fun h1 => .yes (show (decide ((8 : Int) < (↑l.length : Int))) = true from decide_eq_true (show (8 : Int) < (↑l.length : Int) from h1)) <| .fin ((ARes.ret (AV.int IntKind.i64 (4 : Int)), { boxes := [], toks := [], loops := [] : Heap })) (by simp only [IsRet]; grind [ckS])) (fun h1 => .no (show (decide ((8 : Int) < (↑l.length : Int))) = false from decide_eq_false (show ¬ ((8 : Int) < (↑l.length : Int)) from h1)) <| .cutQ k78_0 [(0, AV.sl SK.sh (List.map encP l)), (3, AV.int IntKind.i64 (0 : Int))] ({ boxes := [], toks := [], loops := [] : Heap }) (fun T hT => (h (by omega) T hT).to (by grind [ckS])))) (by kernel_rfl)
theorem ckS_loop (l : List Pair) (hn : l.length ≤ 8) : ∀ (post : List Pair) (i : Nat) (bs : List (List AV)) (hd : l.drop i = post) (T : Env) (hT : Has T [(0, .sl .sh (l.map encP)), (8, .sl .sh (l.map encP)), (9, .int .i64 l.length), (10, .int .i64 i)]),
    Goes cfg a83 k83_0 T ⟨bs, [], []⟩ (IsRet (.int .i64 (ckSl l i post))) := by
  intro post
  induction post with
  | nil =>
    intro i bs hd T hT
    have hge := drop_ge hd
    exact goG 60 _  hT  (.no (show (decide ((↑i : Int) < (↑l.length : Int))) = false from decide_eq_false (show ¬ ((↑i : Int) < (↑l.length : Int)) from (by omega))) <| .fin ((ARes.ret (AV.int IntKind.i64 (0 : Int)), { boxes := bs, toks := [], loops := [] : Heap })) rfl) (by kernel_rfl)
  | cons x post ih =>
    intro i bs hd T hT
    have hlt := drop_lt hd
    have hnx := drop_next hd
    cases i with
    | zero => exact goG 60 _  hT  (.yes (show (decide ((↑(0 : Nat) : Int) < (↑l.length : Int))) = true from decide_eq_true (show (↑(0 : Nat) : Int) < (↑l.length : Int) from (by omega))) <| .idx (show idxA (2 : Nat) (AV.sl SK.sh (List.map encP l)) (AV.int IntKind.i64 (↑(0 : Nat) : Int)) = some (AV.ref (encP x).cells) from idx_row hd (by rfl)) <| .load (show loadA true (2 : Nat) { boxes := bs, toks := [], loops := [] : Heap } (AV.ref [AV.str x.key, AV.str x.val]) = some (AV.agg [AV.str x.key, AV.str x.val]) from rfl) <| .store (show storeA (2 : Nat) { boxes := bs ++ [[AV.str [], AV.str []]], toks := [], loops := [] : Heap } (AV.ptr bs.length (0 : Nat)) (AV.agg [AV.str x.key, AV.str x.val]) = some ({ boxes := bs ++ [[AV.str x.key, AV.str x.val]], toks := [], loops := [] : Heap }) from store_box2 (cs := [AV.str [], AV.str []]) (cs' := [AV.str x.key, AV.str x.val]) (by simp) rfl (by simp [List.set_append])) <| .load (show loadA false (1 : Nat) { boxes := bs ++ [[AV.str x.key, AV.str x.val]], toks := [], loops := [] : Heap } (AV.ptr bs.length (0 : Nat)) = some (AV.str x.key) from load_box (cs := [AV.str x.key, AV.str x.val]) (by simp) rfl) <| .callG ([AV.str x.key]) (AV.bool (isName x.key)) (show Gives cfg (143 : FuncId) [AV.str x.key] (AV.bool (isName x.key)) from res_name _) ⟨rfl, rfl⟩ ⟨rfl, rfl⟩ <| .split (isName x.key = true) (fun h1 => .no (show (!isName x.key) = false from by have hh : isName x.key = true := h1; simp [hh]) <| .load (show loadA false (1 : Nat) { boxes := bs ++ [[AV.str x.key, AV.str x.val]], toks := [], loops := [] : Heap } (AV.ptr bs.length (1 : Nat)) = some (AV.str x.val) from load_box (cs := [AV.str x.key, AV.str x.val]) (by simp) rfl) <| .callG ([AV.str x.val]) (AV.bool (isName x.val)) (show Gives cfg (143 : FuncId) [AV.str x.val] (AV.bool (isName x.val)) from res_name _) ⟨rfl, rfl⟩ ⟨rfl, rfl⟩ <| .split (isName x.val = true) (fun h2 => .no (show (!isName x.val) = false from by have hh : isName x.val = true := h2; simp [hh]) <| .ff <| .ff <| .bin (show binA BinOp.add (AV.int IntKind.i64 (↑(0 : Nat) : Int)) (AV.int IntKind.i64 (1 : Int)) = some (AV.int IntKind.i64 (↑((0 : Nat) + (1 : Nat)) : Int)) from inc_i (by omega)) <| .cutQ k83_0 [(0, AV.sl SK.sh (List.map encP l)), (8, AV.sl SK.sh (List.map encP l)), (9, AV.int IntKind.i64 (↑l.length : Int)), (10, AV.int IntKind.i64 (↑((0 : Nat) + (1 : Nat)) : Int))] ({ boxes := bs ++ [[AV.str x.key, AV.str x.val]], toks := [], loops := [] : Heap }) (fun T hT => (ih ((0 : Nat) + (1 : Nat)) (bs ++ [[AV.str x.key, AV.str x.val]]) hnx T hT).to (by grind [ckSl, ordB]))) (fun h2 => .yes (show (!isName x.val) = true from by have hh : ¬ (isName x.val = true) := h2; simp [hh]) <| .fin ((ARes.ret (AV.int IntKind.i64 (3 : Int)), { boxes := bs ++ [[AV.str x.key, AV.str x.val]], toks := [], loops := [] : Heap })) (by simp only [IsRet]; grind [ckSl, ordB]))) (fun h1 => .yes (show (!isName x.key) = true from by have hh : ¬ (isName x.key = true) := h1; simp [hh]) <| .tt <| .fin ((ARes.ret (AV.int IntKind.i64 (3 : Int)), { boxes := bs ++ [[AV.str x.key, AV.str x.val]], toks := [], loops := [] : Heap })) (by simp only [IsRet]; grind [ckSl, ordB]))) (by kernel_rfl)
    | succ j =>
      obtain ⟨p, hp⟩ : ∃ p, l[j]? = some p := ⟨l[j], List.getElem?_eq_getElem (by omega)⟩
      exact goG 60 _  hT  (.yes (show (decide ((↑(j + (1 : Nat)) : Int) < (↑l.length : Int))) = true from decide_eq_true (show (↑(j + (1 : Nat)) : Int) < (↑l.length : Int) from (by omega))) <| .idx (show idxA (2 : Nat) (AV.sl SK.sh (List.map encP l)) (AV.int IntKind.i64 (↑(j + (1 : Nat)) : Int)) = some (AV.ref (encP x).cells) from idx_row hd (by rfl)) <| .load (show loadA true (2 : Nat) { boxes := bs, toks := [], loops := [] : Heap } (AV.ref [AV.str x.key, AV.str x.val]) = some (AV.agg [AV.str x.key, AV.str x.val]) from rfl) <| .store (show storeA (2 : Nat) { boxes := bs ++ [[AV.str [], AV.str []]], toks := [], loops := [] : Heap } (AV.ptr bs.length (0 : Nat)) (AV.agg [AV.str x.key, AV.str x.val]) = some ({ boxes := bs ++ [[AV.str x.key, AV.str x.val]], toks := [], loops := [] : Heap }) from store_box2 (cs := [AV.str [], AV.str []]) (cs' := [AV.str x.key, AV.str x.val]) (by simp) rfl (by simp [List.set_append])) <| .load (show loadA false (1 : Nat) { boxes := bs ++ [[AV.str x.key, AV.str x.val]], toks := [], loops := [] : Heap } (AV.ptr bs.length (0 : Nat)) = some (AV.str x.key) from load_box (cs := [AV.str x.key, AV.str x.val]) (by simp) rfl) <| .callG ([AV.str x.key]) (AV.bool (isName x.key)) (show Gives cfg (143 : FuncId) [AV.str x.key] (AV.bool (isName x.key)) from res_name _) ⟨rfl, rfl⟩ ⟨rfl, rfl⟩ <| .split (isName x.key = true) (fun h1 => .no (show (!isName x.key) = false from by have hh : isName x.key = true := h1; simp [hh]) <| .load (show loadA false (1 : Nat) { boxes := bs ++ [[AV.str x.key, AV.str x.val]], toks := [], loops := [] : Heap } (AV.ptr bs.length (1 : Nat)) = some (AV.str x.val) from load_box (cs := [AV.str x.key, AV.str x.val]) (by simp) rfl) <| .callG ([AV.str x.val]) (AV.bool (isName x.val)) (show Gives cfg (143 : FuncId) [AV.str x.val] (AV.bool (isName x.val)) from res_name _) ⟨rfl, rfl⟩ ⟨rfl, rfl⟩ <| .split (isName x.val = true) (fun h2 => .no (show (!isName x.val) = false from by have hh : isName x.val = true := h2; simp [hh]) <| .yes (show (decide ((0 : Int) < (↑(j + (1 : Nat)) : Int))) = true from decide_eq_true (show (0 : Int) < (↑(j + (1 : Nat)) : Int) from (by omega))) <| .load (show loadA false (1 : Nat) { boxes := bs ++ [[AV.str x.key, AV.str x.val]], toks := [], loops := [] : Heap } (AV.ptr bs.length (0 : Nat)) = some (AV.str x.key) from load_box (cs := [AV.str x.key, AV.str x.val]) (by simp) rfl) <| .bin (show binA BinOp.sub (AV.int IntKind.i64 (↑(j + (1 : Nat)) : Int)) (AV.int IntKind.i64 (1 : Int)) = some (AV.int IntKind.i64 (↑j : Int)) from dec_i (by omega)) <| .idx (show idxA (2 : Nat) (AV.sl SK.sh (List.map encP l)) (AV.int IntKind.i64 (↑j : Int)) = some (AV.ref (encP p).cells) from idx_get hp (by rfl)) <| .load (show loadA false (1 : Nat) { boxes := bs ++ [[AV.str x.key, AV.str x.val]], toks := [], loops := [] : Heap } (AV.ref [AV.str p.key]) = some (AV.str p.key) from rfl) <| .split ((Op.bytesLess x.key p.key || x.key == p.key) = true) (fun h3 => .yes (show (Op.bytesLess x.key p.key || x.key == p.key) = true from h3) <| .fin ((ARes.ret (AV.int IntKind.i64 (13 : Int)), { boxes := bs ++ [[AV.str x.key, AV.str x.val]], toks := [], loops := [] : Heap })) (by simp only [IsRet]; grind [ckSl, ordB])) (fun h3 => .no (show (Op.bytesLess x.key p.key || x.key == p.key) = false from Bool.eq_false_iff.2 (show ¬ ((Op.bytesLess x.key p.key || x.key == p.key) = true) from h3)) <| .bin (show binA BinOp.add (AV.int IntKind.i64 (↑(j + (1 : Nat)) : Int)) (AV.int IntKind.i64 (1 : Int)) = some (AV.int IntKind.i64 (↑(j + (1 : Nat) + (1 : Nat)) : Int)) from inc_i (by omega)) <| .cutQ k83_0 [(0, AV.sl SK.sh (List.map encP l)), (8, AV.sl SK.sh (List.map encP l)), (9, AV.int IntKind.i64 (↑l.length : Int)), (10, AV.int IntKind.i64 (↑(j + (1 : Nat) + (1 : Nat)) : Int))] ({ boxes := bs ++ [[AV.str x.key, AV.str x.val]], toks := [], loops := [] : Heap }) (fun T hT => (ih (j + (1 : Nat) + (1 : Nat)) (bs ++ [[AV.str x.key, AV.str x.val]]) hnx T hT).to (by grind [ckSl, ordB])))) (fun h2 => .yes (show (!isName x.val) = true from by have hh : ¬ (isName x.val = true) := h2; simp [hh]) <| .fin ((ARes.ret (AV.int IntKind.i64 (3 : Int)), { boxes := bs ++ [[AV.str x.key, AV.str x.val]], toks := [], loops := [] : Heap })) (by simp only [IsRet]; grind [ckSl, ordB]))) (fun h1 => .yes (show (!isName x.key) = true from by have hh : ¬ (isName x.key = true) := h1; simp [hh]) <| .tt <| .fin ((ARes.ret (AV.int IntKind.i64 (3 : Int)), { boxes := bs ++ [[AV.str x.key, AV.str x.val]], toks := [], loops := [] : Heap })) (by simp only [IsRet]; grind [ckSl, ordB]))) (by kernel_rfl)
theorem ckS_any (l : List Pair) : Gives cfg 83 [.sl .sh (l.map encP)] (.int .i64 (ckS l)) := by
  refine Gives.run (l83 _ _) ?_
  have h := fun hn => ckS_loop l hn l 0 [] rfl
  exact goG 60 []  trivial  (.len (show lenA false (AV.sl SK.sh (List.map encP l)) = some (AV.int IntKind.i64 (↑l.length : Int)) from len_map _) <| .split ((8 : Int) < (↑l.length : Int)) (fun h1 => .yes (show (decide ((8 : Int) < (↑l.length : Int))) = true from decide_eq_true (show (8 : Int) < (↑l.length : Int) from h1)) <| .fin ((ARes.ret (AV.int IntKind.i64 (4 : Int)), { boxes := [], toks := [], loops := [] : Heap })) (by simp only [IsRet]; grind [ckS])) (fun h1 => .no (show (decide ((8 : Int) < (↑l.length : Int))) = false from decide_eq_false (show ¬ ((8 : Int) < (↑l.length : Int)) from h1)) <| .len (show lenA false (AV.sl SK.sh (List.map encP l)) = some (AV.int IntKind.i64 (↑l.length : Int)) from len_map _) <| .cutQ k83_0 [(0, AV.sl SK.sh (List.map encP l)), (8, AV.sl SK.sh (List.map encP l)), (9, AV.int IntKind.i64 (↑l.length : Int)), (10, AV.int IntKind.i64 (0 : Int))] ({ boxes := [], toks := [], loops := [] : Heap }) (fun T hT => (h (by omega) T hT).to (by grind [ckS])))) (by kernel_rfl)
def valOk (x : Term) : Bool := if x.op ≤ 2 then isName x.val else decide (x.val = [])
def ckMl : List Term → Int
  | [] => 0
  | x :: post => if 1 ≤ x.op ∧ x.op ≤ 4 then (if isName x.key && valOk x then ckMl post else 3) else 1
def ckM (l : List Term) : Int := if l.length ≤ 8 then ckMl l else 4
theorem ckM_ref_loop (l : List Term) (hn : l.length ≤ 8) : ∀ (post : List Term) (i : Nat) (bs : List (List AV)) (hd : l.drop i = post) (T : Env) (hT : Has T [(0, .sl .sh (l.map encM)), (3, .int .i64 i)]),
    Goes cfg a127 k127_0 T ⟨bs, [], []⟩ (IsRet (.int .i64 (ckMl post))) := by
  intro post
  induction post with
  | nil =>
    intro i bs hd T hT
    have hge := drop_ge hd
    exact goG 60 _  hT  (.len (show lenA false (AV.sl SK.sh (List.map encM l)) = some (AV.int IntKind.i64 (↑l.length : Int)) from len_map _) <| .no (show (decide ((↑i : Int) < (↑l.length : Int))) = false from decide_eq_false (show ¬ ((↑i : Int) < (↑l.length : Int)) from (by omega))) <| .fin ((ARes.ret (AV.int IntKind.i64 (0 : Int)), { boxes := bs, toks := [], loops := [] : Heap })) rfl) (by kernel_rfl)
  | cons x post ih =>
    intro i bs hd T hT
    have hlt := drop_lt hd
    have hnx := drop_next hd
    exact goG 60 _  hT  (.len (show lenA false (AV.sl SK.sh (List.map encM l)) = some (AV.int IntKind.i64 (↑l.length : Int)) from len_map _) <| .yes (show (decide ((↑i : Int) < (↑l.length : Int))) = true from decide_eq_true (show (↑i : Int) < (↑l.length : Int) from (by omega))) <| .idx (show idxA (3 : Nat) (AV.sl SK.sh (List.map encM l)) (AV.int IntKind.i64 (↑i : Int)) = some (AV.ref (encM x).cells) from idx_row hd (by rfl)) <| .load (show loadA true (3 : Nat) { boxes := bs, toks := [], loops := [] : Heap } (AV.ref [AV.int IntKind.i64 x.op, AV.str x.key, AV.str x.val]) = some (AV.agg [AV.int IntKind.i64 x.op, AV.str x.key, AV.str x.val]) from rfl) <| .store (show storeA (3 : Nat) { boxes := bs ++ [[AV.int IntKind.i64 (0 : Int), AV.str [], AV.str []]], toks := [], loops := [] : Heap } (AV.ptr bs.length (0 : Nat)) (AV.agg [AV.int IntKind.i64 x.op, AV.str x.key, AV.str x.val]) = some ({ boxes := bs ++ [[AV.int IntKind.i64 x.op, AV.str x.key, AV.str x.val]], toks := [], loops := [] : Heap }) from store_box2 (cs := [AV.int IntKind.i64 (0 : Int), AV.str [], AV.str []]) (cs' := [AV.int IntKind.i64 x.op, AV.str x.key, AV.str x.val]) (by simp) rfl (by simp [List.set_append])) <| .load (show loadA false (1 : Nat) { boxes := bs ++ [[AV.int IntKind.i64 x.op, AV.str x.key, AV.str x.val]], toks := [], loops := [] : Heap } (AV.ptr bs.length (0 : Nat)) = some (AV.int IntKind.i64 x.op) from load_box (cs := [AV.int IntKind.i64 x.op, AV.str x.key, AV.str x.val]) (by simp) rfl) <| .split (x.op < (1 : Int)) (fun h1 => .yes (show (decide (x.op < (1 : Int))) = true from decide_eq_true (show x.op < (1 : Int) from h1)) <| .tt <| .fin ((ARes.ret (AV.int IntKind.i64 (1 : Int)), { boxes := bs ++ [[AV.int IntKind.i64 x.op, AV.str x.key, AV.str x.val]], toks := [], loops := [] : Heap })) (by simp only [IsRet]; grind [ckMl, valOk])) (fun h1 => .no (show (decide (x.op < (1 : Int))) = false from decide_eq_false (show ¬ (x.op < (1 : Int)) from h1)) <| .load (show loadA false (1 : Nat) { boxes := bs ++ [[AV.int IntKind.i64 x.op, AV.str x.key, AV.str x.val]], toks := [], loops := [] : Heap } (AV.ptr bs.length (0 : Nat)) = some (AV.int IntKind.i64 x.op) from load_box (cs := [AV.int IntKind.i64 x.op, AV.str x.key, AV.str x.val]) (by simp) rfl) <| .split ((4 : Int) < x.op) (fun h2 => .yes (show (decide ((4 : Int) < x.op)) = true from decide_eq_true (show (4 : Int) < x.op from h2)) <| .fin ((ARes.ret (AV.int IntKind.i64 (1 : Int)), { boxes := bs ++ [[AV.int IntKind.i64 x.op, AV.str x.key, AV.str x.val]], toks := [], loops := [] : Heap })) (by simp only [IsRet]; grind [ckMl, valOk])) (fun h2 => .no (show (decide ((4 : Int) < x.op)) = false from decide_eq_false (show ¬ ((4 : Int) < x.op) from h2)) <| .load (show loadA false (1 : Nat) { boxes := bs ++ [[AV.int IntKind.i64 x.op, AV.str x.key, AV.str x.val]], toks := [], loops := [] : Heap } (AV.ptr bs.length (1 : Nat)) = some (AV.str x.key) from load_box (cs := [AV.int IntKind.i64 x.op, AV.str x.key, AV.str x.val]) (by simp) rfl) <| .callG ([AV.str x.key]) (AV.bool (isName x.key)) (show Gives cfg (76 : FuncId) [AV.str x.key] (AV.bool (isName x.key)) from name_any _) ⟨rfl, rfl⟩ ⟨rfl, rfl⟩ <| .split (isName x.key = true) (fun h3 => .no (show (!isName x.key) = false from by have hh : isName x.key = true := h3; simp [hh]) <| .load (show loadA false (1 : Nat) { boxes := bs ++ [[AV.int IntKind.i64 x.op, AV.str x.key, AV.str x.val]], toks := [], loops := [] : Heap } (AV.ptr bs.length (0 : Nat)) = some (AV.int IntKind.i64 x.op) from load_box (cs := [AV.int IntKind.i64 x.op, AV.str x.key, AV.str x.val]) (by simp) rfl) <| .split (x.op ≤ (2 : Int)) (fun h4 => .yes (show (decide (x.op ≤ (2 : Int))) = true from decide_eq_true (show x.op ≤ (2 : Int) from h4)) <| .load (show loadA false (1 : Nat) { boxes := bs ++ [[AV.int IntKind.i64 x.op, AV.str x.key, AV.str x.val]], toks := [], loops := [] : Heap } (AV.ptr bs.length (2 : Nat)) = some (AV.str x.val) from load_box (cs := [AV.int IntKind.i64 x.op, AV.str x.key, AV.str x.val]) (by simp) rfl) <| .callG ([AV.str x.val]) (AV.bool (isName x.val)) (show Gives cfg (76 : FuncId) [AV.str x.val] (AV.bool (isName x.val)) from name_any _) ⟨rfl, rfl⟩ ⟨rfl, rfl⟩ <| .split (isName x.val = true) (fun h5 => .no (show (!isName x.val) = false from by have hh : isName x.val = true := h5; simp [hh]) <| .load (show loadA false (1 : Nat) { boxes := bs ++ [[AV.int IntKind.i64 x.op, AV.str x.key, AV.str x.val]], toks := [], loops := [] : Heap } (AV.ptr bs.length (0 : Nat)) = some (AV.int IntKind.i64 x.op) from load_box (cs := [AV.int IntKind.i64 x.op, AV.str x.key, AV.str x.val]) (by simp) rfl) <| .no (show (decide ((3 : Int) ≤ x.op)) = false from decide_eq_false (show ¬ ((3 : Int) ≤ x.op) from (by omega))) <| .ff <| .bin (show binA BinOp.add (AV.int IntKind.i64 (↑i : Int)) (AV.int IntKind.i64 (1 : Int)) = some (AV.int IntKind.i64 (↑(i + (1 : Nat)) : Int)) from inc_i (by omega)) <| .cutQ k127_0 [(0, AV.sl SK.sh (List.map encM l)), (3, AV.int IntKind.i64 (↑(i + (1 : Nat)) : Int))] ({ boxes := bs ++ [[AV.int IntKind.i64 x.op, AV.str x.key, AV.str x.val]], toks := [], loops := [] : Heap }) (fun T hT => (ih (i + (1 : Nat)) (bs ++ [[AV.int IntKind.i64 x.op, AV.str x.key, AV.str x.val]]) hnx T hT).to (by grind [ckMl, valOk]))) (fun h5 => .yes (show (!isName x.val) = true from by have hh : ¬ (isName x.val = true) := h5; simp [hh]) <| .tt <| .fin ((ARes.ret (AV.int IntKind.i64 (3 : Int)), { boxes := bs ++ [[AV.int IntKind.i64 x.op, AV.str x.key, AV.str x.val]], toks := [], loops := [] : Heap })) (by simp only [IsRet]; grind [ckMl, valOk]))) (fun h4 => .no (show (decide (x.op ≤ (2 : Int))) = false from decide_eq_false (show ¬ (x.op ≤ (2 : Int)) from h4)) <| .ff <| .load (show loadA false (1 : Nat) { boxes := bs ++ [[AV.int IntKind.i64 x.op, AV.str x.key, AV.str x.val]], toks := [], loops := [] : Heap } (AV.ptr bs.length (0 : Nat)) = some (AV.int IntKind.i64 x.op) from load_box (cs := [AV.int IntKind.i64 x.op, AV.str x.key, AV.str x.val]) (by simp) rfl) <| .yes (show (decide ((3 : Int) ≤ x.op)) = true from decide_eq_true (show (3 : Int) ≤ x.op from (by omega))) <| .load (show loadA false (1 : Nat) { boxes := bs ++ [[AV.int IntKind.i64 x.op, AV.str x.key, AV.str x.val]], toks := [], loops := [] : Heap } (AV.ptr bs.length (2 : Nat)) = some (AV.str x.val) from load_box (cs := [AV.int IntKind.i64 x.op, AV.str x.key, AV.str x.val]) (by simp) rfl) <| .split ((x.val == []) = true) (fun h5 => .no (show (!x.val == []) = false from by have hh : (x.val == []) = true := h5; simp [hh]) <| .bin (show binA BinOp.add (AV.int IntKind.i64 (↑i : Int)) (AV.int IntKind.i64 (1 : Int)) = some (AV.int IntKind.i64 (↑(i + (1 : Nat)) : Int)) from inc_i (by omega)) <| .cutQ k127_0 [(0, AV.sl SK.sh (List.map encM l)), (3, AV.int IntKind.i64 (↑(i + (1 : Nat)) : Int))] ({ boxes := bs ++ [[AV.int IntKind.i64 x.op, AV.str x.key, AV.str x.val]], toks := [], loops := [] : Heap }) (fun T hT => (ih (i + (1 : Nat)) (bs ++ [[AV.int IntKind.i64 x.op, AV.str x.key, AV.str x.val]]) hnx T hT).to (by grind [ckMl, valOk]))) (fun h5 => .yes (show (!x.val == []) = true from by have hh : ¬ ((x.val == []) = true) := h5; simp [hh]) <| .fin ((ARes.ret (AV.int IntKind.i64 (3 : Int)), { boxes := bs ++ [[AV.int IntKind.i64 x.op, AV.str x.key, AV.str x.val]], toks := [], loops := [] : Heap })) (by simp only [IsRet]; grind [ckMl, valOk])))) (fun h3 => .yes (show (!isName x.key) = true from by have hh : ¬ (isName x.key = true) := h3; simp [hh]) <| .tt <| .tt <| .fin ((ARes.ret (AV.int IntKind.i64 (3 : Int)), { boxes := bs ++ [[AV.int IntKind.i64 x.op, AV.str x.key, AV.str x.val]], toks := [], loops := [] : Heap })) (by simp only [IsRet]; grind [ckMl, valOk]))))) (by kernel_rfl)
theorem ckM_ref (l : List Term) : Gives cfg 127 [.sl .sh (l.map encM)] (.int .i64 (ckM l)) := by
  refine Gives.run (l127 _ _) ?_
  have h := fun hn => ckM_ref_loop l hn l 0 [] rfl
  exact goG 60 []  trivial  (.len (show lenA false (AV.sl SK.sh (List.map encM l)) = some (AV.int IntKind.i64 (↑l.length : Int)) from len_map _) <| .split ((8 : Int) < (↑l.length : Int)) (fun h1 => .yes (show (decide ((8 : Int) < (↑l.length : Int))) = true from decide_eq_true (show (8 : Int) < (↑l.length : Int) from h1)) <| .fin ((ARes.ret (AV.int IntKind.i64 (4 : Int)), { boxes := [], toks := [], loops := [] : Heap })) (by simp only [IsRet]; grind [ckM])) (fun h1 => .no (show (decide ((8 : Int) < (↑l.length : Int))) = false from decide_eq_false (show ¬ ((8 : Int) < (↑l.length : Int)) from h1)) <| .cutQ k127_0 [(0, AV.sl SK.sh (List.map encM l)), (3, AV.int IntKind.i64 (0 : Int))] ({ boxes := [], toks := [], loops := [] : Heap }) (fun T hT => (h (by omega) T hT).to (by grind [ckM])))) (by kernel_rfl)
theorem ckM_loop (l : List Term) (hn : l.length ≤ 8) : ∀ (post : List Term) (i : Nat) (bs : List (List AV)) (hd : l.drop i = post) (T : Env) (hT : Has T [(9, .sl .sh (l.map encM)), (10, .int .i64 l.length), (11, .int .i64 i)]),
    Goes cfg a124 k124_0 T ⟨bs, [], []⟩ (IsRet (.int .i64 (ckMl post))) := by
  intro post
  induction post with
  | nil =>
    intro i bs hd T hT
    have hge := drop_ge hd
    exact goG 60 _  hT  (.no (show (decide ((↑i : Int) < (↑l.length : Int))) = false from decide_eq_false (show ¬ ((↑i : Int) < (↑l.length : Int)) from (by omega))) <| .fin ((ARes.ret (AV.int IntKind.i64 (0 : Int)), { boxes := bs, toks := [], loops := [] : Heap })) rfl) (by kernel_rfl)
  | cons x post ih =>
    intro i bs hd T hT
    have hlt := drop_lt hd
    have hnx := drop_next hd
    exact goG 60 _  hT  (.yes (show (decide ((↑i : Int) < (↑l.length : Int))) = true from decide_eq_true (show (↑i : Int) < (↑l.length : Int) from (by omega))) <| .idx (show idxA (3 : Nat) (AV.sl SK.sh (List.map encM l)) (AV.int IntKind.i64 (↑i : Int)) = some (AV.ref (encM x).cells) from idx_row hd (by rfl)) <| .load (show loadA true (3 : Nat) { boxes := bs, toks := [], loops := [] : Heap } (AV.ref [AV.int IntKind.i64 x.op, AV.str x.key, AV.str x.val]) = some (AV.agg [AV.int IntKind.i64 x.op, AV.str x.key, AV.str x.val]) from rfl) <| .store (show storeA (3 : Nat) { boxes := bs ++ [[AV.int IntKind.i64 (0 : Int), AV.str [], AV.str []]], toks := [], loops := [] : Heap } (AV.ptr bs.length (0 : Nat)) (AV.agg [AV.int IntKind.i64 x.op, AV.str x.key, AV.str x.val]) = some ({ boxes := bs ++ [[AV.int IntKind.i64 x.op, AV.str x.key, AV.str x.val]], toks := [], loops := [] : Heap }) from store_box2 (cs := [AV.int IntKind.i64 (0 : Int), AV.str [], AV.str []]) (cs' := [AV.int IntKind.i64 x.op, AV.str x.key, AV.str x.val]) (by simp) rfl (by simp [List.set_append])) <| .load (show loadA false (1 : Nat) { boxes := bs ++ [[AV.int IntKind.i64 x.op, AV.str x.key, AV.str x.val]], toks := [], loops := [] : Heap } (AV.ptr bs.length (2 : Nat)) = some (AV.str x.val) from load_box (cs := [AV.int IntKind.i64 x.op, AV.str x.key, AV.str x.val]) (by simp) rfl) <| .load (show loadA false (1 : Nat) { boxes := bs ++ [[AV.int IntKind.i64 x.op, AV.str x.key, AV.str x.val]], toks := [], loops := [] : Heap } (AV.ptr bs.length (0 : Nat)) = some (AV.int IntKind.i64 x.op) from load_box (cs := [AV.int IntKind.i64 x.op, AV.str x.key, AV.str x.val]) (by simp) rfl) <| .split ((x.op == (1 : Int)) = true) (fun h1 => .yes (show (x.op == (1 : Int)) = true from h1) <| .yes (show (x.op == (1 : Int)) = true from (by omega)) <| .load (show loadA false (1 : Nat) { boxes := bs ++ [[AV.int IntKind.i64 x.op, AV.str x.key, AV.str x.val]], toks := [], loops := [] : Heap } (AV.ptr bs.length (2 : Nat)) = some (AV.str x.val) from load_box (cs := [AV.int IntKind.i64 x.op, AV.str x.key, AV.str x.val]) (by simp) rfl) <| .callG ([AV.str x.val]) (AV.bool (isName x.val)) (show Gives cfg (143 : FuncId) [AV.str x.val] (AV.bool (isName x.val)) from res_name _) ⟨rfl, rfl⟩ ⟨rfl, rfl⟩ <| .load (show loadA false (1 : Nat) { boxes := bs ++ [[AV.int IntKind.i64 x.op, AV.str x.key, AV.str x.val]], toks := [], loops := [] : Heap } (AV.ptr bs.length (1 : Nat)) = some (AV.str x.key) from load_box (cs := [AV.int IntKind.i64 x.op, AV.str x.key, AV.str x.val]) (by simp) rfl) <| .callG ([AV.str x.key]) (AV.bool (isName x.key)) (show Gives cfg (143 : FuncId) [AV.str x.key] (AV.bool (isName x.key)) from res_name _) ⟨rfl, rfl⟩ ⟨rfl, rfl⟩ <| .split (isName x.key = true) (fun h2 => .no (show (!isName x.key) = false from by have hh : isName x.key = true := h2; simp [hh]) <| .split (isName x.val = true) (fun h3 => .no (show (!isName x.val) = false from by have hh : isName x.val = true := h3; simp [hh]) <| .bin (show binA BinOp.add (AV.int IntKind.i64 (↑i : Int)) (AV.int IntKind.i64 (1 : Int)) = some (AV.int IntKind.i64 (↑(i + (1 : Nat)) : Int)) from inc_i (by omega)) <| .cutQ k124_0 [(9, AV.sl SK.sh (List.map encM l)), (10, AV.int IntKind.i64 (↑l.length : Int)), (11, AV.int IntKind.i64 (↑(i + (1 : Nat)) : Int))] ({ boxes := bs ++ [[AV.int IntKind.i64 x.op, AV.str x.key, AV.str x.val]], toks := [], loops := [] : Heap }) (fun T hT => (ih (i + (1 : Nat)) (bs ++ [[AV.int IntKind.i64 x.op, AV.str x.key, AV.str x.val]]) hnx T hT).to (by grind [ckMl, valOk]))) (fun h3 => .yes (show (!isName x.val) = true from by have hh : ¬ (isName x.val = true) := h3; simp [hh]) <| .fin ((ARes.ret (AV.int IntKind.i64 (3 : Int)), { boxes := bs ++ [[AV.int IntKind.i64 x.op, AV.str x.key, AV.str x.val]], toks := [], loops := [] : Heap })) (by simp only [IsRet]; grind [ckMl, valOk]))) (fun h2 => .yes (show (!isName x.key) = true from by have hh : ¬ (isName x.key = true) := h2; simp [hh]) <| .tt <| .fin ((ARes.ret (AV.int IntKind.i64 (3 : Int)), { boxes := bs ++ [[AV.int IntKind.i64 x.op, AV.str x.key, AV.str x.val]], toks := [], loops := [] : Heap })) (by simp only [IsRet]; grind [ckMl, valOk]))) (fun h1 => .no (show (x.op == (1 : Int)) = false from Bool.eq_false_iff.2 (show ¬ ((x.op == (1 : Int)) = true) from h1)) <| .split ((x.op == (2 : Int)) = true) (fun h2 => .yes (show (x.op == (2 : Int)) = true from h2) <| .load (show loadA false (1 : Nat) { boxes := bs ++ [[AV.int IntKind.i64 x.op, AV.str x.key, AV.str x.val]], toks := [], loops := [] : Heap } (AV.ptr bs.length (2 : Nat)) = some (AV.str x.val) from load_box (cs := [AV.int IntKind.i64 x.op, AV.str x.key, AV.str x.val]) (by simp) rfl) <| .callG ([AV.str x.val]) (AV.bool (isName x.val)) (show Gives cfg (143 : FuncId) [AV.str x.val] (AV.bool (isName x.val)) from res_name _) ⟨rfl, rfl⟩ ⟨rfl, rfl⟩ <| .load (show loadA false (1 : Nat) { boxes := bs ++ [[AV.int IntKind.i64 x.op, AV.str x.key, AV.str x.val]], toks := [], loops := [] : Heap } (AV.ptr bs.length (1 : Nat)) = some (AV.str x.key) from load_box (cs := [AV.int IntKind.i64 x.op, AV.str x.key, AV.str x.val]) (by simp) rfl) <| .callG ([AV.str x.key]) (AV.bool (isName x.key)) (show Gives cfg (143 : FuncId) [AV.str x.key] (AV.bool (isName x.key)) from res_name _) ⟨rfl, rfl⟩ ⟨rfl, rfl⟩ <| .split (isName x.key = true) (fun h3 => .no (show (!isName x.key) = false from by have hh : isName x.key = true := h3; simp [hh]) <| .split (isName x.val = true) (fun h4 => .no (show (!isName x.val) = false from by have hh : isName x.val = true := h4; simp [hh]) <| .bin (show binA BinOp.add (AV.int IntKind.i64 (↑i : Int)) (AV.int IntKind.i64 (1 : Int)) = some (AV.int IntKind.i64 (↑(i + (1 : Nat)) : Int)) from inc_i (by omega)) <| .cutQ k124_0 [(9, AV.sl SK.sh (List.map encM l)), (10, AV.int IntKind.i64 (↑l.length : Int)), (11, AV.int IntKind.i64 (↑(i + (1 : Nat)) : Int))] ({ boxes := bs ++ [[AV.int IntKind.i64 x.op, AV.str x.key, AV.str x.val]], toks := [], loops := [] : Heap }) (fun T hT => (ih (i + (1 : Nat)) (bs ++ [[AV.int IntKind.i64 x.op, AV.str x.key, AV.str x.val]]) hnx T hT).to (by grind [ckMl, valOk]))) (fun h4 => .yes (show (!isName x.val) = true from by have hh : ¬ (isName x.val = true) := h4; simp [hh]) <| .fin ((ARes.ret (AV.int IntKind.i64 (3 : Int)), { boxes := bs ++ [[AV.int IntKind.i64 x.op, AV.str x.key, AV.str x.val]], toks := [], loops := [] : Heap })) (by simp only [IsRet]; grind [ckMl, valOk]))) (fun h3 => .yes (show (!isName x.key) = true from by have hh : ¬ (isName x.key = true) := h3; simp [hh]) <| .tt <| .fin ((ARes.ret (AV.int IntKind.i64 (3 : Int)), { boxes := bs ++ [[AV.int IntKind.i64 x.op, AV.str x.key, AV.str x.val]], toks := [], loops := [] : Heap })) (by simp only [IsRet]; grind [ckMl, valOk]))) (fun h2 => .no (show (x.op == (2 : Int)) = false from Bool.eq_false_iff.2 (show ¬ ((x.op == (2 : Int)) = true) from h2)) <| .split ((x.op == (3 : Int)) = true) (fun h3 => .yes (show (x.op == (3 : Int)) = true from h3) <| .yes (show (x.op == (3 : Int)) = true from (by omega)) <| .load (show loadA false (1 : Nat) { boxes := bs ++ [[AV.int IntKind.i64 x.op, AV.str x.key, AV.str x.val]], toks := [], loops := [] : Heap } (AV.ptr bs.length (1 : Nat)) = some (AV.str x.key) from load_box (cs := [AV.int IntKind.i64 x.op, AV.str x.key, AV.str x.val]) (by simp) rfl) <| .callG ([AV.str x.key]) (AV.bool (isName x.key)) (show Gives cfg (143 : FuncId) [AV.str x.key] (AV.bool (isName x.key)) from res_name _) ⟨rfl, rfl⟩ ⟨rfl, rfl⟩ <| .split (isName x.key = true) (fun h4 => .no (show (!isName x.key) = false from by have hh : isName x.key = true := h4; simp [hh]) <| .split ((x.val == []) = true) (fun h5 => .no (show (!x.val == []) = false from by have hh : (x.val == []) = true := h5; simp [hh]) <| .bin (show binA BinOp.add (AV.int IntKind.i64 (↑i : Int)) (AV.int IntKind.i64 (1 : Int)) = some (AV.int IntKind.i64 (↑(i + (1 : Nat)) : Int)) from inc_i (by omega)) <| .cutQ k124_0 [(9, AV.sl SK.sh (List.map encM l)), (10, AV.int IntKind.i64 (↑l.length : Int)), (11, AV.int IntKind.i64 (↑(i + (1 : Nat)) : Int))] ({ boxes := bs ++ [[AV.int IntKind.i64 x.op, AV.str x.key, AV.str x.val]], toks := [], loops := [] : Heap }) (fun T hT => (ih (i + (1 : Nat)) (bs ++ [[AV.int IntKind.i64 x.op, AV.str x.key, AV.str x.val]]) hnx T hT).to (by grind [ckMl, valOk]))) (fun h5 => .yes (show (!x.val == []) = true from by have hh : ¬ ((x.val == []) = true) := h5; simp [hh]) <| .fin ((ARes.ret (AV.int IntKind.i64 (3 : Int)), { boxes := bs ++ [[AV.int IntKind.i64 x.op, AV.str x.key, AV.str x.val]], toks := [], loops := [] : Heap })) (by simp only [IsRet]; grind [ckMl, valOk]))) (fun h4 => .yes (show (!isName x.key) = true from by have hh : ¬ (isName x.key = true) := h4; simp [hh]) <| .tt <| .fin ((ARes.ret (AV.int IntKind.i64 (3 : Int)), { boxes := bs ++ [[AV.int IntKind.i64 x.op, AV.str x.key, AV.str x.val]], toks := [], loops := [] : Heap })) (by simp only [IsRet]; grind [ckMl, valOk]))) (fun h3 => .no (show (x.op == (3 : Int)) = false from Bool.eq_false_iff.2 (show ¬ ((x.op == (3 : Int)) = true) from h3)) <| .split ((x.op == (4 : Int)) = true) (fun h4 => .yes (show (x.op == (4 : Int)) = true from h4) <| .load (show loadA false (1 : Nat) { boxes := bs ++ [[AV.int IntKind.i64 x.op, AV.str x.key, AV.str x.val]], toks := [], loops := [] : Heap } (AV.ptr bs.length (1 : Nat)) = some (AV.str x.key) from load_box (cs := [AV.int IntKind.i64 x.op, AV.str x.key, AV.str x.val]) (by simp) rfl) <| .callG ([AV.str x.key]) (AV.bool (isName x.key)) (show Gives cfg (143 : FuncId) [AV.str x.key] (AV.bool (isName x.key)) from res_name _) ⟨rfl, rfl⟩ ⟨rfl, rfl⟩ <| .split (isName x.key = true) (fun h5 => .no (show (!isName x.key) = false from by have hh : isName x.key = true := h5; simp [hh]) <| .split ((x.val == []) = true) (fun h6 => .no (show (!x.val == []) = false from by have hh : (x.val == []) = true := h6; simp [hh]) <| .bin (show binA BinOp.add (AV.int IntKind.i64 (↑i : Int)) (AV.int IntKind.i64 (1 : Int)) = some (AV.int IntKind.i64 (↑(i + (1 : Nat)) : Int)) from inc_i (by omega)) <| .cutQ k124_0 [(9, AV.sl SK.sh (List.map encM l)), (10, AV.int IntKind.i64 (↑l.length : Int)), (11, AV.int IntKind.i64 (↑(i + (1 : Nat)) : Int))] ({ boxes := bs ++ [[AV.int IntKind.i64 x.op, AV.str x.key, AV.str x.val]], toks := [], loops := [] : Heap }) (fun T hT => (ih (i + (1 : Nat)) (bs ++ [[AV.int IntKind.i64 x.op, AV.str x.key, AV.str x.val]]) hnx T hT).to (by grind [ckMl, valOk]))) (fun h6 => .yes (show (!x.val == []) = true from by have hh : ¬ ((x.val == []) = true) := h6; simp [hh]) <| .fin ((ARes.ret (AV.int IntKind.i64 (3 : Int)), { boxes := bs ++ [[AV.int IntKind.i64 x.op, AV.str x.key, AV.str x.val]], toks := [], loops := [] : Heap })) (by simp only [IsRet]; grind [ckMl, valOk]))) (fun h5 => .yes (show (!isName x.key) = true from by have hh : ¬ (isName x.key = true) := h5; simp [hh]) <| .tt <| .fin ((ARes.ret (AV.int IntKind.i64 (3 : Int)), { boxes := bs ++ [[AV.int IntKind.i64 x.op, AV.str x.key, AV.str x.val]], toks := [], loops := [] : Heap })) (by simp only [IsRet]; grind [ckMl, valOk]))) (fun h4 => .no (show (x.op == (4 : Int)) = false from Bool.eq_false_iff.2 (show ¬ ((x.op == (4 : Int)) = true) from h4)) <| .fin ((ARes.ret (AV.int IntKind.i64 (1 : Int)), { boxes := bs ++ [[AV.int IntKind.i64 x.op, AV.str x.key, AV.str x.val]], toks := [], loops := [] : Heap })) (by simp only [IsRet]; grind [ckMl, valOk])))))) (by kernel_rfl)
theorem ckM_any (l : List Term) : Gives cfg 124 [.sl .sh (l.map encM)] (.int .i64 (ckM l)) := by
  refine Gives.run (l124 _ _) ?_
  have h := fun hn => ckM_loop l hn l 0 [] rfl
  exact goG 60 []  trivial  (.len (show lenA false (AV.sl SK.sh (List.map encM l)) = some (AV.int IntKind.i64 (↑l.length : Int)) from len_map _) <| .split ((8 : Int) < (↑l.length : Int)) (fun h1 => .yes (show (decide ((8 : Int) < (↑l.length : Int))) = true from decide_eq_true (show (8 : Int) < (↑l.length : Int) from h1)) <| .fin ((ARes.ret (AV.int IntKind.i64 (4 : Int)), { boxes := [], toks := [], loops := [] : Heap })) (by simp only [IsRet]; grind [ckM])) (fun h1 => .no (show (decide ((8 : Int) < (↑l.length : Int))) = false from decide_eq_false (show ¬ ((8 : Int) < (↑l.length : Int)) from h1)) <| .len (show lenA false (AV.sl SK.sh (List.map encM l)) = some (AV.int IntKind.i64 (↑l.length : Int)) from len_map _) <| .cutQ k124_0 [(9, AV.sl SK.sh (List.map encM l)), (10, AV.int IntKind.i64 (↑l.length : Int)), (11, AV.int IntKind.i64 (0 : Int))] ({ boxes := [], toks := [], loops := [] : Heap }) (fun T hT => (h (by omega) T hT).to (by grind [ckM])))) (by kernel_rfl)
end Go.Aa.T

set_option linter.unusedVariables false
set_option linter.unusedSimpArgs false
set_option maxRecDepth 100000
namespace Go.Aa.T
open Go.Aa Go.Proofs



end Go.Aa.T

set_option linter.unusedVariables false
set_option linter.unusedSimpArgs false
set_option maxRecDepth 100000
namespace Go.Aa.T
open Go.Aa Go.Proofs
end Go.Aa.T

set_option linter.unusedVariables false
set_option linter.unusedSimpArgs false
set_option maxRecDepth 100000
namespace Go.Aa.T
open Go.Aa Go.Proofs


def place (s : List Pair) (k : List UInt8) : Nat := (s.takeWhile (fun p => Op.bytesLess p.key k)).length

end Go.Aa.T


set_option linter.unusedVariables false
set_option linter.unusedSimpArgs false
set_option maxRecDepth 100000
namespace Go.Aa.T
open Go.Aa Go.Proofs





end Go.Aa.T

set_option linter.unusedVariables false
set_option linter.unusedSimpArgs false
set_option maxRecDepth 100000
namespace Go.Aa.T
open Go.Aa Go.Proofs



end Go.Aa.T

set_option linter.unusedVariables false
set_option linter.unusedSimpArgs false
set_option maxRecDepth 100000
namespace Go.Aa.T
open Go.Aa Go.Proofs

end Go.Aa.T

set_option linter.unusedVariables false
set_option linter.unusedSimpArgs false
set_option maxRecDepth 100000
namespace Go.Aa.T
open Go.Aa Go.Proofs
def parts (c : UInt8) : List UInt8 → List (List UInt8)
  | [] => [[]]
  | b :: r => if b = c then [] :: parts c r else match parts c r with
    | [] => [[b]]
    | x :: xs => (b :: x) :: xs
section
variable {α : Type} (o0 o1 o2 o3 : α → List AV) (tk : α → List Nat) (rc : LRec) (v : AV) (I : α → Nat → Prop)
def hS (a : α) (rest : List UInt8) : Heap := ⟨[o0 a, o1 a, o2 a, o3 a, [.str rest], [.str [44]], [.int .i64 0]], tk a, [rc]⟩
def hB (a : α) (rest : List UInt8) : Heap := ⟨[o0 a, o1 a, o2 a, o3 a, [.str rest], [.str [44]], [.int .i64 0]], tk a, [{ rc with busy := true }]⟩
end
end Go.Aa.T

set_option linter.unusedVariables false
set_option linter.unusedSimpArgs false
set_option maxRecDepth 100000
namespace Go.Aa.T
open Go.Aa Go.Proofs
def skF {X : Type} : List X → SK
  | [] => .full
  | _ :: _ => .own 0
instance {X : Type} (l : List X) (xs : List AV) : Shut (.sl (skF l) xs) (.sl .sh xs) := ⟨by cases l <;> exact ⟨rfl, rfl⟩⟩
section
variable {X : Type} (enc : X → AV)
def rowF (l : List X) : AV := .sl (skF l) (l.map enc)
instance (l : List X) : Shut (rowF enc l) (.sl .sh (l.map enc)) := ⟨by cases l <;> exact ⟨rfl, rfl⟩⟩
end

section
variable (s0 : List UInt8)
end

section
variable (s0 : List UInt8)
end

section
variable (s0 : List UInt8)
end

section
variable (s0 : List UInt8)
end
end Go.Aa.T

set_option linter.unusedVariables false
set_option linter.unusedSimpArgs false
set_option maxRecDepth 100000
namespace Go.Aa.T
open Go.Aa Go.Proofs

section
variable {H : Heap} {k : Nat} {p : Taint → Bool}
end
theorem ckL2_loop (l : List Tol) (hn : l.length ≤ 8) : ∀ (post : List Tol) (i : Nat) (bs : List (List AV)) (hd : l.drop i = post) (T : Env) (hT : Has T [(8, .sl .sh (l.map encL)), (9, .int .i64 l.length), (10, .int .i64 i)]),
    Goes cfg a125 k125_0 T ⟨bs, [], []⟩ (IsRet (.int .i64 (if post.all okL then 0 else 3))) := by
  intro post
  induction post with
  | nil =>
    intro i bs hd T hT
    have hge := drop_ge hd
    exact goG 60 _  hT  (.no (show (decide ((↑i : Int) < (↑l.length : Int))) = false from decide_eq_false (show ¬ ((↑i : Int) < (↑l.length : Int)) from (by omega))) <| .fin ((ARes.ret (AV.int IntKind.i64 (0 : Int)), { boxes := bs, toks := [], loops := [] : Heap })) rfl) (by kernel_rfl)
  | cons x post ih =>
    intro i bs hd T hT
    have hlt := drop_lt hd
    have hnx := drop_next hd
    have hv : isName [] = false := rfl
    exact goG 60 _  hT  (.yes (show (decide ((↑i : Int) < (↑l.length : Int))) = true from decide_eq_true (show (↑i : Int) < (↑l.length : Int) from (by omega))) <| .idx (show idxA (3 : Nat) (AV.sl SK.sh (List.map encL l)) (AV.int IntKind.i64 (↑i : Int)) = some (AV.ref (encL x).cells) from idx_row hd (by rfl)) <| .load (show loadA true (3 : Nat) { boxes := bs, toks := [], loops := [] : Heap } (AV.ref [AV.str x.key, AV.str x.val, AV.bool x.any]) = some (AV.agg [AV.str x.key, AV.str x.val, AV.bool x.any]) from rfl) <| .store (show storeA (3 : Nat) { boxes := bs ++ [[AV.str [], AV.str [], AV.bool false]], toks := [], loops := [] : Heap } (AV.ptr bs.length (0 : Nat)) (AV.agg [AV.str x.key, AV.str x.val, AV.bool x.any]) = some ({ boxes := bs ++ [[AV.str x.key, AV.str x.val, AV.bool x.any]], toks := [], loops := [] : Heap }) from store_box2 (cs := [AV.str [], AV.str [], AV.bool false]) (cs' := [AV.str x.key, AV.str x.val, AV.bool x.any]) (by simp) rfl (by simp [List.set_append])) <| .load (show loadA false (1 : Nat) { boxes := bs ++ [[AV.str x.key, AV.str x.val, AV.bool x.any]], toks := [], loops := [] : Heap } (AV.ptr bs.length (0 : Nat)) = some (AV.str x.key) from load_box (cs := [AV.str x.key, AV.str x.val, AV.bool x.any]) (by simp) rfl) <| .split ((x.key == []) = true) (fun h1 => .no (show (!x.key == []) = false from by have hh : (x.key == []) = true := h1; simp [hh]) <| .ff <| .load (show loadA false (1 : Nat) { boxes := bs ++ [[AV.str x.key, AV.str x.val, AV.bool x.any]], toks := [], loops := [] : Heap } (AV.ptr bs.length (2 : Nat)) = some (AV.bool x.any) from load_box (cs := [AV.str x.key, AV.str x.val, AV.bool x.any]) (by simp) rfl) <| .load (show loadA false (1 : Nat) { boxes := bs ++ [[AV.str x.key, AV.str x.val, AV.bool x.any]], toks := [], loops := [] : Heap } (AV.ptr bs.length (1 : Nat)) = some (AV.str x.val) from load_box (cs := [AV.str x.key, AV.str x.val, AV.bool x.any]) (by simp) rfl) <| .split ((if true = true then !x.any == (x.val == []) else x.any == (x.val == [])) = true) (fun h2 => .yes (show (if true = true then !x.any == (x.val == []) else x.any == (x.val == [])) = true from h2) <| .tt <| .fin ((ARes.ret (AV.int IntKind.i64 (3 : Int)), { boxes := bs ++ [[AV.str x.key, AV.str x.val, AV.bool x.any]], toks := [], loops := [] : Heap })) (by simp only [IsRet]; grind [okL])) (fun h2 => .no (show (if true = true then !x.any == (x.val == []) else x.any == (x.val == [])) = false from Bool.eq_false_iff.2 (show ¬ ((if true = true then !x.any == (x.val == []) else x.any == (x.val == [])) = true) from h2)) <| .load (show loadA false (1 : Nat) { boxes := bs ++ [[AV.str x.key, AV.str x.val, AV.bool x.any]], toks := [], loops := [] : Heap } (AV.ptr bs.length (2 : Nat)) = some (AV.bool x.any) from load_box (cs := [AV.str x.key, AV.str x.val, AV.bool x.any]) (by simp) rfl) <| .split (x.any = true) (fun h3 => .no (show (!x.any) = false from by have hh : x.any = true := h3; simp [hh]) <| .ff <| .bin (show binA BinOp.add (AV.int IntKind.i64 (↑i : Int)) (AV.int IntKind.i64 (1 : Int)) = some (AV.int IntKind.i64 (↑(i + (1 : Nat)) : Int)) from inc_i (by omega)) <| .cutQ k125_0 [(8, AV.sl SK.sh (List.map encL l)), (9, AV.int IntKind.i64 (↑l.length : Int)), (10, AV.int IntKind.i64 (↑(i + (1 : Nat)) : Int))] ({ boxes := bs ++ [[AV.str x.key, AV.str x.val, AV.bool x.any]], toks := [], loops := [] : Heap }) (fun T hT => (ih (i + (1 : Nat)) (bs ++ [[AV.str x.key, AV.str x.val, AV.bool x.any]]) hnx T hT).to (by grind [okL]))) (fun h3 => .yes (show (!x.any) = true from by have hh : ¬ (x.any = true) := h3; simp [hh]) <| .load (show loadA false (1 : Nat) { boxes := bs ++ [[AV.str x.key, AV.str x.val, AV.bool x.any]], toks := [], loops := [] : Heap } (AV.ptr bs.length (1 : Nat)) = some (AV.str x.val) from load_box (cs := [AV.str x.key, AV.str x.val, AV.bool x.any]) (by simp) rfl) <| .callG ([AV.str x.val]) (AV.bool (isName x.val)) (show Gives cfg (143 : FuncId) [AV.str x.val] (AV.bool (isName x.val)) from res_name _) ⟨rfl, rfl⟩ ⟨rfl, rfl⟩ <| .split (isName x.val = true) (fun h4 => .no (show (!isName x.val) = false from by have hh : isName x.val = true := h4; simp [hh]) <| .bin (show binA BinOp.add (AV.int IntKind.i64 (↑i : Int)) (AV.int IntKind.i64 (1 : Int)) = some (AV.int IntKind.i64 (↑(i + (1 : Nat)) : Int)) from inc_i (by omega)) <| .cutQ k125_0 [(8, AV.sl SK.sh (List.map encL l)), (9, AV.int IntKind.i64 (↑l.length : Int)), (10, AV.int IntKind.i64 (↑(i + (1 : Nat)) : Int))] ({ boxes := bs ++ [[AV.str x.key, AV.str x.val, AV.bool x.any]], toks := [], loops := [] : Heap }) (fun T hT => (ih (i + (1 : Nat)) (bs ++ [[AV.str x.key, AV.str x.val, AV.bool x.any]]) hnx T hT).to (by grind [okL]))) (fun h4 => .yes (show (!isName x.val) = true from by have hh : ¬ (isName x.val = true) := h4; simp [hh]) <| .fin ((ARes.ret (AV.int IntKind.i64 (3 : Int)), { boxes := bs ++ [[AV.str x.key, AV.str x.val, AV.bool x.any]], toks := [], loops := [] : Heap })) (by simp only [IsRet]; grind [okL]))))) (fun h1 => .yes (show (!x.key == []) = true from by have hh : ¬ ((x.key == []) = true) := h1; simp [hh]) <| .load (show loadA false (1 : Nat) { boxes := bs ++ [[AV.str x.key, AV.str x.val, AV.bool x.any]], toks := [], loops := [] : Heap } (AV.ptr bs.length (0 : Nat)) = some (AV.str x.key) from load_box (cs := [AV.str x.key, AV.str x.val, AV.bool x.any]) (by simp) rfl) <| .callG ([AV.str x.key]) (AV.bool (isName x.key)) (show Gives cfg (143 : FuncId) [AV.str x.key] (AV.bool (isName x.key)) from res_name _) ⟨rfl, rfl⟩ ⟨rfl, rfl⟩ <| .split (isName x.key = true) (fun h2 => .no (show (!isName x.key) = false from by have hh : isName x.key = true := h2; simp [hh]) <| .load (show loadA false (1 : Nat) { boxes := bs ++ [[AV.str x.key, AV.str x.val, AV.bool x.any]], toks := [], loops := [] : Heap } (AV.ptr bs.length (2 : Nat)) = some (AV.bool x.any) from load_box (cs := [AV.str x.key, AV.str x.val, AV.bool x.any]) (by simp) rfl) <| .load (show loadA false (1 : Nat) { boxes := bs ++ [[AV.str x.key, AV.str x.val, AV.bool x.any]], toks := [], loops := [] : Heap } (AV.ptr bs.length (1 : Nat)) = some (AV.str x.val) from load_box (cs := [AV.str x.key, AV.str x.val, AV.bool x.any]) (by simp) rfl) <| .split ((if true = true then !x.any == (x.val == []) else x.any == (x.val == [])) = true) (fun h3 => .yes (show (if true = true then !x.any == (x.val == []) else x.any == (x.val == [])) = true from h3) <| .tt <| .fin ((ARes.ret (AV.int IntKind.i64 (3 : Int)), { boxes := bs ++ [[AV.str x.key, AV.str x.val, AV.bool x.any]], toks := [], loops := [] : Heap })) (by simp only [IsRet]; grind [okL])) (fun h3 => .no (show (if true = true then !x.any == (x.val == []) else x.any == (x.val == [])) = false from Bool.eq_false_iff.2 (show ¬ ((if true = true then !x.any == (x.val == []) else x.any == (x.val == [])) = true) from h3)) <| .load (show loadA false (1 : Nat) { boxes := bs ++ [[AV.str x.key, AV.str x.val, AV.bool x.any]], toks := [], loops := [] : Heap } (AV.ptr bs.length (2 : Nat)) = some (AV.bool x.any) from load_box (cs := [AV.str x.key, AV.str x.val, AV.bool x.any]) (by simp) rfl) <| .split (x.any = true) (fun h4 => .no (show (!x.any) = false from by have hh : x.any = true := h4; simp [hh]) <| .ff <| .bin (show binA BinOp.add (AV.int IntKind.i64 (↑i : Int)) (AV.int IntKind.i64 (1 : Int)) = some (AV.int IntKind.i64 (↑(i + (1 : Nat)) : Int)) from inc_i (by omega)) <| .cutQ k125_0 [(8, AV.sl SK.sh (List.map encL l)), (9, AV.int IntKind.i64 (↑l.length : Int)), (10, AV.int IntKind.i64 (↑(i + (1 : Nat)) : Int))] ({ boxes := bs ++ [[AV.str x.key, AV.str x.val, AV.bool x.any]], toks := [], loops := [] : Heap }) (fun T hT => (ih (i + (1 : Nat)) (bs ++ [[AV.str x.key, AV.str x.val, AV.bool x.any]]) hnx T hT).to (by grind [okL]))) (fun h4 => .yes (show (!x.any) = true from by have hh : ¬ (x.any = true) := h4; simp [hh]) <| .load (show loadA false (1 : Nat) { boxes := bs ++ [[AV.str x.key, AV.str x.val, AV.bool x.any]], toks := [], loops := [] : Heap } (AV.ptr bs.length (1 : Nat)) = some (AV.str x.val) from load_box (cs := [AV.str x.key, AV.str x.val, AV.bool x.any]) (by simp) rfl) <| .callG ([AV.str x.val]) (AV.bool (isName x.val)) (show Gives cfg (143 : FuncId) [AV.str x.val] (AV.bool (isName x.val)) from res_name _) ⟨rfl, rfl⟩ ⟨rfl, rfl⟩ <| .split (isName x.val = true) (fun h5 => .no (show (!isName x.val) = false from by have hh : isName x.val = true := h5; simp [hh]) <| .bin (show binA BinOp.add (AV.int IntKind.i64 (↑i : Int)) (AV.int IntKind.i64 (1 : Int)) = some (AV.int IntKind.i64 (↑(i + (1 : Nat)) : Int)) from inc_i (by omega)) <| .cutQ k125_0 [(8, AV.sl SK.sh (List.map encL l)), (9, AV.int IntKind.i64 (↑l.length : Int)), (10, AV.int IntKind.i64 (↑(i + (1 : Nat)) : Int))] ({ boxes := bs ++ [[AV.str x.key, AV.str x.val, AV.bool x.any]], toks := [], loops := [] : Heap }) (fun T hT => (ih (i + (1 : Nat)) (bs ++ [[AV.str x.key, AV.str x.val, AV.bool x.any]]) hnx T hT).to (by grind [okL]))) (fun h5 => .yes (show (!isName x.val) = true from by have hh : ¬ (isName x.val = true) := h5; simp [hh]) <| .fin ((ARes.ret (AV.int IntKind.i64 (3 : Int)), { boxes := bs ++ [[AV.str x.key, AV.str x.val, AV.bool x.any]], toks := [], loops := [] : Heap })) (by simp only [IsRet]; grind [okL]))))) (fun h2 => .yes (show (!isName x.key) = true from by have hh : ¬ (isName x.key = true) := h2; simp [hh]) <| .tt <| .tt <| .fin ((ARes.ret (AV.int IntKind.i64 (3 : Int)), { boxes := bs ++ [[AV.str x.key, AV.str x.val, AV.bool x.any]], toks := [], loops := [] : Heap })) (by simp only [IsRet]; grind [okL])))) (by kernel_rfl)
theorem ckL2 (l : List Tol) : Gives cfg 125 [.sl .sh (l.map encL)] (.int .i64 (ckL l)) := by
  refine Gives.run (l125 _ _) ?_
  have h := fun hn => ckL2_loop l hn l 0 [] rfl
  exact goG 60 []  trivial  (.len (show lenA false (AV.sl SK.sh (List.map encL l)) = some (AV.int IntKind.i64 (↑l.length : Int)) from len_map _) <| .split ((8 : Int) < (↑l.length : Int)) (fun h1 => .yes (show (decide ((8 : Int) < (↑l.length : Int))) = true from decide_eq_true (show (8 : Int) < (↑l.length : Int) from h1)) <| .fin ((ARes.ret (AV.int IntKind.i64 (4 : Int)), { boxes := [], toks := [], loops := [] : Heap })) (by simp only [IsRet]; grind [ckL])) (fun h1 => .no (show (decide ((8 : Int) < (↑l.length : Int))) = false from decide_eq_false (show ¬ ((8 : Int) < (↑l.length : Int)) from h1)) <| .len (show lenA false (AV.sl SK.sh (List.map encL l)) = some (AV.int IntKind.i64 (↑l.length : Int)) from len_map _) <| .cutQ k125_0 [(8, AV.sl SK.sh (List.map encL l)), (9, AV.int IntKind.i64 (↑l.length : Int)), (10, AV.int IntKind.i64 (0 : Int))] ({ boxes := [], toks := [], loops := [] : Heap }) (fun T hT => (h (by omega) T hT).to (by grind [ckL])))) (by kernel_rfl)


end Go.Aa.T

set_option linter.unusedVariables false
set_option linter.unusedSimpArgs false
set_option maxRecDepth 100000
namespace Go.Aa.T
open Go.Aa Go.Proofs



end Go.Aa.T

set_option linter.unusedVariables false
set_option linter.unusedSimpArgs false
set_option maxRecDepth 100000
namespace Go.Aa.T
open Go.Aa Go.Proofs
section
variable {X : Type} {pf : List UInt8 → Option X} {text : X → List UInt8} {ck : List X → Int}
end

end Go.Aa.T

set_option linter.unusedVariables false
set_option linter.unusedSimpArgs false
set_option maxRecDepth 100000
namespace Go.Aa.T
open Go.Aa Go.Proofs

end Go.Aa.T

set_option linter.unusedVariables false
set_option linter.unusedSimpArgs false
set_option maxRecDepth 100000
namespace Go.Aa.T
open Go.Aa Go.Proofs

end Go.Aa.T

set_option linter.unusedVariables false
set_option linter.unusedSimpArgs false
set_option maxRecDepth 100000
namespace Go.Aa.T
open Go.Aa Go.Proofs


end Go.Aa.T

set_option linter.unusedVariables false
set_option linter.unusedSimpArgs false
set_option maxRecDepth 100000
namespace Go.Aa.T
open Go.Aa Go.Proofs

end Go.Aa.T

set_option linter.unusedVariables false
set_option linter.unusedSimpArgs false
set_option maxRecDepth 100000
namespace Go.Aa.T
open Go.Aa Go.Proofs
structure Amount where
  name : List UInt8
  n : Int
def encA (x : Amount) : AV := .agg [.str x.name, .int .i64 x.n]
instance (x : Amount) : Dat (encA x) := ⟨rfl, rfl⟩
def ordV (s : List Amount) (i : Nat) (x : Amount) : Bool := match i with
  | 0 => false
  | j + 1 => match s[j]? with
    | some p => Op.bytesLess x.name p.name || x.name == p.name
    | none => false
def ckVl (s : List Amount) : Nat → List Amount → Int
  | _, [] => 0
  | i, x :: post => if isName x.name then (if x.n ≤ 0 then 1 else if ordV s i x then 13 else ckVl s (i + 1) post) else 3
def ckV (s : List Amount) : Int := if s.length ≤ 8 then ckVl s 0 s else 4
theorem ckV_ref_loop (l : List Amount) (hn : l.length ≤ 8) : ∀ (post : List Amount) (i : Nat) (hd : l.drop i = post) (T : Env) (hT : Has T [(0, .sl .sh (l.map encA)), (3, .int .i64 i)]),
    Goes cfg a77 k77_0 T Heap.nil (IsRet (.int .i64 (ckVl l i post))) := by
  intro post
  induction post with
  | nil =>
    intro i hd T hT
    have hge := drop_ge hd
    exact goG 60 _  hT  (.len (show lenA false (AV.sl SK.sh (List.map encA l)) = some (AV.int IntKind.i64 (↑l.length : Int)) from len_map _) <| .no (show (decide ((↑i : Int) < (↑l.length : Int))) = false from decide_eq_false (show ¬ ((↑i : Int) < (↑l.length : Int)) from (by omega))) <| .fin ((ARes.ret (AV.int IntKind.i64 (0 : Int)), { boxes := [], toks := [], loops := [] : Heap })) rfl) (by kernel_rfl)
  | cons x post ih =>
    intro i hd T hT
    have hlt := drop_lt hd
    have hnx := drop_next hd
    cases i with
    | zero => exact goG 60 _  hT  (.len (show lenA false (AV.sl SK.sh (List.map encA l)) = some (AV.int IntKind.i64 (↑l.length : Int)) from len_map _) <| .yes (show (decide ((↑(0 : Nat) : Int) < (↑l.length : Int))) = true from decide_eq_true (show (↑(0 : Nat) : Int) < (↑l.length : Int) from (by omega))) <| .idx (show idxA (2 : Nat) (AV.sl SK.sh (List.map encA l)) (AV.int IntKind.i64 (↑(0 : Nat) : Int)) = some (AV.ref (encA x).cells) from idx_row hd (by rfl)) <| .callG ([AV.str x.name]) (AV.bool (isName x.name)) (show Gives cfg (76 : FuncId) [AV.str x.name] (AV.bool (isName x.name)) from name_any _) ⟨rfl, rfl⟩ ⟨rfl, rfl⟩ <| .split (isName x.name = true) (fun h1 => .no (show (!isName x.name) = false from by have hh : isName x.name = true := h1; simp [hh]) <| .idx (show idxA (2 : Nat) (AV.sl SK.sh (List.map encA l)) (AV.int IntKind.i64 (↑(0 : Nat) : Int)) = some (AV.ref (encA x).cells) from idx_row hd (by rfl)) <| .split (x.n ≤ (0 : Int)) (fun h2 => .yes (show (decide (x.n ≤ (0 : Int))) = true from decide_eq_true (show x.n ≤ (0 : Int) from h2)) <| .fin ((ARes.ret (AV.int IntKind.i64 (1 : Int)), { boxes := [], toks := [], loops := [] : Heap })) (by simp only [IsRet]; grind [ckVl, ordV])) (fun h2 => .no (show (decide (x.n ≤ (0 : Int))) = false from decide_eq_false (show ¬ (x.n ≤ (0 : Int)) from h2)) <| .ff <| .ff <| .bin (show binA BinOp.add (AV.int IntKind.i64 (↑(0 : Nat) : Int)) (AV.int IntKind.i64 (1 : Int)) = some (AV.int IntKind.i64 (↑((0 : Nat) + (1 : Nat)) : Int)) from inc_i (by omega)) <| .cutQ k77_0 [(0, AV.sl SK.sh (List.map encA l)), (3, AV.int IntKind.i64 (↑((0 : Nat) + (1 : Nat)) : Int))] ({ boxes := [], toks := [], loops := [] : Heap }) (fun T hT => (ih ((0 : Nat) + (1 : Nat)) hnx T hT).to (by grind [ckVl, ordV])))) (fun h1 => .yes (show (!isName x.name) = true from by have hh : ¬ (isName x.name = true) := h1; simp [hh]) <| .fin ((ARes.ret (AV.int IntKind.i64 (3 : Int)), { boxes := [], toks := [], loops := [] : Heap })) (by simp only [IsRet]; grind [ckVl, ordV]))) (by kernel_rfl)
    | succ j =>
      obtain ⟨p, hp⟩ : ∃ p, l[j]? = some p := ⟨l[j], List.getElem?_eq_getElem (by omega)⟩
      exact goG 60 _  hT  (.len (show lenA false (AV.sl SK.sh (List.map encA l)) = some (AV.int IntKind.i64 (↑l.length : Int)) from len_map _) <| .yes (show (decide ((↑(j + (1 : Nat)) : Int) < (↑l.length : Int))) = true from decide_eq_true (show (↑(j + (1 : Nat)) : Int) < (↑l.length : Int) from (by omega))) <| .idx (show idxA (2 : Nat) (AV.sl SK.sh (List.map encA l)) (AV.int IntKind.i64 (↑(j + (1 : Nat)) : Int)) = some (AV.ref (encA x).cells) from idx_row hd (by rfl)) <| .callG ([AV.str x.name]) (AV.bool (isName x.name)) (show Gives cfg (76 : FuncId) [AV.str x.name] (AV.bool (isName x.name)) from name_any _) ⟨rfl, rfl⟩ ⟨rfl, rfl⟩ <| .split (isName x.name = true) (fun h1 => .no (show (!isName x.name) = false from by have hh : isName x.name = true := h1; simp [hh]) <| .idx (show idxA (2 : Nat) (AV.sl SK.sh (List.map encA l)) (AV.int IntKind.i64 (↑(j + (1 : Nat)) : Int)) = some (AV.ref (encA x).cells) from idx_row hd (by rfl)) <| .split (x.n ≤ (0 : Int)) (fun h2 => .yes (show (decide (x.n ≤ (0 : Int))) = true from decide_eq_true (show x.n ≤ (0 : Int) from h2)) <| .fin ((ARes.ret (AV.int IntKind.i64 (1 : Int)), { boxes := [], toks := [], loops := [] : Heap })) (by simp only [IsRet]; grind [ckVl, ordV])) (fun h2 => .no (show (decide (x.n ≤ (0 : Int))) = false from decide_eq_false (show ¬ (x.n ≤ (0 : Int)) from h2)) <| .yes (show (decide ((0 : Int) < (↑(j + (1 : Nat)) : Int))) = true from decide_eq_true (show (0 : Int) < (↑(j + (1 : Nat)) : Int) from (by omega))) <| .idx (show idxA (2 : Nat) (AV.sl SK.sh (List.map encA l)) (AV.int IntKind.i64 (↑(j + (1 : Nat)) : Int)) = some (AV.ref (encA x).cells) from idx_row hd (by rfl)) <| .bin (show binA BinOp.sub (AV.int IntKind.i64 (↑(j + (1 : Nat)) : Int)) (AV.int IntKind.i64 (1 : Int)) = some (AV.int IntKind.i64 (↑j : Int)) from dec_i (by omega)) <| .idx (show idxA (2 : Nat) (AV.sl SK.sh (List.map encA l)) (AV.int IntKind.i64 (↑j : Int)) = some (AV.ref (encA p).cells) from idx_get hp (by rfl)) <| .split ((Op.bytesLess x.name p.name || x.name == p.name) = true) (fun h3 => .yes (show (Op.bytesLess x.name p.name || x.name == p.name) = true from h3) <| .fin ((ARes.ret (AV.int IntKind.i64 (13 : Int)), { boxes := [], toks := [], loops := [] : Heap })) (by simp only [IsRet]; grind [ckVl, ordV])) (fun h3 => .no (show (Op.bytesLess x.name p.name || x.name == p.name) = false from Bool.eq_false_iff.2 (show ¬ ((Op.bytesLess x.name p.name || x.name == p.name) = true) from h3)) <| .bin (show binA BinOp.add (AV.int IntKind.i64 (↑(j + (1 : Nat)) : Int)) (AV.int IntKind.i64 (1 : Int)) = some (AV.int IntKind.i64 (↑(j + (1 : Nat) + (1 : Nat)) : Int)) from inc_i (by omega)) <| .cutQ k77_0 [(0, AV.sl SK.sh (List.map encA l)), (3, AV.int IntKind.i64 (↑(j + (1 : Nat) + (1 : Nat)) : Int))] ({ boxes := [], toks := [], loops := [] : Heap }) (fun T hT => (ih (j + (1 : Nat) + (1 : Nat)) hnx T hT).to (by grind [ckVl, ordV]))))) (fun h1 => .yes (show (!isName x.name) = true from by have hh : ¬ (isName x.name = true) := h1; simp [hh]) <| .fin ((ARes.ret (AV.int IntKind.i64 (3 : Int)), { boxes := [], toks := [], loops := [] : Heap })) (by simp only [IsRet]; grind [ckVl, ordV]))) (by kernel_rfl)
theorem ckV_ref (l : List Amount) : Gives cfg 77 [.sl .sh (l.map encA)] (.int .i64 (ckV l)) := by
  refine Gives.run (l77 _ _) ?_
  have h := fun hn => ckV_ref_loop l hn l 0 rfl
  exact goG 60 []  trivial  (.len (show lenA false (AV.sl SK.sh (List.map encA l)) = some (AV.int IntKind.i64 (↑l.length : Int)) from len_map _) <| .split ((8 : Int) < (↑l.length : Int)) (fun h1 => .yes (show (decide ((8 : Int) < (↑l.length : Int))) = true from decide_eq_true (show (8 : Int) < (↑l.length : Int) from h1)) <| .fin ((ARes.ret (AV.int IntKind.i64 (4 : Int)), { boxes := [], toks := [], loops := [] : Heap })) (by simp only [IsRet]; grind [ckV])) (fun h1 => .no (show (decide ((8 : Int) < (↑l.length : Int))) = false from decide_eq_false (show ¬ ((8 : Int) < (↑l.length : Int)) from h1)) <| .cutQ k77_0 [(0, AV.sl SK.sh (List.map encA l)), (3, AV.int IntKind.i64 (0 : Int))] ({ boxes := [], toks := [], loops := [] : Heap }) (fun T hT => (h (by omega) T hT).to (by grind [ckV])))) (by kernel_rfl)
theorem ckV_loop (l : List Amount) (hn : l.length ≤ 8) : ∀ (post : List Amount) (i : Nat) (bs : List (List AV)) (hd : l.drop i = post) (T : Env) (hT : Has T [(0, .sl .sh (l.map encA)), (8, .sl .sh (l.map encA)), (9, .int .i64 l.length), (10, .int .i64 i)]),
    Goes cfg a82 k82_0 T ⟨bs, [], []⟩ (IsRet (.int .i64 (ckVl l i post))) := by
  intro post
  induction post with
  | nil =>
    intro i bs hd T hT
    have hge := drop_ge hd
    exact goG 60 _  hT  (.no (show (decide ((↑i : Int) < (↑l.length : Int))) = false from decide_eq_false (show ¬ ((↑i : Int) < (↑l.length : Int)) from (by omega))) <| .fin ((ARes.ret (AV.int IntKind.i64 (0 : Int)), { boxes := bs, toks := [], loops := [] : Heap })) rfl) (by kernel_rfl)
  | cons x post ih =>
    intro i bs hd T hT
    have hlt := drop_lt hd
    have hnx := drop_next hd
    cases i with
    | zero => exact goG 60 _  hT  (.yes (show (decide ((↑(0 : Nat) : Int) < (↑l.length : Int))) = true from decide_eq_true (show (↑(0 : Nat) : Int) < (↑l.length : Int) from (by omega))) <| .idx (show idxA (2 : Nat) (AV.sl SK.sh (List.map encA l)) (AV.int IntKind.i64 (↑(0 : Nat) : Int)) = some (AV.ref (encA x).cells) from idx_row hd (by rfl)) <| .load (show loadA true (2 : Nat) { boxes := bs, toks := [], loops := [] : Heap } (AV.ref [AV.str x.name, AV.int IntKind.i64 x.n]) = some (AV.agg [AV.str x.name, AV.int IntKind.i64 x.n]) from rfl) <| .store (show storeA (2 : Nat) { boxes := bs ++ [[AV.str [], AV.int IntKind.i64 (0 : Int)]], toks := [], loops := [] : Heap } (AV.ptr bs.length (0 : Nat)) (AV.agg [AV.str x.name, AV.int IntKind.i64 x.n]) = some ({ boxes := bs ++ [[AV.str x.name, AV.int IntKind.i64 x.n]], toks := [], loops := [] : Heap }) from store_box2 (cs := [AV.str [], AV.int IntKind.i64 (0 : Int)]) (cs' := [AV.str x.name, AV.int IntKind.i64 x.n]) (by simp) rfl (by simp [List.set_append])) <| .load (show loadA false (1 : Nat) { boxes := bs ++ [[AV.str x.name, AV.int IntKind.i64 x.n]], toks := [], loops := [] : Heap } (AV.ptr bs.length (0 : Nat)) = some (AV.str x.name) from load_box (cs := [AV.str x.name, AV.int IntKind.i64 x.n]) (by simp) rfl) <| .callG ([AV.str x.name]) (AV.bool (isName x.name)) (show Gives cfg (143 : FuncId) [AV.str x.name] (AV.bool (isName x.name)) from res_name _) ⟨rfl, rfl⟩ ⟨rfl, rfl⟩ <| .split (isName x.name = true) (fun h1 => .no (show (!isName x.name) = false from by have hh : isName x.name = true := h1; simp [hh]) <| .load (show loadA false (1 : Nat) { boxes := bs ++ [[AV.str x.name, AV.int IntKind.i64 x.n]], toks := [], loops := [] : Heap } (AV.ptr bs.length (1 : Nat)) = some (AV.int IntKind.i64 x.n) from load_box (cs := [AV.str x.name, AV.int IntKind.i64 x.n]) (by simp) rfl) <| .split (x.n ≤ (0 : Int)) (fun h2 => .yes (show (decide (x.n ≤ (0 : Int))) = true from decide_eq_true (show x.n ≤ (0 : Int) from h2)) <| .fin ((ARes.ret (AV.int IntKind.i64 (1 : Int)), { boxes := bs ++ [[AV.str x.name, AV.int IntKind.i64 x.n]], toks := [], loops := [] : Heap })) (by simp only [IsRet]; grind [ckVl, ordV])) (fun h2 => .no (show (decide (x.n ≤ (0 : Int))) = false from decide_eq_false (show ¬ (x.n ≤ (0 : Int)) from h2)) <| .ff <| .ff <| .bin (show binA BinOp.add (AV.int IntKind.i64 (↑(0 : Nat) : Int)) (AV.int IntKind.i64 (1 : Int)) = some (AV.int IntKind.i64 (↑((0 : Nat) + (1 : Nat)) : Int)) from inc_i (by omega)) <| .cutQ k82_0 [(0, AV.sl SK.sh (List.map encA l)), (8, AV.sl SK.sh (List.map encA l)), (9, AV.int IntKind.i64 (↑l.length : Int)), (10, AV.int IntKind.i64 (↑((0 : Nat) + (1 : Nat)) : Int))] ({ boxes := bs ++ [[AV.str x.name, AV.int IntKind.i64 x.n]], toks := [], loops := [] : Heap }) (fun T hT => (ih ((0 : Nat) + (1 : Nat)) (bs ++ [[AV.str x.name, AV.int IntKind.i64 x.n]]) hnx T hT).to (by grind [ckVl, ordV])))) (fun h1 => .yes (show (!isName x.name) = true from by have hh : ¬ (isName x.name = true) := h1; simp [hh]) <| .fin ((ARes.ret (AV.int IntKind.i64 (3 : Int)), { boxes := bs ++ [[AV.str x.name, AV.int IntKind.i64 x.n]], toks := [], loops := [] : Heap })) (by simp only [IsRet]; grind [ckVl, ordV]))) (by kernel_rfl)
    | succ j =>
      obtain ⟨p, hp⟩ : ∃ p, l[j]? = some p := ⟨l[j], List.getElem?_eq_getElem (by omega)⟩
      exact goG 60 _  hT  (.yes (show (decide ((↑(j + (1 : Nat)) : Int) < (↑l.length : Int))) = true from decide_eq_true (show (↑(j + (1 : Nat)) : Int) < (↑l.length : Int) from (by omega))) <| .idx (show idxA (2 : Nat) (AV.sl SK.sh (List.map encA l)) (AV.int IntKind.i64 (↑(j + (1 : Nat)) : Int)) = some (AV.ref (encA x).cells) from idx_row hd (by rfl)) <| .load (show loadA true (2 : Nat) { boxes := bs, toks := [], loops := [] : Heap } (AV.ref [AV.str x.name, AV.int IntKind.i64 x.n]) = some (AV.agg [AV.str x.name, AV.int IntKind.i64 x.n]) from rfl) <| .store (show storeA (2 : Nat) { boxes := bs ++ [[AV.str [], AV.int IntKind.i64 (0 : Int)]], toks := [], loops := [] : Heap } (AV.ptr bs.length (0 : Nat)) (AV.agg [AV.str x.name, AV.int IntKind.i64 x.n]) = some ({ boxes := bs ++ [[AV.str x.name, AV.int IntKind.i64 x.n]], toks := [], loops := [] : Heap }) from store_box2 (cs := [AV.str [], AV.int IntKind.i64 (0 : Int)]) (cs' := [AV.str x.name, AV.int IntKind.i64 x.n]) (by simp) rfl (by simp [List.set_append])) <| .load (show loadA false (1 : Nat) { boxes := bs ++ [[AV.str x.name, AV.int IntKind.i64 x.n]], toks := [], loops := [] : Heap } (AV.ptr bs.length (0 : Nat)) = some (AV.str x.name) from load_box (cs := [AV.str x.name, AV.int IntKind.i64 x.n]) (by simp) rfl) <| .callG ([AV.str x.name]) (AV.bool (isName x.name)) (show Gives cfg (143 : FuncId) [AV.str x.name] (AV.bool (isName x.name)) from res_name _) ⟨rfl, rfl⟩ ⟨rfl, rfl⟩ <| .split (isName x.name = true) (fun h1 => .no (show (!isName x.name) = false from by have hh : isName x.name = true := h1; simp [hh]) <| .load (show loadA false (1 : Nat) { boxes := bs ++ [[AV.str x.name, AV.int IntKind.i64 x.n]], toks := [], loops := [] : Heap } (AV.ptr bs.length (1 : Nat)) = some (AV.int IntKind.i64 x.n) from load_box (cs := [AV.str x.name, AV.int IntKind.i64 x.n]) (by simp) rfl) <| .split (x.n ≤ (0 : Int)) (fun h2 => .yes (show (decide (x.n ≤ (0 : Int))) = true from decide_eq_true (show x.n ≤ (0 : Int) from h2)) <| .fin ((ARes.ret (AV.int IntKind.i64 (1 : Int)), { boxes := bs ++ [[AV.str x.name, AV.int IntKind.i64 x.n]], toks := [], loops := [] : Heap })) (by simp only [IsRet]; grind [ckVl, ordV])) (fun h2 => .no (show (decide (x.n ≤ (0 : Int))) = false from decide_eq_false (show ¬ (x.n ≤ (0 : Int)) from h2)) <| .yes (show (decide ((0 : Int) < (↑(j + (1 : Nat)) : Int))) = true from decide_eq_true (show (0 : Int) < (↑(j + (1 : Nat)) : Int) from (by omega))) <| .load (show loadA false (1 : Nat) { boxes := bs ++ [[AV.str x.name, AV.int IntKind.i64 x.n]], toks := [], loops := [] : Heap } (AV.ptr bs.length (0 : Nat)) = some (AV.str x.name) from load_box (cs := [AV.str x.name, AV.int IntKind.i64 x.n]) (by simp) rfl) <| .bin (show binA BinOp.sub (AV.int IntKind.i64 (↑(j + (1 : Nat)) : Int)) (AV.int IntKind.i64 (1 : Int)) = some (AV.int IntKind.i64 (↑j : Int)) from dec_i (by omega)) <| .idx (show idxA (2 : Nat) (AV.sl SK.sh (List.map encA l)) (AV.int IntKind.i64 (↑j : Int)) = some (AV.ref (encA p).cells) from idx_get hp (by rfl)) <| .load (show loadA false (1 : Nat) { boxes := bs ++ [[AV.str x.name, AV.int IntKind.i64 x.n]], toks := [], loops := [] : Heap } (AV.ref [AV.str p.name]) = some (AV.str p.name) from rfl) <| .split ((Op.bytesLess x.name p.name || x.name == p.name) = true) (fun h3 => .yes (show (Op.bytesLess x.name p.name || x.name == p.name) = true from h3) <| .fin ((ARes.ret (AV.int IntKind.i64 (13 : Int)), { boxes := bs ++ [[AV.str x.name, AV.int IntKind.i64 x.n]], toks := [], loops := [] : Heap })) (by simp only [IsRet]; grind [ckVl, ordV])) (fun h3 => .no (show (Op.bytesLess x.name p.name || x.name == p.name) = false from Bool.eq_false_iff.2 (show ¬ ((Op.bytesLess x.name p.name || x.name == p.name) = true) from h3)) <| .bin (show binA BinOp.add (AV.int IntKind.i64 (↑(j + (1 : Nat)) : Int)) (AV.int IntKind.i64 (1 : Int)) = some (AV.int IntKind.i64 (↑(j + (1 : Nat) + (1 : Nat)) : Int)) from inc_i (by omega)) <| .cutQ k82_0 [(0, AV.sl SK.sh (List.map encA l)), (8, AV.sl SK.sh (List.map encA l)), (9, AV.int IntKind.i64 (↑l.length : Int)), (10, AV.int IntKind.i64 (↑(j + (1 : Nat) + (1 : Nat)) : Int))] ({ boxes := bs ++ [[AV.str x.name, AV.int IntKind.i64 x.n]], toks := [], loops := [] : Heap }) (fun T hT => (ih (j + (1 : Nat) + (1 : Nat)) (bs ++ [[AV.str x.name, AV.int IntKind.i64 x.n]]) hnx T hT).to (by grind [ckVl, ordV]))))) (fun h1 => .yes (show (!isName x.name) = true from by have hh : ¬ (isName x.name = true) := h1; simp [hh]) <| .fin ((ARes.ret (AV.int IntKind.i64 (3 : Int)), { boxes := bs ++ [[AV.str x.name, AV.int IntKind.i64 x.n]], toks := [], loops := [] : Heap })) (by simp only [IsRet]; grind [ckVl, ordV]))) (by kernel_rfl)
theorem ckV_any (l : List Amount) : Gives cfg 82 [.sl .sh (l.map encA)] (.int .i64 (ckV l)) := by
  refine Gives.run (l82 _ _) ?_
  have h := fun hn => ckV_loop l hn l 0 [] rfl
  exact goG 60 []  trivial  (.len (show lenA false (AV.sl SK.sh (List.map encA l)) = some (AV.int IntKind.i64 (↑l.length : Int)) from len_map _) <| .split ((8 : Int) < (↑l.length : Int)) (fun h1 => .yes (show (decide ((8 : Int) < (↑l.length : Int))) = true from decide_eq_true (show (8 : Int) < (↑l.length : Int) from h1)) <| .fin ((ARes.ret (AV.int IntKind.i64 (4 : Int)), { boxes := [], toks := [], loops := [] : Heap })) (by simp only [IsRet]; grind [ckV])) (fun h1 => .no (show (decide ((8 : Int) < (↑l.length : Int))) = false from decide_eq_false (show ¬ ((8 : Int) < (↑l.length : Int)) from h1)) <| .len (show lenA false (AV.sl SK.sh (List.map encA l)) = some (AV.int IntKind.i64 (↑l.length : Int)) from len_map _) <| .cutQ k82_0 [(0, AV.sl SK.sh (List.map encA l)), (8, AV.sl SK.sh (List.map encA l)), (9, AV.int IntKind.i64 (↑l.length : Int)), (10, AV.int IntKind.i64 (0 : Int))] ({ boxes := [], toks := [], loops := [] : Heap }) (fun T hT => (h (by omega) T hT).to (by grind [ckV])))) (by kernel_rfl)
end Go.Aa.T

set_option linter.unusedVariables false
set_option linter.unusedSimpArgs false
set_option maxRecDepth 100000
namespace Go.Aa.T
open Go.Aa Go.Proofs
def encI (x : Int) : AV := .int .i64 x
def firstE : List Int → Int
  | [] => 0
  | x :: r => if x = 0 then firstE r else x
theorem first_loop (l : List Int) (hn : l.length ≤ 100) : ∀ (post : List Int) (i : Nat) (hd : l.drop i = post) (T : Env) (hT : Has T [(5, .sl .sh (l.map encI)), (6, .int .i64 l.length), (7, .int .i64 i)]),
    Goes cfg a80 k80_0 T Heap.nil (IsRet (.int .i64 (firstE post))) := by
  intro post
  induction post with
  | nil =>
    intro i hd T hT
    have hge := drop_ge hd
    exact goG 60 _  hT  (.no (show (decide ((↑i : Int) < (↑l.length : Int))) = false from decide_eq_false (show ¬ ((↑i : Int) < (↑l.length : Int)) from (by omega))) <| .fin ((ARes.ret (AV.int IntKind.i64 (0 : Int)), { boxes := [], toks := [], loops := [] : Heap })) rfl) (by kernel_rfl)
  | cons x post ih =>
    intro i hd T hT
    have hlt := drop_lt hd
    have hnx := drop_next hd
    have hidx : idxA 1 (.sl .sh (l.map encI)) (.int .i64 (i : Nat)) = some (.ref [.int .i64 x]) := idx_row (f := encI) hd rfl
    by_cases h0 : x = 0
    · have e : firstE (x :: post) = firstE post := by simp [firstE, h0]
      rw [e]
      have ih' := ih (i + 1) hnx
      exact goG 60 _  hT  (.yes (show (decide ((↑i : Int) < (↑l.length : Int))) = true from decide_eq_true (show (↑i : Int) < (↑l.length : Int) from (by omega))) <| .idx (show idxA (1 : Nat) (AV.sl SK.sh (List.map encI l)) (AV.int IntKind.i64 (↑i : Int)) = some (AV.ref [AV.int IntKind.i64 x]) from hidx) <| .no (show (x != (0 : Int)) = false from Bool.eq_false_iff.2 (show ¬ ((x != (0 : Int)) = true) from (by simpa using h0))) <| .bin (show binA BinOp.add (AV.int IntKind.i64 (↑i : Int)) (AV.int IntKind.i64 (1 : Int)) = some (AV.int IntKind.i64 (↑(i + (1 : Nat)) : Int)) from inc_i (by omega)) <| .cutQ k80_0 [(5, AV.sl SK.sh (List.map encI l)), (6, AV.int IntKind.i64 (↑l.length : Int)), (7, AV.int IntKind.i64 (↑(i + (1 : Nat)) : Int))] ({ boxes := [], toks := [], loops := [] : Heap }) (fun T hT => (ih' T hT))) (by kernel_rfl)
    · have e : firstE (x :: post) = x := by simp [firstE, h0]
      rw [e]
      exact goG 60 _  hT  (.yes (show (decide ((↑i : Int) < (↑l.length : Int))) = true from decide_eq_true (show (↑i : Int) < (↑l.length : Int) from (by omega))) <| .idx (show idxA (1 : Nat) (AV.sl SK.sh (List.map encI l)) (AV.int IntKind.i64 (↑i : Int)) = some (AV.ref [AV.int IntKind.i64 x]) from hidx) <| .yes (show (x != (0 : Int)) = true from (by simpa using h0)) <| .fin ((ARes.ret (AV.int IntKind.i64 x), { boxes := [], toks := [], loops := [] : Heap })) rfl) (by kernel_rfl)
theorem first_any (l : List Int) (hn : l.length ≤ 100) : Gives cfg 80 [.sl .sh (l.map encI)] (.int .i64 (firstE l)) := by
  refine Gives.run (l80 _ _) ?_
  have h := first_loop l hn l 0 rfl
  exact goG 60 []  trivial  (.len (show lenA false (AV.sl SK.sh (List.map encI l)) = some (AV.int IntKind.i64 (↑l.length : Int)) from len_map _) <| .cutQ k80_0 [(5, AV.sl SK.sh (List.map encI l)), (6, AV.int IntKind.i64 (↑l.length : Int)), (7, AV.int IntKind.i64 (0 : Int))] ({ boxes := [], toks := [], loops := [] : Heap }) (fun T hT => (h T hT))) (by kernel_rfl)
theorem named_any (s : List UInt8) : Gives cfg 81 [.str s] (.int .i64 (if isName s then 0 else 3)) := by
  refine Gives.run (l81 _ _) ?_
  exact goG 60 []  trivial  (.callG ([AV.str s]) (AV.bool (isName s)) (show Gives cfg (143 : FuncId) [AV.str s] (AV.bool (isName s)) from res_name _) ⟨rfl, rfl⟩ ⟨rfl, rfl⟩ <| .split (isName s = true) (fun h1 => .no (show (!isName s) = false from by have hh : isName s = true := h1; simp [hh]) <| .fin ((ARes.ret (AV.int IntKind.i64 (0 : Int)), { boxes := [], toks := [], loops := [] : Heap })) (by simp only [IsRet]; grind)) (fun h1 => .yes (show (!isName s) = true from by have hh : ¬ (isName s = true) := h1; simp [hh]) <| .fin ((ARes.ret (AV.int IntKind.i64 (3 : Int)), { boxes := [], toks := [], loops := [] : Heap })) (by simp only [IsRet]; grind))) (by kernel_rfl)
end Go.Aa.T

set_option linter.unusedVariables false
set_option linter.unusedSimpArgs false
set_option maxRecDepth 100000
namespace Go.Aa.T
open Go.Aa Go.Proofs
structure Node where
  name : List UInt8
  cap : List Amount
  labels : List Pair
  taints : List Taint
  cordon : Bool
def encN (n : Node) : AV := .agg [.str n.name, .sl .sh (n.cap.map encA), .sl .sh (n.labels.map encP), .sl .sh (n.taints.map encT), .bool n.cordon]
end Go.Aa.T

set_option linter.unusedVariables false
set_option linter.unusedSimpArgs false
namespace Go.Aa.T
open Go.Aa
end Go.Aa.T

set_option linter.unusedVariables false
set_option linter.unusedSimpArgs false
set_option maxRecDepth 100000
namespace Go.Aa.T
open Go.Aa Go.Proofs


end Go.Aa.T

set_option linter.unusedVariables false
set_option linter.unusedSimpArgs false
set_option maxRecDepth 100000
namespace Go.Aa.T
open Go.Aa Go.Proofs

def same2 {X : Type} (e : X → X → Bool) : List X → List X → Bool
  | [], [] => true
  | x :: a, y :: b => e x y && same2 e a b
  | _, _ => false
theorem same2_len {X : Type} {e : X → X → Bool} : ∀ {a b : List X}, a.length ≠ b.length → same2 e a b = false
  | [], [], h => absurd rfl h
  | [], _ :: _, _ => rfl
  | _ :: _, [], _ => rfl
  | x :: a, y :: b, h => by
    simp only [List.length_cons, ne_eq, Nat.add_right_cancel_iff] at h
    simp only [same2, same2_len h, Bool.and_false]
theorem same2_iff {X : Type} {e : X → X → Bool} (he : ∀ x y, e x y = true ↔ x = y) : ∀ {a b : List X}, same2 e a b = true ↔ a = b
  | [], [] => by simp [same2]
  | [], _ :: _ => by simp [same2]
  | _ :: _, [] => by simp [same2]
  | x :: a, y :: b => by simp [same2, he, same2_iff he]
def eqA (x y : Amount) : Bool := x.name == y.name && x.n == y.n
def eqP (x y : Pair) : Bool := x.key == y.key && x.val == y.val
def eqM (x y : Term) : Bool := x.op == y.op && (x.key == y.key && x.val == y.val)
def eqL (x y : Tol) : Bool := x.key == y.key && (x.val == y.val && x.any == y.any)
theorem eqA_iff (x y : Amount) : eqA x y = true ↔ x = y := by cases x; cases y; simp [eqA]
theorem eqP_iff (x y : Pair) : eqP x y = true ↔ x = y := by cases x; cases y; simp [eqP]
theorem eqM_iff (x y : Term) : eqM x y = true ↔ x = y := by cases x; cases y; simp [eqM]
theorem eqL_iff (x y : Tol) : eqL x y = true ↔ x = y := by cases x; cases y; simp [eqL]
theorem sameVR_loop (a b : List Amount) (hn : a.length < 9223372036854775807) (he : a.length = b.length) : ∀ (post q : List Amount) (i : Nat) (hd : a.drop i = post) (hq : b.drop i = q) (T : Env) (hT : Has T [(0, .sl .sh (a.map encA)), (1, .sl .sh (b.map encA)), (5, .int .i64 i)]),
    Goes cfg a88 k88_0 T Heap.nil (IsRet (.bool (same2 eqA post q))) := by
  intro post
  induction post with
  | nil =>
    intro q i hd hq T hT
    have hge := drop_ge hd
    have e : q = [] := by rw [← hq]; exact List.drop_eq_nil_of_le (by omega)
    subst e
    exact goG 60 _  hT  (.len (show lenA false (AV.sl SK.sh (List.map encA a)) = some (AV.int IntKind.i64 (↑a.length : Int)) from len_map _) <| .no (show (decide ((↑i : Int) < (↑a.length : Int))) = false from decide_eq_false (show ¬ ((↑i : Int) < (↑a.length : Int)) from (by omega))) <| .fin ((ARes.ret (AV.bool true), { boxes := [], toks := [], loops := [] : Heap })) rfl) (by kernel_rfl)
  | cons x post ih =>
    intro q i hd hq T hT
    have hlt := drop_lt hd
    have hnx := drop_next hd
    cases q with
    | nil => have := drop_ge hq; omega
    | cons y q =>
      have hnq := drop_next hq
      exact goG 60 _  hT  (.len (show lenA false (AV.sl SK.sh (List.map encA a)) = some (AV.int IntKind.i64 (↑a.length : Int)) from len_map _) <| .yes (show (decide ((↑i : Int) < (↑a.length : Int))) = true from decide_eq_true (show (↑i : Int) < (↑a.length : Int) from (by omega))) <| .idx (show idxA (2 : Nat) (AV.sl SK.sh (List.map encA a)) (AV.int IntKind.i64 (↑i : Int)) = some (AV.ref (encA x).cells) from idx_row hd (by rfl)) <| .idx (show idxA (2 : Nat) (AV.sl SK.sh (List.map encA b)) (AV.int IntKind.i64 (↑i : Int)) = some (AV.ref (encA y).cells) from idx_row hq (by rfl)) <| .split ((if true = true then !(x.name == y.name && (x.n == y.n && true)) else x.name == y.name && (x.n == y.n && true)) = true) (fun h1 => .yes (show (if true = true then !(x.name == y.name && (x.n == y.n && true)) else x.name == y.name && (x.n == y.n && true)) = true from h1) <| .fin ((ARes.ret (AV.bool false), { boxes := [], toks := [], loops := [] : Heap })) (by simp only [IsRet]; grind [same2, eqA])) (fun h1 => .no (show (if true = true then !(x.name == y.name && (x.n == y.n && true)) else x.name == y.name && (x.n == y.n && true)) = false from Bool.eq_false_iff.2 (show ¬ ((if true = true then !(x.name == y.name && (x.n == y.n && true)) else x.name == y.name && (x.n == y.n && true)) = true) from h1)) <| .bin (show binA BinOp.add (AV.int IntKind.i64 (↑i : Int)) (AV.int IntKind.i64 (1 : Int)) = some (AV.int IntKind.i64 (↑(i + (1 : Nat)) : Int)) from inc_i (by omega)) <| .cutQ k88_0 [(0, AV.sl SK.sh (List.map encA a)), (1, AV.sl SK.sh (List.map encA b)), (5, AV.int IntKind.i64 (↑(i + (1 : Nat)) : Int))] ({ boxes := [], toks := [], loops := [] : Heap }) (fun T hT => (ih (q) (i + (1 : Nat)) hnx hnq T hT).to (by grind [same2, eqA])))) (by kernel_rfl)
theorem sameVR (a b : List Amount) (hn : a.length < 9223372036854775807) : Gives cfg 88 [.sl .sh (a.map encA), .sl .sh (b.map encA)] (.bool (same2 eqA a b)) := by
  refine Gives.run (l88 _ _) ?_
  by_cases he : a.length = b.length
  · have h := sameVR_loop a b hn he a b 0 rfl rfl
    exact goG 60 []  trivial  (.len (show lenA false (AV.sl SK.sh (List.map encA a)) = some (AV.int IntKind.i64 (↑a.length : Int)) from len_map _) <| .len (show lenA false (AV.sl SK.sh (List.map encA b)) = some (AV.int IntKind.i64 (↑b.length : Int)) from len_map _) <| .no (show ((↑a.length : Int) != (↑b.length : Int)) = false from Bool.eq_false_iff.2 (show ¬ (((↑a.length : Int) != (↑b.length : Int)) = true) from (by simp [he]))) <| .cutQ k88_0 [(0, AV.sl SK.sh (List.map encA a)), (1, AV.sl SK.sh (List.map encA b)), (5, AV.int IntKind.i64 (0 : Int))] ({ boxes := [], toks := [], loops := [] : Heap }) (fun T hT => (h T hT))) (by kernel_rfl)
  · rw [same2_len he]
    exact goG 60 []  trivial  (.len (show lenA false (AV.sl SK.sh (List.map encA a)) = some (AV.int IntKind.i64 (↑a.length : Int)) from len_map _) <| .len (show lenA false (AV.sl SK.sh (List.map encA b)) = some (AV.int IntKind.i64 (↑b.length : Int)) from len_map _) <| .yes (show ((↑a.length : Int) != (↑b.length : Int)) = true from (by simp; omega)) <| .fin ((ARes.ret (AV.bool false), { boxes := [], toks := [], loops := [] : Heap })) rfl) (by kernel_rfl)
theorem samePR_loop (a b : List Pair) (hn : a.length < 9223372036854775807) (he : a.length = b.length) : ∀ (post q : List Pair) (i : Nat) (hd : a.drop i = post) (hq : b.drop i = q) (T : Env) (hT : Has T [(0, .sl .sh (a.map encP)), (1, .sl .sh (b.map encP)), (5, .int .i64 i)]),
    Goes cfg a89 k89_0 T Heap.nil (IsRet (.bool (same2 eqP post q))) := by
  intro post
  induction post with
  | nil =>
    intro q i hd hq T hT
    have hge := drop_ge hd
    have e : q = [] := by rw [← hq]; exact List.drop_eq_nil_of_le (by omega)
    subst e
    exact goG 60 _  hT  (.len (show lenA false (AV.sl SK.sh (List.map encP a)) = some (AV.int IntKind.i64 (↑a.length : Int)) from len_map _) <| .no (show (decide ((↑i : Int) < (↑a.length : Int))) = false from decide_eq_false (show ¬ ((↑i : Int) < (↑a.length : Int)) from (by omega))) <| .fin ((ARes.ret (AV.bool true), { boxes := [], toks := [], loops := [] : Heap })) rfl) (by kernel_rfl)
  | cons x post ih =>
    intro q i hd hq T hT
    have hlt := drop_lt hd
    have hnx := drop_next hd
    cases q with
    | nil => have := drop_ge hq; omega
    | cons y q =>
      have hnq := drop_next hq
      exact goG 60 _  hT  (.len (show lenA false (AV.sl SK.sh (List.map encP a)) = some (AV.int IntKind.i64 (↑a.length : Int)) from len_map _) <| .yes (show (decide ((↑i : Int) < (↑a.length : Int))) = true from decide_eq_true (show (↑i : Int) < (↑a.length : Int) from (by omega))) <| .idx (show idxA (2 : Nat) (AV.sl SK.sh (List.map encP a)) (AV.int IntKind.i64 (↑i : Int)) = some (AV.ref (encP x).cells) from idx_row hd (by rfl)) <| .idx (show idxA (2 : Nat) (AV.sl SK.sh (List.map encP b)) (AV.int IntKind.i64 (↑i : Int)) = some (AV.ref (encP y).cells) from idx_row hq (by rfl)) <| .split ((if true = true then !(x.key == y.key && (x.val == y.val && true)) else x.key == y.key && (x.val == y.val && true)) = true) (fun h1 => .yes (show (if true = true then !(x.key == y.key && (x.val == y.val && true)) else x.key == y.key && (x.val == y.val && true)) = true from h1) <| .fin ((ARes.ret (AV.bool false), { boxes := [], toks := [], loops := [] : Heap })) (by simp only [IsRet]; grind [same2, eqP])) (fun h1 => .no (show (if true = true then !(x.key == y.key && (x.val == y.val && true)) else x.key == y.key && (x.val == y.val && true)) = false from Bool.eq_false_iff.2 (show ¬ ((if true = true then !(x.key == y.key && (x.val == y.val && true)) else x.key == y.key && (x.val == y.val && true)) = true) from h1)) <| .bin (show binA BinOp.add (AV.int IntKind.i64 (↑i : Int)) (AV.int IntKind.i64 (1 : Int)) = some (AV.int IntKind.i64 (↑(i + (1 : Nat)) : Int)) from inc_i (by omega)) <| .cutQ k89_0 [(0, AV.sl SK.sh (List.map encP a)), (1, AV.sl SK.sh (List.map encP b)), (5, AV.int IntKind.i64 (↑(i + (1 : Nat)) : Int))] ({ boxes := [], toks := [], loops := [] : Heap }) (fun T hT => (ih (q) (i + (1 : Nat)) hnx hnq T hT).to (by grind [same2, eqP])))) (by kernel_rfl)
theorem samePR (a b : List Pair) (hn : a.length < 9223372036854775807) : Gives cfg 89 [.sl .sh (a.map encP), .sl .sh (b.map encP)] (.bool (same2 eqP a b)) := by
  refine Gives.run (l89 _ _) ?_
  by_cases he : a.length = b.length
  · have h := samePR_loop a b hn he a b 0 rfl rfl
    exact goG 60 []  trivial  (.len (show lenA false (AV.sl SK.sh (List.map encP a)) = some (AV.int IntKind.i64 (↑a.length : Int)) from len_map _) <| .len (show lenA false (AV.sl SK.sh (List.map encP b)) = some (AV.int IntKind.i64 (↑b.length : Int)) from len_map _) <| .no (show ((↑a.length : Int) != (↑b.length : Int)) = false from Bool.eq_false_iff.2 (show ¬ (((↑a.length : Int) != (↑b.length : Int)) = true) from (by simp [he]))) <| .cutQ k89_0 [(0, AV.sl SK.sh (List.map encP a)), (1, AV.sl SK.sh (List.map encP b)), (5, AV.int IntKind.i64 (0 : Int))] ({ boxes := [], toks := [], loops := [] : Heap }) (fun T hT => (h T hT))) (by kernel_rfl)
  · rw [same2_len he]
    exact goG 60 []  trivial  (.len (show lenA false (AV.sl SK.sh (List.map encP a)) = some (AV.int IntKind.i64 (↑a.length : Int)) from len_map _) <| .len (show lenA false (AV.sl SK.sh (List.map encP b)) = some (AV.int IntKind.i64 (↑b.length : Int)) from len_map _) <| .yes (show ((↑a.length : Int) != (↑b.length : Int)) = true from (by simp; omega)) <| .fin ((ARes.ret (AV.bool false), { boxes := [], toks := [], loops := [] : Heap })) rfl) (by kernel_rfl)
theorem sameMR_loop (a b : List Term) (hn : a.length < 9223372036854775807) (he : a.length = b.length) : ∀ (post q : List Term) (i : Nat) (hd : a.drop i = post) (hq : b.drop i = q) (T : Env) (hT : Has T [(0, .sl .sh (a.map encM)), (1, .sl .sh (b.map encM)), (5, .int .i64 i)]),
    Goes cfg a118 k118_0 T Heap.nil (IsRet (.bool (same2 eqM post q))) := by
  intro post
  induction post with
  | nil =>
    intro q i hd hq T hT
    have hge := drop_ge hd
    have e : q = [] := by rw [← hq]; exact List.drop_eq_nil_of_le (by omega)
    subst e
    exact goG 60 _  hT  (.len (show lenA false (AV.sl SK.sh (List.map encM a)) = some (AV.int IntKind.i64 (↑a.length : Int)) from len_map _) <| .no (show (decide ((↑i : Int) < (↑a.length : Int))) = false from decide_eq_false (show ¬ ((↑i : Int) < (↑a.length : Int)) from (by omega))) <| .fin ((ARes.ret (AV.bool true), { boxes := [], toks := [], loops := [] : Heap })) rfl) (by kernel_rfl)
  | cons x post ih =>
    intro q i hd hq T hT
    have hlt := drop_lt hd
    have hnx := drop_next hd
    cases q with
    | nil => have := drop_ge hq; omega
    | cons y q =>
      have hnq := drop_next hq
      exact goG 60 _  hT  (.len (show lenA false (AV.sl SK.sh (List.map encM a)) = some (AV.int IntKind.i64 (↑a.length : Int)) from len_map _) <| .yes (show (decide ((↑i : Int) < (↑a.length : Int))) = true from decide_eq_true (show (↑i : Int) < (↑a.length : Int) from (by omega))) <| .idx (show idxA (3 : Nat) (AV.sl SK.sh (List.map encM a)) (AV.int IntKind.i64 (↑i : Int)) = some (AV.ref (encM x).cells) from idx_row hd (by rfl)) <| .idx (show idxA (3 : Nat) (AV.sl SK.sh (List.map encM b)) (AV.int IntKind.i64 (↑i : Int)) = some (AV.ref (encM y).cells) from idx_row hq (by rfl)) <| .split ((if true = true then !(x.op == y.op && (x.key == y.key && (x.val == y.val && true))) else x.op == y.op && (x.key == y.key && (x.val == y.val && true))) = true) (fun h1 => .yes (show (if true = true then !(x.op == y.op && (x.key == y.key && (x.val == y.val && true))) else x.op == y.op && (x.key == y.key && (x.val == y.val && true))) = true from h1) <| .fin ((ARes.ret (AV.bool false), { boxes := [], toks := [], loops := [] : Heap })) (by simp only [IsRet]; grind [same2, eqM])) (fun h1 => .no (show (if true = true then !(x.op == y.op && (x.key == y.key && (x.val == y.val && true))) else x.op == y.op && (x.key == y.key && (x.val == y.val && true))) = false from Bool.eq_false_iff.2 (show ¬ ((if true = true then !(x.op == y.op && (x.key == y.key && (x.val == y.val && true))) else x.op == y.op && (x.key == y.key && (x.val == y.val && true))) = true) from h1)) <| .bin (show binA BinOp.add (AV.int IntKind.i64 (↑i : Int)) (AV.int IntKind.i64 (1 : Int)) = some (AV.int IntKind.i64 (↑(i + (1 : Nat)) : Int)) from inc_i (by omega)) <| .cutQ k118_0 [(0, AV.sl SK.sh (List.map encM a)), (1, AV.sl SK.sh (List.map encM b)), (5, AV.int IntKind.i64 (↑(i + (1 : Nat)) : Int))] ({ boxes := [], toks := [], loops := [] : Heap }) (fun T hT => (ih (q) (i + (1 : Nat)) hnx hnq T hT).to (by grind [same2, eqM])))) (by kernel_rfl)
theorem sameMR (a b : List Term) (hn : a.length < 9223372036854775807) : Gives cfg 118 [.sl .sh (a.map encM), .sl .sh (b.map encM)] (.bool (same2 eqM a b)) := by
  refine Gives.run (l118 _ _) ?_
  by_cases he : a.length = b.length
  · have h := sameMR_loop a b hn he a b 0 rfl rfl
    exact goG 60 []  trivial  (.len (show lenA false (AV.sl SK.sh (List.map encM a)) = some (AV.int IntKind.i64 (↑a.length : Int)) from len_map _) <| .len (show lenA false (AV.sl SK.sh (List.map encM b)) = some (AV.int IntKind.i64 (↑b.length : Int)) from len_map _) <| .no (show ((↑a.length : Int) != (↑b.length : Int)) = false from Bool.eq_false_iff.2 (show ¬ (((↑a.length : Int) != (↑b.length : Int)) = true) from (by simp [he]))) <| .cutQ k118_0 [(0, AV.sl SK.sh (List.map encM a)), (1, AV.sl SK.sh (List.map encM b)), (5, AV.int IntKind.i64 (0 : Int))] ({ boxes := [], toks := [], loops := [] : Heap }) (fun T hT => (h T hT))) (by kernel_rfl)
  · rw [same2_len he]
    exact goG 60 []  trivial  (.len (show lenA false (AV.sl SK.sh (List.map encM a)) = some (AV.int IntKind.i64 (↑a.length : Int)) from len_map _) <| .len (show lenA false (AV.sl SK.sh (List.map encM b)) = some (AV.int IntKind.i64 (↑b.length : Int)) from len_map _) <| .yes (show ((↑a.length : Int) != (↑b.length : Int)) = true from (by simp; omega)) <| .fin ((ARes.ret (AV.bool false), { boxes := [], toks := [], loops := [] : Heap })) rfl) (by kernel_rfl)
theorem sameLR_loop (a b : List Tol) (hn : a.length < 9223372036854775807) (he : a.length = b.length) : ∀ (post q : List Tol) (i : Nat) (hd : a.drop i = post) (hq : b.drop i = q) (T : Env) (hT : Has T [(0, .sl .sh (a.map encL)), (1, .sl .sh (b.map encL)), (5, .int .i64 i)]),
    Goes cfg a119 k119_0 T Heap.nil (IsRet (.bool (same2 eqL post q))) := by
  intro post
  induction post with
  | nil =>
    intro q i hd hq T hT
    have hge := drop_ge hd
    have e : q = [] := by rw [← hq]; exact List.drop_eq_nil_of_le (by omega)
    subst e
    exact goG 60 _  hT  (.len (show lenA false (AV.sl SK.sh (List.map encL a)) = some (AV.int IntKind.i64 (↑a.length : Int)) from len_map _) <| .no (show (decide ((↑i : Int) < (↑a.length : Int))) = false from decide_eq_false (show ¬ ((↑i : Int) < (↑a.length : Int)) from (by omega))) <| .fin ((ARes.ret (AV.bool true), { boxes := [], toks := [], loops := [] : Heap })) rfl) (by kernel_rfl)
  | cons x post ih =>
    intro q i hd hq T hT
    have hlt := drop_lt hd
    have hnx := drop_next hd
    cases q with
    | nil => have := drop_ge hq; omega
    | cons y q =>
      have hnq := drop_next hq
      exact goG 60 _  hT  (.len (show lenA false (AV.sl SK.sh (List.map encL a)) = some (AV.int IntKind.i64 (↑a.length : Int)) from len_map _) <| .yes (show (decide ((↑i : Int) < (↑a.length : Int))) = true from decide_eq_true (show (↑i : Int) < (↑a.length : Int) from (by omega))) <| .idx (show idxA (3 : Nat) (AV.sl SK.sh (List.map encL a)) (AV.int IntKind.i64 (↑i : Int)) = some (AV.ref (encL x).cells) from idx_row hd (by rfl)) <| .idx (show idxA (3 : Nat) (AV.sl SK.sh (List.map encL b)) (AV.int IntKind.i64 (↑i : Int)) = some (AV.ref (encL y).cells) from idx_row hq (by rfl)) <| .split ((if true = true then !(x.key == y.key && (x.val == y.val && (x.any == y.any && true))) else x.key == y.key && (x.val == y.val && (x.any == y.any && true))) = true) (fun h1 => .yes (show (if true = true then !(x.key == y.key && (x.val == y.val && (x.any == y.any && true))) else x.key == y.key && (x.val == y.val && (x.any == y.any && true))) = true from h1) <| .fin ((ARes.ret (AV.bool false), { boxes := [], toks := [], loops := [] : Heap })) (by simp only [IsRet]; grind [same2, eqL])) (fun h1 => .no (show (if true = true then !(x.key == y.key && (x.val == y.val && (x.any == y.any && true))) else x.key == y.key && (x.val == y.val && (x.any == y.any && true))) = false from Bool.eq_false_iff.2 (show ¬ ((if true = true then !(x.key == y.key && (x.val == y.val && (x.any == y.any && true))) else x.key == y.key && (x.val == y.val && (x.any == y.any && true))) = true) from h1)) <| .bin (show binA BinOp.add (AV.int IntKind.i64 (↑i : Int)) (AV.int IntKind.i64 (1 : Int)) = some (AV.int IntKind.i64 (↑(i + (1 : Nat)) : Int)) from inc_i (by omega)) <| .cutQ k119_0 [(0, AV.sl SK.sh (List.map encL a)), (1, AV.sl SK.sh (List.map encL b)), (5, AV.int IntKind.i64 (↑(i + (1 : Nat)) : Int))] ({ boxes := [], toks := [], loops := [] : Heap }) (fun T hT => (ih (q) (i + (1 : Nat)) hnx hnq T hT).to (by grind [same2, eqL])))) (by kernel_rfl)
theorem sameLR (a b : List Tol) (hn : a.length < 9223372036854775807) : Gives cfg 119 [.sl .sh (a.map encL), .sl .sh (b.map encL)] (.bool (same2 eqL a b)) := by
  refine Gives.run (l119 _ _) ?_
  by_cases he : a.length = b.length
  · have h := sameLR_loop a b hn he a b 0 rfl rfl
    exact goG 60 []  trivial  (.len (show lenA false (AV.sl SK.sh (List.map encL a)) = some (AV.int IntKind.i64 (↑a.length : Int)) from len_map _) <| .len (show lenA false (AV.sl SK.sh (List.map encL b)) = some (AV.int IntKind.i64 (↑b.length : Int)) from len_map _) <| .no (show ((↑a.length : Int) != (↑b.length : Int)) = false from Bool.eq_false_iff.2 (show ¬ (((↑a.length : Int) != (↑b.length : Int)) = true) from (by simp [he]))) <| .cutQ k119_0 [(0, AV.sl SK.sh (List.map encL a)), (1, AV.sl SK.sh (List.map encL b)), (5, AV.int IntKind.i64 (0 : Int))] ({ boxes := [], toks := [], loops := [] : Heap }) (fun T hT => (h T hT))) (by kernel_rfl)
  · rw [same2_len he]
    exact goG 60 []  trivial  (.len (show lenA false (AV.sl SK.sh (List.map encL a)) = some (AV.int IntKind.i64 (↑a.length : Int)) from len_map _) <| .len (show lenA false (AV.sl SK.sh (List.map encL b)) = some (AV.int IntKind.i64 (↑b.length : Int)) from len_map _) <| .yes (show ((↑a.length : Int) != (↑b.length : Int)) = true from (by simp; omega)) <| .fin ((ARes.ret (AV.bool false), { boxes := [], toks := [], loops := [] : Heap })) rfl) (by kernel_rfl)
end Go.Aa.T

set_option linter.unusedVariables false
set_option linter.unusedSimpArgs false
set_option maxRecDepth 100000
namespace Go.Aa.T
open Go.Aa Go.Proofs
def short1 (x : Amount) : Bool := decide (x.name.length ≤ 50)
def fewA (l : List Amount) : Bool := decide (l.length ≤ 20) && l.all short1
theorem fewA_len {l : List Amount} (h : fewA l = true) : l.length ≤ 20 := by
  simp only [fewA, Bool.and_eq_true, decide_eq_true_eq] at h; exact h.1
theorem fewA_loop (l : List Amount) (hn : l.length ≤ 20) : ∀ (post : List Amount) (i : Nat) (hd : l.drop i = post) (T : Env) (hT : Has T [(0, .sl .sh (l.map encA)), (3, .int .i64 i)]),
    Goes cfg a59 k59_0 T Heap.nil (IsRet (.bool (post.all short1))) := by
  intro post
  induction post with
  | nil =>
    intro i hd T hT
    have hge := drop_ge hd
    exact goG 60 _  hT  (.len (show lenA false (AV.sl SK.sh (List.map encA l)) = some (AV.int IntKind.i64 (↑l.length : Int)) from len_map _) <| .no (show (decide ((↑i : Int) < (↑l.length : Int))) = false from decide_eq_false (show ¬ ((↑i : Int) < (↑l.length : Int)) from (by omega))) <| .fin ((ARes.ret (AV.bool true), { boxes := [], toks := [], loops := [] : Heap })) rfl) (by kernel_rfl)
  | cons x post ih =>
    intro i hd T hT
    have hlt := drop_lt hd
    have hnx := drop_next hd
    exact goG 60 _  hT  (.len (show lenA false (AV.sl SK.sh (List.map encA l)) = some (AV.int IntKind.i64 (↑l.length : Int)) from len_map _) <| .yes (show (decide ((↑i : Int) < (↑l.length : Int))) = true from decide_eq_true (show (↑i : Int) < (↑l.length : Int) from (by omega))) <| .idx (show idxA (2 : Nat) (AV.sl SK.sh (List.map encA l)) (AV.int IntKind.i64 (↑i : Int)) = some (AV.ref (encA x).cells) from idx_row hd (by rfl)) <| .len (show lenA true (AV.str x.name) = some (AV.int IntKind.i64 (↑x.name.length : Int)) from len_str _) <| .split ((50 : Int) < (↑x.name.length : Int)) (fun h1 => .yes (show (decide ((50 : Int) < (↑x.name.length : Int))) = true from decide_eq_true (show (50 : Int) < (↑x.name.length : Int) from h1)) <| .fin ((ARes.ret (AV.bool false), { boxes := [], toks := [], loops := [] : Heap })) (by simp only [IsRet]; grind [short1])) (fun h1 => .no (show (decide ((50 : Int) < (↑x.name.length : Int))) = false from decide_eq_false (show ¬ ((50 : Int) < (↑x.name.length : Int)) from h1)) <| .bin (show binA BinOp.add (AV.int IntKind.i64 (↑i : Int)) (AV.int IntKind.i64 (1 : Int)) = some (AV.int IntKind.i64 (↑(i + (1 : Nat)) : Int)) from inc_i (by omega)) <| .cutQ k59_0 [(0, AV.sl SK.sh (List.map encA l)), (3, AV.int IntKind.i64 (↑(i + (1 : Nat)) : Int))] ({ boxes := [], toks := [], loops := [] : Heap }) (fun T hT => (ih (i + (1 : Nat)) hnx T hT).to (by grind [short1])))) (by kernel_rfl)
theorem fewA_any (l : List Amount) : Gives cfg 59 [.sl .sh (l.map encA)] (.bool (fewA l)) := by
  refine Gives.run (l59 _ _) ?_
  have h := fun hn => fewA_loop l hn l 0 rfl
  exact goG 60 []  trivial  (.len (show lenA false (AV.sl SK.sh (List.map encA l)) = some (AV.int IntKind.i64 (↑l.length : Int)) from len_map _) <| .split ((20 : Int) < (↑l.length : Int)) (fun h1 => .yes (show (decide ((20 : Int) < (↑l.length : Int))) = true from decide_eq_true (show (20 : Int) < (↑l.length : Int) from h1)) <| .fin ((ARes.ret (AV.bool false), { boxes := [], toks := [], loops := [] : Heap })) (by simp only [IsRet]; grind [fewA])) (fun h1 => .no (show (decide ((20 : Int) < (↑l.length : Int))) = false from decide_eq_false (show ¬ ((20 : Int) < (↑l.length : Int)) from h1)) <| .cutQ k59_0 [(0, AV.sl SK.sh (List.map encA l)), (3, AV.int IntKind.i64 (0 : Int))] ({ boxes := [], toks := [], loops := [] : Heap }) (fun T hT => (h (by omega) T hT).to (by grind [fewA])))) (by kernel_rfl)
theorem ofA_loop (l : List Amount) (hn : l.length ≤ 20) : ∀ (post : List Amount) (i : Nat) (acc : List AV) (hd : l.drop i = post) (ha : acc.length = i) (hl : lenOk 2 acc = true) (T : Env) (hT : Has T [(0, .sl .sh (l.map encA)), (3, rowS Heap.nil acc), (4, .int .i64 i)]),
    Goes cfg a73 k73_0 T (rowH Heap.nil acc) (IsRet (rowS Heap.nil (acc ++ post.map encA))) := by
  intro post
  induction post with
  | nil =>
    intro i acc hd ha hl T hT
    have hge := drop_ge hd
    exact goG 60 _  hT  (.len (show lenA false (AV.sl SK.sh (List.map encA l)) = some (AV.int IntKind.i64 (↑l.length : Int)) from len_map _) <| .no (show (decide ((↑i : Int) < (↑l.length : Int))) = false from decide_eq_false (show ¬ ((↑i : Int) < (↑l.length : Int)) from (by omega))) <| .fin ((ARes.ret (setD (setD (setD (setD (setD (setD (updL T [((0 : Nat), AV.sl SK.sh (List.map encA l)), ((3 : Nat), rowS Heap.nil acc), ((4 : Nat), AV.int IntKind.i64 (↑i : Int))]) { dst := some (5 : Nat), op := AOp.mov (Opd.t (4 : Nat)), guard := none, deps := [] : AOper }.dst (ev (updL T [((0 : Nat), AV.sl SK.sh (List.map encA l)), ((3 : Nat), rowS Heap.nil acc), ((4 : Nat), AV.int IntKind.i64 (↑i : Int))]) (Opd.t (4 : Nat)))) { dst := some (6 : Nat), op := AOp.mov (Opd.t (0 : Nat)), guard := none, deps := [] : AOper }.dst (ev (setD (updL T [((0 : Nat), AV.sl SK.sh (List.map encA l)), ((3 : Nat), rowS Heap.nil acc), ((4 : Nat), AV.int IntKind.i64 (↑i : Int))]) { dst := some (5 : Nat), op := AOp.mov (Opd.t (4 : Nat)), guard := none, deps := [] : AOper }.dst (ev (updL T [((0 : Nat), AV.sl SK.sh (List.map encA l)), ((3 : Nat), rowS Heap.nil acc), ((4 : Nat), AV.int IntKind.i64 (↑i : Int))]) (Opd.t (4 : Nat)))) (Opd.t (0 : Nat)))) { dst := some (7 : Nat), op := AOp.len false (Opd.t (6 : Nat)), guard := none, deps := [] : AOper }.dst (AV.int IntKind.i64 (↑l.length : Int))) { dst := some (8 : Nat), op := AOp.bin BinOp.lss (Opd.t (5 : Nat)) (Opd.t (7 : Nat)), guard := none, deps := [] : AOper }.dst (AV.bool (decide ((↑i : Int) < (↑l.length : Int))))) { dst := some (25 : Nat), op := AOp.mov (Opd.t (3 : Nat)), guard := none, deps := [] : AOper }.dst (ev (setD (setD (setD (setD (updL T [((0 : Nat), AV.sl SK.sh (List.map encA l)), ((3 : Nat), rowS Heap.nil acc), ((4 : Nat), AV.int IntKind.i64 (↑i : Int))]) { dst := some (5 : Nat), op := AOp.mov (Opd.t (4 : Nat)), guard := none, deps := [] : AOper }.dst (ev (updL T [((0 : Nat), AV.sl SK.sh (List.map encA l)), ((3 : Nat), rowS Heap.nil acc), ((4 : Nat), AV.int IntKind.i64 (↑i : Int))]) (Opd.t (4 : Nat)))) { dst := some (6 : Nat), op := AOp.mov (Opd.t (0 : Nat)), guard := none, deps := [] : AOper }.dst (ev (setD (updL T [((0 : Nat), AV.sl SK.sh (List.map encA l)), ((3 : Nat), rowS Heap.nil acc), ((4 : Nat), AV.int IntKind.i64 (↑i : Int))]) { dst := some (5 : Nat), op := AOp.mov (Opd.t (4 : Nat)), guard := none, deps := [] : AOper }.dst (ev (updL T [((0 : Nat), AV.sl SK.sh (List.map encA l)), ((3 : Nat), rowS Heap.nil acc), ((4 : Nat), AV.int IntKind.i64 (↑i : Int))]) (Opd.t (4 : Nat)))) (Opd.t (0 : Nat)))) { dst := some (7 : Nat), op := AOp.len false (Opd.t (6 : Nat)), guard := none, deps := [] : AOper }.dst (AV.int IntKind.i64 (↑l.length : Int))) { dst := some (8 : Nat), op := AOp.bin BinOp.lss (Opd.t (5 : Nat)) (Opd.t (7 : Nat)), guard := none, deps := [] : AOper }.dst (AV.bool (decide ((↑i : Int) < (↑l.length : Int))))) (Opd.t (3 : Nat)))) { dst := some (2 : Nat), op := AOp.mov (Opd.t (25 : Nat)), guard := none, deps := [] : AOper }.dst (ev (setD (setD (setD (setD (setD (updL T [((0 : Nat), AV.sl SK.sh (List.map encA l)), ((3 : Nat), rowS Heap.nil acc), ((4 : Nat), AV.int IntKind.i64 (↑i : Int))]) { dst := some (5 : Nat), op := AOp.mov (Opd.t (4 : Nat)), guard := none, deps := [] : AOper }.dst (ev (updL T [((0 : Nat), AV.sl SK.sh (List.map encA l)), ((3 : Nat), rowS Heap.nil acc), ((4 : Nat), AV.int IntKind.i64 (↑i : Int))]) (Opd.t (4 : Nat)))) { dst := some (6 : Nat), op := AOp.mov (Opd.t (0 : Nat)), guard := none, deps := [] : AOper }.dst (ev (setD (updL T [((0 : Nat), AV.sl SK.sh (List.map encA l)), ((3 : Nat), rowS Heap.nil acc), ((4 : Nat), AV.int IntKind.i64 (↑i : Int))]) { dst := some (5 : Nat), op := AOp.mov (Opd.t (4 : Nat)), guard := none, deps := [] : AOper }.dst (ev (updL T [((0 : Nat), AV.sl SK.sh (List.map encA l)), ((3 : Nat), rowS Heap.nil acc), ((4 : Nat), AV.int IntKind.i64 (↑i : Int))]) (Opd.t (4 : Nat)))) (Opd.t (0 : Nat)))) { dst := some (7 : Nat), op := AOp.len false (Opd.t (6 : Nat)), guard := none, deps := [] : AOper }.dst (AV.int IntKind.i64 (↑l.length : Int))) { dst := some (8 : Nat), op := AOp.bin BinOp.lss (Opd.t (5 : Nat)) (Opd.t (7 : Nat)), guard := none, deps := [] : AOper }.dst (AV.bool (decide ((↑i : Int) < (↑l.length : Int))))) { dst := some (25 : Nat), op := AOp.mov (Opd.t (3 : Nat)), guard := none, deps := [] : AOper }.dst (ev (setD (setD (setD (setD (updL T [((0 : Nat), AV.sl SK.sh (List.map encA l)), ((3 : Nat), rowS Heap.nil acc), ((4 : Nat), AV.int IntKind.i64 (↑i : Int))]) { dst := some (5 : Nat), op := AOp.mov (Opd.t (4 : Nat)), guard := none, deps := [] : AOper }.dst (ev (updL T [((0 : Nat), AV.sl SK.sh (List.map encA l)), ((3 : Nat), rowS Heap.nil acc), ((4 : Nat), AV.int IntKind.i64 (↑i : Int))]) (Opd.t (4 : Nat)))) { dst := some (6 : Nat), op := AOp.mov (Opd.t (0 : Nat)), guard := none, deps := [] : AOper }.dst (ev (setD (updL T [((0 : Nat), AV.sl SK.sh (List.map encA l)), ((3 : Nat), rowS Heap.nil acc), ((4 : Nat), AV.int IntKind.i64 (↑i : Int))]) { dst := some (5 : Nat), op := AOp.mov (Opd.t (4 : Nat)), guard := none, deps := [] : AOper }.dst (ev (updL T [((0 : Nat), AV.sl SK.sh (List.map encA l)), ((3 : Nat), rowS Heap.nil acc), ((4 : Nat), AV.int IntKind.i64 (↑i : Int))]) (Opd.t (4 : Nat)))) (Opd.t (0 : Nat)))) { dst := some (7 : Nat), op := AOp.len false (Opd.t (6 : Nat)), guard := none, deps := [] : AOper }.dst (AV.int IntKind.i64 (↑l.length : Int))) { dst := some (8 : Nat), op := AOp.bin BinOp.lss (Opd.t (5 : Nat)) (Opd.t (7 : Nat)), guard := none, deps := [] : AOper }.dst (AV.bool (decide ((↑i : Int) < (↑l.length : Int))))) (Opd.t (3 : Nat)))) (Opd.t (25 : Nat))) (2 : Nat)), rowH Heap.nil acc)) (by simp only [IsRet, List.map_nil, List.append_nil]; rfl)) (by kernel_rfl)
  | cons x post ih =>
    intro i acc hd ha hl T hT
    have hlt := drop_lt hd
    have hnx := drop_next hd
    exact goG 60 _  hT  (.len (show lenA false (AV.sl SK.sh (List.map encA l)) = some (AV.int IntKind.i64 (↑l.length : Int)) from len_map _) <| .yes (show (decide ((↑i : Int) < (↑l.length : Int))) = true from decide_eq_true (show (↑i : Int) < (↑l.length : Int) from (by simp; omega))) <| .idx (show idxA (2 : Nat) (AV.sl SK.sh (List.map encA l)) (AV.int IntKind.i64 (↑i : Int)) = some (AV.ref (encA x).cells) from idx_row hd (by rfl)) <| .load (show loadA false (1 : Nat) (rowH Heap.nil acc) (AV.ref [AV.str x.name]) = some (AV.str x.name) from rfl) <| .idx (show idxA (2 : Nat) (AV.sl SK.sh (List.map encA l)) (AV.int IntKind.i64 (↑i : Int)) = some (AV.ref (encA x).cells) from idx_row hd (by rfl)) <| .load (show loadA false (1 : Nat) (rowH Heap.nil acc) (AV.ref [AV.int IntKind.i64 x.n]) = some (AV.int IntKind.i64 x.n) from rfl) <| .append (show appendA (2 : Nat) (24 : Nat) (rowH Heap.nil acc) (rowS Heap.nil acc) (AV.sl SK.full [AV.agg [AV.str x.name, AV.int IntKind.i64 x.n]]) = some ((rowS Heap.nil (acc ++ [AV.agg [AV.str x.name, AV.int IntKind.i64 x.n]]), rowH Heap.nil (acc ++ [AV.agg [AV.str x.name, AV.int IntKind.i64 x.n]]))) from row_append (by omega) hl (by rfl) (by rfl)) <| .bin (show binA BinOp.add (AV.int IntKind.i64 (↑i : Int)) (AV.int IntKind.i64 (1 : Int)) = some (AV.int IntKind.i64 (↑(i + (1 : Nat)) : Int)) from inc_i (by omega)) <| .cutQ k73_0 [(0, AV.sl SK.sh (List.map encA l)), (3, rowS Heap.nil (acc ++ [AV.agg [AV.str x.name, AV.int IntKind.i64 x.n]])), (4, AV.int IntKind.i64 (↑(i + (1 : Nat)) : Int))] (rowH Heap.nil (acc ++ [AV.agg [AV.str x.name, AV.int IntKind.i64 x.n]])) (fun T hT => (ih (i + (1 : Nat)) (acc ++ [AV.agg [AV.str x.name, AV.int IntKind.i64 x.n]]) hnx (by simp; omega) (by exact lenOk_snoc (by assumption) rfl) T hT).to (by simp [encA]))) (by kernel_rfl)
theorem ofA_any (l : List Amount) (hn : l.length ≤ 20) : Gives cfg 73 [.sl .sh (l.map encA)] (rowS Heap.nil (l.map encA)) := by
  refine Gives.run (l73 _ _) ?_
  have h := ofA_loop l hn l 0 [] rfl rfl rfl
  exact goG 60 []  trivial  (.cutQ k73_0 [(0, AV.sl SK.sh (List.map encA l)), (3, AV.sl SK.full []), (4, AV.int IntKind.i64 (0 : Int))] ({ boxes := [], toks := [], loops := [] : Heap }) (fun T hT => (h T hT))) (by kernel_rfl)

instance (n : Node) : Dat (encN n) := ⟨rfl, rfl⟩
structure FewNd (n : Node) : Prop where
  cap : n.cap.length ≤ 20
  labels : n.labels.length ≤ 20
  taints : n.taints.length ≤ 20

def ordG {X : Type} (nm : X → List UInt8) (s : List X) (i : Nat) (x : X) : Bool := match i with
  | 0 => false
  | j + 1 => match s[j]? with
    | some p => Op.bytesLess (nm x) (nm p) || nm x == nm p
    | none => false
def ckAl {X : Type} (ck : X → Int) (nm : X → List UInt8) (s : List X) : Nat → List X → Int
  | _, [] => 0
  | i, x :: post => if ck x = 0 then (if ordG nm s i x then 13 else ckAl ck nm s (i + 1) post) else ck x
def ckAll {X : Type} (most : Nat) (ck : X → Int) (nm : X → List UInt8) (s : List X) : Int := if s.length ≤ most then ckAl ck nm s 0 s else 4
def findG {X : Type} (nm : X → List UInt8) (l : List X) (n : List UInt8) : Option X := l.find? fun x => nm x == n
theorem findG_mem {X : Type} {nm : X → List UInt8} {l : List X} {s : List UInt8} {x : X} (h : findG nm l s = some x) : x ∈ l := List.mem_of_find?_eq_some h
end Go.Aa.T

set_option linter.unusedVariables false
set_option linter.unusedSimpArgs false
set_option maxRecDepth 100000
namespace Go.Aa.T
open Go.Aa Go.Proofs
structure Pod where
  name : List UInt8
  owner : List UInt8
  prio : Int
  need : List Amount
  labels : List Pair
  sel : List Term
  tols : List Tol
  key : List UInt8
  most : Int
  node : List UInt8
  hold : Bool
def encPd (p : Pod) : AV := .agg [.str p.name, .str p.owner, .int .i64 p.prio, .sl .sh (p.need.map encA), .sl .sh (p.labels.map encP), .sl .sh (p.sel.map encM), .sl .sh (p.tols.map encL), .str p.key, .int .i64 p.most, .str p.node, .bool p.hold]
def maybeE (s : List UInt8) : Int := if s = [] then 0 else if isName s then 0 else 3
def withinE (n lo hi : Int) : Int := if n < lo then 1 else if hi < n then 1 else 0
def prioE (p : Pod) : Int := if p.hold then withinE p.prio (-1) (-1) else withinE p.prio 0 1000000
def mostE (p : Pod) : Int := if p.key = [] then withinE p.most 0 0 else withinE p.most 1 128
def ckPd (p : Pod) : Int := firstE [if isName p.name then 0 else 3, maybeE p.owner, prioE p, ckV p.need, ckS p.labels, ckM p.sel, ckL p.tols, maybeE p.key, mostE p, maybeE p.node]
structure PodOk (p : Pod) : Prop where
  name : isName p.name = true
  owner : p.owner = [] ∨ isName p.owner = true
  prio : -1 ≤ p.prio ∧ p.prio ≤ 1000000
  hold : p.hold = decide (p.prio = -1)
  need : ckV p.need = 0
  labels : ckS p.labels = 0
  sel : ckM p.sel = 0
  tols : ckL p.tols = 0
  key : p.key = [] ∨ isName p.key = true
  most : 0 ≤ p.most ∧ p.most ≤ 128 ∧ (p.key = [] ↔ p.most = 0)
  node : p.node = [] ∨ isName p.node = true

end Go.Aa.T
