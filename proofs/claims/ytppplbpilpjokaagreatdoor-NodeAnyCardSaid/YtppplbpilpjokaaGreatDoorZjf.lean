/-
  WHAT THE LAW LEANS ON, part 6 of 8: a machine of values and its soundness; the functions of the law upon it; what they come to.
-/
import Derived.Test.YtppplbpilpjokaaGreatDoorZje
import Derived.Sort.Walk0

set_option linter.unusedVariables false
set_option linter.unusedSimpArgs false
set_option maxRecDepth 100000
namespace Go.Aa.T
open Go.Aa Go.Proofs
structure Pair where
  key : List UInt8
  val : List UInt8
structure Term where
  op : Int
  key : List UInt8
  val : List UInt8
def Pair.cells (t : Pair) : List AV := [.str t.key, .str t.val]
def Term.cells (t : Term) : List AV := [.int .i64 t.op, .str t.key, .str t.val]
def encP (t : Pair) : AV := .agg t.cells
def encM (t : Term) : AV := .agg t.cells
theorem lenP {l : List Pair} : lenOk 2 (l.map encP) = true := lenOk_map fun _ => rfl

def fewP (l : List Pair) : Bool := decide (l.length ≤ 20) && few (fun t => (t.key, t.val)) l
def fewM (l : List Term) : Bool := decide (l.length ≤ 20) && few (fun t => (t.key, t.val)) l
theorem fewP_len {l : List Pair} (h : fewP l = true) : l.length ≤ 20 := by
  simp only [fewP, Bool.and_eq_true, decide_eq_true_eq] at h; exact h.1
theorem fewP_loop (l : List Pair) (hn : l.length ≤ 20) : ∀ (post : List Pair) (i : Nat) (hd : l.drop i = post) (T : Env) (hT : Has T [(0, .sl .sh (l.map encP)), (3, .int .i64 i)]),
    Goes cfg a60 k60_0 T Heap.nil (IsRet (.bool (few (fun t => (t.key, t.val)) post))) := by
  intro post
  induction post with
  | nil =>
    intro i hd T hT
    have hge := drop_ge hd
    exact goG 60 _  hT  (.len (show lenA false (AV.sl .sh (List.map encP l)) = some (AV.int .i64 (↑l.length : Int)) from len_map _) <| .no (show (decide ((↑i : Int) < (↑l.length : Int))) = false from decide_eq_false (show ¬ ((↑i : Int) < (↑l.length : Int)) from (by omega))) <| .fin ((ARes.ret (AV.bool true), { boxes := [], toks := [], loops := [] : Heap })) rfl) (by kernel_rfl)
  | cons x post ih =>
    intro i hd T hT
    have hlt := drop_lt hd
    have hnx := drop_next hd
    exact goG 60 _  hT  (.len (show lenA false (AV.sl .sh (List.map encP l)) = some (AV.int .i64 (↑l.length : Int)) from len_map _) <| .yes (show (decide ((↑i : Int) < (↑l.length : Int))) = true from decide_eq_true (show (↑i : Int) < (↑l.length : Int) from (by omega))) <| .idx (show idxA 2 (AV.sl .sh (List.map encP l)) (AV.int .i64 (↑i : Int)) = some (AV.ref (encP x).cells) from idx_row hd (by rfl)) <| .len (show lenA true (AV.str x.key) = some (AV.int .i64 (↑x.key.length : Int)) from len_str _) <| .split ((50 : Int) < (↑x.key.length : Int)) (fun h1 => .yes (show (decide ((50 : Int) < (↑x.key.length : Int))) = true from decide_eq_true (show (50 : Int) < (↑x.key.length : Int) from h1)) <| .tt <| .fin ((ARes.ret (AV.bool false), { boxes := [], toks := [], loops := [] : Heap })) (by simp only [IsRet]; grind [few])) (fun h1 => .no (show (decide ((50 : Int) < (↑x.key.length : Int))) = false from decide_eq_false (show ¬ ((50 : Int) < (↑x.key.length : Int)) from h1)) <| .idx (show idxA 2 (AV.sl .sh (List.map encP l)) (AV.int .i64 (↑i : Int)) = some (AV.ref (encP x).cells) from idx_row hd (by rfl)) <| .len (show lenA true (AV.str x.val) = some (AV.int .i64 (↑x.val.length : Int)) from len_str _) <| .split ((50 : Int) < (↑x.val.length : Int)) (fun h2 => .yes (show (decide ((50 : Int) < (↑x.val.length : Int))) = true from decide_eq_true (show (50 : Int) < (↑x.val.length : Int) from h2)) <| .fin ((ARes.ret (AV.bool false), { boxes := [], toks := [], loops := [] : Heap })) (by simp only [IsRet]; grind [few])) (fun h2 => .no (show (decide ((50 : Int) < (↑x.val.length : Int))) = false from decide_eq_false (show ¬ ((50 : Int) < (↑x.val.length : Int)) from h2)) <| .bin (show binA .add (AV.int .i64 (↑i : Int)) (AV.int .i64 1) = some (AV.int .i64 (↑(i + (1 : Nat)) : Int)) from inc_i (by omega)) <| .cutQ k60_0 [(0, AV.sl .sh (List.map encP l)), (3, AV.int .i64 (↑(i + (1 : Nat)) : Int))] ({ boxes := [], toks := [], loops := [] : Heap }) (fun T hT => (ih (i + (1 : Nat)) hnx T hT).to (by grind [few]))))) (by kernel_rfl)
theorem fewP_any (l : List Pair) : Gives cfg 60 [.sl .sh (l.map encP)] (.bool (fewP l)) := by
  refine Gives.run (l60 _ _) ?_
  have h := fun hn => fewP_loop l hn l 0 rfl
  exact goG 60 []  trivial  (.len (show lenA false (AV.sl .sh (List.map encP l)) = some (AV.int .i64 (↑l.length : Int)) from len_map _) <| .split ((20 : Int) < (↑l.length : Int)) (fun h1 => .yes (show (decide ((20 : Int) < (↑l.length : Int))) = true from decide_eq_true (show (20 : Int) < (↑l.length : Int) from h1)) <| .fin ((ARes.ret (AV.bool false), { boxes := [], toks := [], loops := [] : Heap })) (by simp only [IsRet]; grind [fewP])) (fun h1 => .no (show (decide ((20 : Int) < (↑l.length : Int))) = false from decide_eq_false (show ¬ ((20 : Int) < (↑l.length : Int)) from h1)) <| .cutQ k60_0 [(0, AV.sl .sh (List.map encP l)), (3, AV.int .i64 0)] ({ boxes := [], toks := [], loops := [] : Heap }) (fun T hT => (h (by omega) T hT).to (by grind [fewP])))) (by kernel_rfl)

theorem ofP_loop (l : List Pair) (hn : l.length ≤ 20) : ∀ (post : List Pair) (i : Nat) (acc : List AV) (hd : l.drop i = post) (ha : acc.length = i) (hl : lenOk 2 acc = true) (T : Env) (hT : Has T [(0, .sl .sh (l.map encP)), (3, rowS Heap.nil acc), (4, .int .i64 i)]),
    Goes cfg a74 k74_0 T (rowH Heap.nil acc) (IsRet (rowS Heap.nil (acc ++ post.map encP))) := by
  intro post
  induction post with
  | nil =>
    intro i acc hd ha hl T hT
    have hge := drop_ge hd
    exact goG 60 _  hT  (.len (show lenA false (AV.sl .sh (List.map encP l)) = some (AV.int .i64 (↑l.length : Int)) from len_map _) <| .no (show (decide ((↑i : Int) < (↑l.length : Int))) = false from decide_eq_false (show ¬ ((↑i : Int) < (↑l.length : Int)) from (by omega))) <| .fin ((ARes.ret (setD (setD (setD (setD (setD (setD (updL T [((0 : Nat), AV.sl .sh (List.map encP l)), ((3 : Nat), rowS Heap.nil acc), ((4 : Nat), AV.int .i64 (↑i : Int))]) { dst := some (5 : Nat), op := AOp.mov (Opd.t (4 : Nat)), guard := none, deps := [] : AOper }.dst (ev (updL T [((0 : Nat), AV.sl .sh (List.map encP l)), ((3 : Nat), rowS Heap.nil acc), ((4 : Nat), AV.int .i64 (↑i : Int))]) (Opd.t (4 : Nat)))) { dst := some (6 : Nat), op := AOp.mov (Opd.t (0 : Nat)), guard := none, deps := [] : AOper }.dst (ev (setD (updL T [((0 : Nat), AV.sl .sh (List.map encP l)), ((3 : Nat), rowS Heap.nil acc), ((4 : Nat), AV.int .i64 (↑i : Int))]) { dst := some (5 : Nat), op := AOp.mov (Opd.t (4 : Nat)), guard := none, deps := [] : AOper }.dst (ev (updL T [((0 : Nat), AV.sl .sh (List.map encP l)), ((3 : Nat), rowS Heap.nil acc), ((4 : Nat), AV.int .i64 (↑i : Int))]) (Opd.t (4 : Nat)))) (Opd.t (0 : Nat)))) { dst := some (7 : Nat), op := AOp.len false (Opd.t (6 : Nat)), guard := none, deps := [] : AOper }.dst (AV.int .i64 (↑l.length : Int))) { dst := some (8 : Nat), op := AOp.bin BinOp.lss (Opd.t (5 : Nat)) (Opd.t (7 : Nat)), guard := none, deps := [] : AOper }.dst (AV.bool (decide ((↑i : Int) < (↑l.length : Int))))) { dst := some (25 : Nat), op := AOp.mov (Opd.t (3 : Nat)), guard := none, deps := [] : AOper }.dst (ev (setD (setD (setD (setD (updL T [((0 : Nat), AV.sl .sh (List.map encP l)), ((3 : Nat), rowS Heap.nil acc), ((4 : Nat), AV.int .i64 (↑i : Int))]) { dst := some (5 : Nat), op := AOp.mov (Opd.t (4 : Nat)), guard := none, deps := [] : AOper }.dst (ev (updL T [((0 : Nat), AV.sl .sh (List.map encP l)), ((3 : Nat), rowS Heap.nil acc), ((4 : Nat), AV.int .i64 (↑i : Int))]) (Opd.t (4 : Nat)))) { dst := some (6 : Nat), op := AOp.mov (Opd.t (0 : Nat)), guard := none, deps := [] : AOper }.dst (ev (setD (updL T [((0 : Nat), AV.sl .sh (List.map encP l)), ((3 : Nat), rowS Heap.nil acc), ((4 : Nat), AV.int .i64 (↑i : Int))]) { dst := some (5 : Nat), op := AOp.mov (Opd.t (4 : Nat)), guard := none, deps := [] : AOper }.dst (ev (updL T [((0 : Nat), AV.sl .sh (List.map encP l)), ((3 : Nat), rowS Heap.nil acc), ((4 : Nat), AV.int .i64 (↑i : Int))]) (Opd.t (4 : Nat)))) (Opd.t (0 : Nat)))) { dst := some (7 : Nat), op := AOp.len false (Opd.t (6 : Nat)), guard := none, deps := [] : AOper }.dst (AV.int .i64 (↑l.length : Int))) { dst := some (8 : Nat), op := AOp.bin BinOp.lss (Opd.t (5 : Nat)) (Opd.t (7 : Nat)), guard := none, deps := [] : AOper }.dst (AV.bool (decide ((↑i : Int) < (↑l.length : Int))))) (Opd.t (3 : Nat)))) { dst := some (2 : Nat), op := AOp.mov (Opd.t (25 : Nat)), guard := none, deps := [] : AOper }.dst (ev (setD (setD (setD (setD (setD (updL T [((0 : Nat), AV.sl .sh (List.map encP l)), ((3 : Nat), rowS Heap.nil acc), ((4 : Nat), AV.int .i64 (↑i : Int))]) { dst := some (5 : Nat), op := AOp.mov (Opd.t (4 : Nat)), guard := none, deps := [] : AOper }.dst (ev (updL T [((0 : Nat), AV.sl .sh (List.map encP l)), ((3 : Nat), rowS Heap.nil acc), ((4 : Nat), AV.int .i64 (↑i : Int))]) (Opd.t (4 : Nat)))) { dst := some (6 : Nat), op := AOp.mov (Opd.t (0 : Nat)), guard := none, deps := [] : AOper }.dst (ev (setD (updL T [((0 : Nat), AV.sl .sh (List.map encP l)), ((3 : Nat), rowS Heap.nil acc), ((4 : Nat), AV.int .i64 (↑i : Int))]) { dst := some (5 : Nat), op := AOp.mov (Opd.t (4 : Nat)), guard := none, deps := [] : AOper }.dst (ev (updL T [((0 : Nat), AV.sl .sh (List.map encP l)), ((3 : Nat), rowS Heap.nil acc), ((4 : Nat), AV.int .i64 (↑i : Int))]) (Opd.t (4 : Nat)))) (Opd.t (0 : Nat)))) { dst := some (7 : Nat), op := AOp.len false (Opd.t (6 : Nat)), guard := none, deps := [] : AOper }.dst (AV.int .i64 (↑l.length : Int))) { dst := some (8 : Nat), op := AOp.bin BinOp.lss (Opd.t (5 : Nat)) (Opd.t (7 : Nat)), guard := none, deps := [] : AOper }.dst (AV.bool (decide ((↑i : Int) < (↑l.length : Int))))) { dst := some (25 : Nat), op := AOp.mov (Opd.t (3 : Nat)), guard := none, deps := [] : AOper }.dst (ev (setD (setD (setD (setD (updL T [((0 : Nat), AV.sl .sh (List.map encP l)), ((3 : Nat), rowS Heap.nil acc), ((4 : Nat), AV.int .i64 (↑i : Int))]) { dst := some (5 : Nat), op := AOp.mov (Opd.t (4 : Nat)), guard := none, deps := [] : AOper }.dst (ev (updL T [((0 : Nat), AV.sl .sh (List.map encP l)), ((3 : Nat), rowS Heap.nil acc), ((4 : Nat), AV.int .i64 (↑i : Int))]) (Opd.t (4 : Nat)))) { dst := some (6 : Nat), op := AOp.mov (Opd.t (0 : Nat)), guard := none, deps := [] : AOper }.dst (ev (setD (updL T [((0 : Nat), AV.sl .sh (List.map encP l)), ((3 : Nat), rowS Heap.nil acc), ((4 : Nat), AV.int .i64 (↑i : Int))]) { dst := some (5 : Nat), op := AOp.mov (Opd.t (4 : Nat)), guard := none, deps := [] : AOper }.dst (ev (updL T [((0 : Nat), AV.sl .sh (List.map encP l)), ((3 : Nat), rowS Heap.nil acc), ((4 : Nat), AV.int .i64 (↑i : Int))]) (Opd.t (4 : Nat)))) (Opd.t (0 : Nat)))) { dst := some (7 : Nat), op := AOp.len false (Opd.t (6 : Nat)), guard := none, deps := [] : AOper }.dst (AV.int .i64 (↑l.length : Int))) { dst := some (8 : Nat), op := AOp.bin BinOp.lss (Opd.t (5 : Nat)) (Opd.t (7 : Nat)), guard := none, deps := [] : AOper }.dst (AV.bool (decide ((↑i : Int) < (↑l.length : Int))))) (Opd.t (3 : Nat)))) (Opd.t (25 : Nat))) (2 : Nat)), rowH Heap.nil acc)) (by simp only [IsRet, List.map_nil, List.append_nil]; rfl)) (by kernel_rfl)
  | cons x post ih =>
    intro i acc hd ha hl T hT
    have hlt := drop_lt hd
    have hnx := drop_next hd
    exact goG 60 _  hT  (.len (show lenA false (AV.sl .sh (List.map encP l)) = some (AV.int .i64 (↑l.length : Int)) from len_map _) <| .yes (show (decide ((↑i : Int) < (↑l.length : Int))) = true from decide_eq_true (show (↑i : Int) < (↑l.length : Int) from (by simp; omega))) <| .idx (show idxA 2 (AV.sl .sh (List.map encP l)) (AV.int .i64 (↑i : Int)) = some (AV.ref (encP x).cells) from idx_row hd (by rfl)) <| .load (show loadA false 1 (rowH Heap.nil acc) (AV.ref [AV.str x.key]) = some (AV.str x.key) from rfl) <| .idx (show idxA 2 (AV.sl .sh (List.map encP l)) (AV.int .i64 (↑i : Int)) = some (AV.ref (encP x).cells) from idx_row hd (by rfl)) <| .load (show loadA false 1 (rowH Heap.nil acc) (AV.ref [AV.str x.val]) = some (AV.str x.val) from rfl) <| .append (show appendA (2 : Nat) (32 : Nat) (rowH Heap.nil acc) (rowS Heap.nil acc) (AV.sl .full [AV.agg [AV.str x.key, AV.str x.val]]) = some ((rowS Heap.nil (acc ++ [AV.agg [AV.str x.key, AV.str x.val]]), rowH Heap.nil (acc ++ [AV.agg [AV.str x.key, AV.str x.val]]))) from row_append (by omega) hl (by rfl) (by rfl)) <| .bin (show binA .add (AV.int .i64 (↑i : Int)) (AV.int .i64 1) = some (AV.int .i64 (↑(i + (1 : Nat)) : Int)) from inc_i (by omega)) <| .cutQ k74_0 [(0, AV.sl .sh (List.map encP l)), (3, rowS Heap.nil (acc ++ [AV.agg [AV.str x.key, AV.str x.val]])), (4, AV.int .i64 (↑(i + (1 : Nat)) : Int))] (rowH Heap.nil (acc ++ [AV.agg [AV.str x.key, AV.str x.val]])) (fun T hT => (ih (i + (1 : Nat)) (acc ++ [AV.agg [AV.str x.key, AV.str x.val]]) hnx (by simp; omega) (by exact lenOk_snoc (by assumption) rfl) T hT).to (by simp [encP, Pair.cells]))) (by kernel_rfl)
theorem ofP_any (l : List Pair) (hn : l.length ≤ 20) : Gives cfg 74 [.sl .sh (l.map encP)] (rowS Heap.nil (l.map encP)) := by
  refine Gives.run (l74 _ _) ?_
  have h := ofP_loop l hn l 0 [] rfl rfl rfl
  exact goG 60 []  trivial  (.cutQ k74_0 [(0, AV.sl .sh (List.map encP l)), (3, AV.sl .full []), (4, AV.int .i64 0)] ({ boxes := [], toks := [], loops := [] : Heap }) (fun T hT => (h T hT))) (by kernel_rfl)

def ordB (s : List Pair) (i : Nat) (x : Pair) : Bool := match i with
  | 0 => false
  | j + 1 => match s[j]? with
    | some p => Op.bytesLess x.key p.key || x.key == p.key
    | none => false
def ckSl (s : List Pair) : Nat → List Pair → Int
  | _, [] => 0
  | i, x :: post => if isName x.key && isName x.val then (if ordB s i x then 13 else ckSl s (i + 1) post) else 3
def ckS (s : List Pair) : Int := if s.length ≤ 8 then ckSl s 0 s else 4
theorem dec_i {i : Nat} (h : i < 9223372036854775807) : binA .sub (.int .i64 ((i + 1 : Nat) : Int)) (.int .i64 1) = some (.int .i64 (i : Int)) := by
  rw [subI (by omega) (by omega)]; congr 2; omega
theorem ckS_ref_loop (l : List Pair) (hn : l.length ≤ 8) : ∀ (post : List Pair) (i : Nat) (hd : l.drop i = post) (T : Env) (hT : Has T [(0, .sl .sh (l.map encP)), (3, .int .i64 i)]),
    Goes cfg a78 k78_0 T Heap.nil (IsRet (.int .i64 (ckSl l i post))) := by
  intro post
  induction post with
  | nil =>
    intro i hd T hT
    have hge := drop_ge hd
    exact goG 60 _  hT  (.len (show lenA false (AV.sl .sh (List.map encP l)) = some (AV.int .i64 (↑l.length : Int)) from len_map _) <| .no (show (decide ((↑i : Int) < (↑l.length : Int))) = false from decide_eq_false (show ¬ ((↑i : Int) < (↑l.length : Int)) from (by omega))) <| .fin ((ARes.ret (AV.int .i64 0), { boxes := [], toks := [], loops := [] : Heap })) rfl) (by kernel_rfl)
  | cons x post ih =>
    intro i hd T hT
    have hlt := drop_lt hd
    have hnx := drop_next hd
    cases i with
    | zero => exact goG 60 _  hT  (.len (show lenA false (AV.sl .sh (List.map encP l)) = some (AV.int .i64 (↑l.length : Int)) from len_map _) <| .yes (show (decide ((↑(0 : Nat) : Int) < (↑l.length : Int))) = true from decide_eq_true (show (↑(0 : Nat) : Int) < (↑l.length : Int) from (by omega))) <| .idx (show idxA 2 (AV.sl .sh (List.map encP l)) (AV.int .i64 (↑(0 : Nat) : Int)) = some (AV.ref (encP x).cells) from idx_row hd (by rfl)) <| .callG ([AV.str x.key]) (AV.bool (isName x.key)) (show Gives cfg (76 : FuncId) [AV.str x.key] (AV.bool (isName x.key)) from name_any _) ⟨rfl, rfl⟩ ⟨rfl, rfl⟩ <| .split (isName x.key = true) (fun h1 => .no (show (!isName x.key) = false from by have hh : isName x.key = true := h1; simp [hh]) <| .idx (show idxA 2 (AV.sl .sh (List.map encP l)) (AV.int .i64 (↑(0 : Nat) : Int)) = some (AV.ref (encP x).cells) from idx_row hd (by rfl)) <| .callG ([AV.str x.val]) (AV.bool (isName x.val)) (show Gives cfg (76 : FuncId) [AV.str x.val] (AV.bool (isName x.val)) from name_any _) ⟨rfl, rfl⟩ ⟨rfl, rfl⟩ <| .split (isName x.val = true) (fun h2 => .no (show (!isName x.val) = false from by have hh : isName x.val = true := h2; simp [hh]) <| .ff <| .ff <| .bin (show binA .add (AV.int .i64 (↑(0 : Nat) : Int)) (AV.int .i64 1) = some (AV.int .i64 (↑((0 : Nat) + (1 : Nat)) : Int)) from inc_i (by omega)) <| .cutQ k78_0 [(0, AV.sl .sh (List.map encP l)), (3, AV.int .i64 (↑((0 : Nat) + (1 : Nat)) : Int))] ({ boxes := [], toks := [], loops := [] : Heap }) (fun T hT => (ih ((0 : Nat) + (1 : Nat)) hnx T hT).to (by grind [ckSl, ordB]))) (fun h2 => .yes (show (!isName x.val) = true from by have hh : ¬ (isName x.val = true) := h2; simp [hh]) <| .fin ((ARes.ret (AV.int .i64 3), { boxes := [], toks := [], loops := [] : Heap })) (by simp only [IsRet]; grind [ckSl, ordB]))) (fun h1 => .yes (show (!isName x.key) = true from by have hh : ¬ (isName x.key = true) := h1; simp [hh]) <| .tt <| .fin ((ARes.ret (AV.int .i64 3), { boxes := [], toks := [], loops := [] : Heap })) (by simp only [IsRet]; grind [ckSl, ordB]))) (by kernel_rfl)
    | succ j =>
      obtain ⟨p, hp⟩ : ∃ p, l[j]? = some p := ⟨l[j], List.getElem?_eq_getElem (by omega)⟩
      exact goG 60 _  hT  (.len (show lenA false (AV.sl .sh (List.map encP l)) = some (AV.int .i64 (↑l.length : Int)) from len_map _) <| .yes (show (decide ((↑(j + (1 : Nat)) : Int) < (↑l.length : Int))) = true from decide_eq_true (show (↑(j + (1 : Nat)) : Int) < (↑l.length : Int) from (by omega))) <| .idx (show idxA 2 (AV.sl .sh (List.map encP l)) (AV.int .i64 (↑(j + (1 : Nat)) : Int)) = some (AV.ref (encP x).cells) from idx_row hd (by rfl)) <| .callG ([AV.str x.key]) (AV.bool (isName x.key)) (show Gives cfg (76 : FuncId) [AV.str x.key] (AV.bool (isName x.key)) from name_any _) ⟨rfl, rfl⟩ ⟨rfl, rfl⟩ <| .split (isName x.key = true) (fun h1 => .no (show (!isName x.key) = false from by have hh : isName x.key = true := h1; simp [hh]) <| .idx (show idxA 2 (AV.sl .sh (List.map encP l)) (AV.int .i64 (↑(j + (1 : Nat)) : Int)) = some (AV.ref (encP x).cells) from idx_row hd (by rfl)) <| .callG ([AV.str x.val]) (AV.bool (isName x.val)) (show Gives cfg (76 : FuncId) [AV.str x.val] (AV.bool (isName x.val)) from name_any _) ⟨rfl, rfl⟩ ⟨rfl, rfl⟩ <| .split (isName x.val = true) (fun h2 => .no (show (!isName x.val) = false from by have hh : isName x.val = true := h2; simp [hh]) <| .yes (show (decide ((0 : Int) < (↑(j + (1 : Nat)) : Int))) = true from decide_eq_true (show (0 : Int) < (↑(j + (1 : Nat)) : Int) from (by omega))) <| .idx (show idxA 2 (AV.sl .sh (List.map encP l)) (AV.int .i64 (↑(j + (1 : Nat)) : Int)) = some (AV.ref (encP x).cells) from idx_row hd (by rfl)) <| .bin (show binA .sub (AV.int .i64 (↑(j + (1 : Nat)) : Int)) (AV.int .i64 1) = some (AV.int .i64 (↑j : Int)) from dec_i (by omega)) <| .idx (show idxA 2 (AV.sl .sh (List.map encP l)) (AV.int .i64 (↑j : Int)) = some (AV.ref (encP p).cells) from idx_get hp (by rfl)) <| .split ((Op.bytesLess x.key p.key || x.key == p.key) = true) (fun h3 => .yes (show (Op.bytesLess x.key p.key || x.key == p.key) = true from h3) <| .fin ((ARes.ret (AV.int .i64 13), { boxes := [], toks := [], loops := [] : Heap })) (by simp only [IsRet]; grind [ckSl, ordB])) (fun h3 => .no (show (Op.bytesLess x.key p.key || x.key == p.key) = false from Bool.eq_false_iff.2 (show ¬ ((Op.bytesLess x.key p.key || x.key == p.key) = true) from h3)) <| .bin (show binA .add (AV.int .i64 (↑(j + (1 : Nat)) : Int)) (AV.int .i64 1) = some (AV.int .i64 (↑(j + (1 : Nat) + (1 : Nat)) : Int)) from inc_i (by omega)) <| .cutQ k78_0 [(0, AV.sl .sh (List.map encP l)), (3, AV.int .i64 (↑(j + (1 : Nat) + (1 : Nat)) : Int))] ({ boxes := [], toks := [], loops := [] : Heap }) (fun T hT => (ih (j + (1 : Nat) + (1 : Nat)) hnx T hT).to (by grind [ckSl, ordB])))) (fun h2 => .yes (show (!isName x.val) = true from by have hh : ¬ (isName x.val = true) := h2; simp [hh]) <| .fin ((ARes.ret (AV.int .i64 3), { boxes := [], toks := [], loops := [] : Heap })) (by simp only [IsRet]; grind [ckSl, ordB]))) (fun h1 => .yes (show (!isName x.key) = true from by have hh : ¬ (isName x.key = true) := h1; simp [hh]) <| .tt <| .fin ((ARes.ret (AV.int .i64 3), { boxes := [], toks := [], loops := [] : Heap })) (by simp only [IsRet]; grind [ckSl, ordB]))) (by kernel_rfl)
theorem ckS_ref (l : List Pair) : Gives cfg 78 [.sl .sh (l.map encP)] (.int .i64 (ckS l)) := by
  refine Gives.run (l78 _ _) ?_
  have h := fun hn => ckS_ref_loop l hn l 0 rfl
  exact goG 60 []  trivial  (.len (show lenA false (AV.sl .sh (List.map encP l)) = some (AV.int .i64 (↑l.length : Int)) from len_map _) <| .split ((8 : Int) < (↑l.length : Int)) (fun h1 => .yes (show (decide ((8 : Int) < (↑l.length : Int))) = true from decide_eq_true (show (8 : Int) < (↑l.length : Int) from h1)) <| .fin ((ARes.ret (AV.int .i64 4), { boxes := [], toks := [], loops := [] : Heap })) (by simp only [IsRet]; grind [ckS])) (fun h1 => .no (show (decide ((8 : Int) < (↑l.length : Int))) = false from decide_eq_false (show ¬ ((8 : Int) < (↑l.length : Int)) from h1)) <| .cutQ k78_0 [(0, AV.sl .sh (List.map encP l)), (3, AV.int .i64 0)] ({ boxes := [], toks := [], loops := [] : Heap }) (fun T hT => (h (by omega) T hT).to (by grind [ckS])))) (by kernel_rfl)
theorem ckS_loop (l : List Pair) (hn : l.length ≤ 8) : ∀ (post : List Pair) (i : Nat) (bs : List (List AV)) (hd : l.drop i = post) (T : Env) (hT : Has T [(0, .sl .sh (l.map encP)), (8, .sl .sh (l.map encP)), (9, .int .i64 l.length), (10, .int .i64 i)]),
    Goes cfg a83 k83_0 T ⟨bs, [], []⟩ (IsRet (.int .i64 (ckSl l i post))) := by
  intro post
  induction post with
  | nil =>
    intro i bs hd T hT
    have hge := drop_ge hd
    exact goG 60 _  hT  (.no (show (decide ((↑i : Int) < (↑l.length : Int))) = false from decide_eq_false (show ¬ ((↑i : Int) < (↑l.length : Int)) from (by omega))) <| .fin ((ARes.ret (AV.int .i64 0), { boxes := bs, toks := [], loops := [] : Heap })) rfl) (by kernel_rfl)
  | cons x post ih =>
    intro i bs hd T hT
    have hlt := drop_lt hd
    have hnx := drop_next hd
    cases i with
    | zero => exact goG 60 _  hT  (.yes (show (decide ((↑(0 : Nat) : Int) < (↑l.length : Int))) = true from decide_eq_true (show (↑(0 : Nat) : Int) < (↑l.length : Int) from (by omega))) <| .idx (show idxA 2 (AV.sl .sh (List.map encP l)) (AV.int .i64 (↑(0 : Nat) : Int)) = some (AV.ref (encP x).cells) from idx_row hd (by rfl)) <| .load (show loadA true 2 { boxes := bs, toks := [], loops := [] : Heap } (AV.ref [AV.str x.key, AV.str x.val]) = some (AV.agg [AV.str x.key, AV.str x.val]) from rfl) <| .store (show storeA 2 { boxes := bs ++ [[AV.str [], AV.str []]], toks := [], loops := [] : Heap } (AV.ptr bs.length (0 : Nat)) (AV.agg [AV.str x.key, AV.str x.val]) = some ({ boxes := bs ++ [[AV.str x.key, AV.str x.val]], toks := [], loops := [] : Heap }) from store_box2 (cs := [AV.str [], AV.str []]) (cs' := [AV.str x.key, AV.str x.val]) (by simp) rfl (by simp [List.set_append])) <| .load (show loadA false 1 { boxes := bs ++ [[AV.str x.key, AV.str x.val]], toks := [], loops := [] : Heap } (AV.ptr bs.length (0 : Nat)) = some (AV.str x.key) from load_box (cs := [AV.str x.key, AV.str x.val]) (by simp) rfl) <| .callG ([AV.str x.key]) (AV.bool (isName x.key)) (show Gives cfg (143 : FuncId) [AV.str x.key] (AV.bool (isName x.key)) from res_name _) ⟨rfl, rfl⟩ ⟨rfl, rfl⟩ <| .split (isName x.key = true) (fun h1 => .no (show (!isName x.key) = false from by have hh : isName x.key = true := h1; simp [hh]) <| .load (show loadA false 1 { boxes := bs ++ [[AV.str x.key, AV.str x.val]], toks := [], loops := [] : Heap } (AV.ptr bs.length (1 : Nat)) = some (AV.str x.val) from load_box (cs := [AV.str x.key, AV.str x.val]) (by simp) rfl) <| .callG ([AV.str x.val]) (AV.bool (isName x.val)) (show Gives cfg (143 : FuncId) [AV.str x.val] (AV.bool (isName x.val)) from res_name _) ⟨rfl, rfl⟩ ⟨rfl, rfl⟩ <| .split (isName x.val = true) (fun h2 => .no (show (!isName x.val) = false from by have hh : isName x.val = true := h2; simp [hh]) <| .ff <| .ff <| .bin (show binA .add (AV.int .i64 (↑(0 : Nat) : Int)) (AV.int .i64 1) = some (AV.int .i64 (↑((0 : Nat) + (1 : Nat)) : Int)) from inc_i (by omega)) <| .cutQ k83_0 [(0, AV.sl .sh (List.map encP l)), (8, AV.sl .sh (List.map encP l)), (9, AV.int .i64 (↑l.length : Int)), (10, AV.int .i64 (↑((0 : Nat) + (1 : Nat)) : Int))] ({ boxes := bs ++ [[AV.str x.key, AV.str x.val]], toks := [], loops := [] : Heap }) (fun T hT => (ih ((0 : Nat) + (1 : Nat)) (bs ++ [[AV.str x.key, AV.str x.val]]) hnx T hT).to (by grind [ckSl, ordB]))) (fun h2 => .yes (show (!isName x.val) = true from by have hh : ¬ (isName x.val = true) := h2; simp [hh]) <| .fin ((ARes.ret (AV.int .i64 3), { boxes := bs ++ [[AV.str x.key, AV.str x.val]], toks := [], loops := [] : Heap })) (by simp only [IsRet]; grind [ckSl, ordB]))) (fun h1 => .yes (show (!isName x.key) = true from by have hh : ¬ (isName x.key = true) := h1; simp [hh]) <| .tt <| .fin ((ARes.ret (AV.int .i64 3), { boxes := bs ++ [[AV.str x.key, AV.str x.val]], toks := [], loops := [] : Heap })) (by simp only [IsRet]; grind [ckSl, ordB]))) (by kernel_rfl)
    | succ j =>
      obtain ⟨p, hp⟩ : ∃ p, l[j]? = some p := ⟨l[j], List.getElem?_eq_getElem (by omega)⟩
      exact goG 60 _  hT  (.yes (show (decide ((↑(j + (1 : Nat)) : Int) < (↑l.length : Int))) = true from decide_eq_true (show (↑(j + (1 : Nat)) : Int) < (↑l.length : Int) from (by omega))) <| .idx (show idxA 2 (AV.sl .sh (List.map encP l)) (AV.int .i64 (↑(j + (1 : Nat)) : Int)) = some (AV.ref (encP x).cells) from idx_row hd (by rfl)) <| .load (show loadA true 2 { boxes := bs, toks := [], loops := [] : Heap } (AV.ref [AV.str x.key, AV.str x.val]) = some (AV.agg [AV.str x.key, AV.str x.val]) from rfl) <| .store (show storeA 2 { boxes := bs ++ [[AV.str [], AV.str []]], toks := [], loops := [] : Heap } (AV.ptr bs.length (0 : Nat)) (AV.agg [AV.str x.key, AV.str x.val]) = some ({ boxes := bs ++ [[AV.str x.key, AV.str x.val]], toks := [], loops := [] : Heap }) from store_box2 (cs := [AV.str [], AV.str []]) (cs' := [AV.str x.key, AV.str x.val]) (by simp) rfl (by simp [List.set_append])) <| .load (show loadA false 1 { boxes := bs ++ [[AV.str x.key, AV.str x.val]], toks := [], loops := [] : Heap } (AV.ptr bs.length (0 : Nat)) = some (AV.str x.key) from load_box (cs := [AV.str x.key, AV.str x.val]) (by simp) rfl) <| .callG ([AV.str x.key]) (AV.bool (isName x.key)) (show Gives cfg (143 : FuncId) [AV.str x.key] (AV.bool (isName x.key)) from res_name _) ⟨rfl, rfl⟩ ⟨rfl, rfl⟩ <| .split (isName x.key = true) (fun h1 => .no (show (!isName x.key) = false from by have hh : isName x.key = true := h1; simp [hh]) <| .load (show loadA false 1 { boxes := bs ++ [[AV.str x.key, AV.str x.val]], toks := [], loops := [] : Heap } (AV.ptr bs.length (1 : Nat)) = some (AV.str x.val) from load_box (cs := [AV.str x.key, AV.str x.val]) (by simp) rfl) <| .callG ([AV.str x.val]) (AV.bool (isName x.val)) (show Gives cfg (143 : FuncId) [AV.str x.val] (AV.bool (isName x.val)) from res_name _) ⟨rfl, rfl⟩ ⟨rfl, rfl⟩ <| .split (isName x.val = true) (fun h2 => .no (show (!isName x.val) = false from by have hh : isName x.val = true := h2; simp [hh]) <| .yes (show (decide ((0 : Int) < (↑(j + (1 : Nat)) : Int))) = true from decide_eq_true (show (0 : Int) < (↑(j + (1 : Nat)) : Int) from (by omega))) <| .load (show loadA false 1 { boxes := bs ++ [[AV.str x.key, AV.str x.val]], toks := [], loops := [] : Heap } (AV.ptr bs.length (0 : Nat)) = some (AV.str x.key) from load_box (cs := [AV.str x.key, AV.str x.val]) (by simp) rfl) <| .bin (show binA .sub (AV.int .i64 (↑(j + (1 : Nat)) : Int)) (AV.int .i64 1) = some (AV.int .i64 (↑j : Int)) from dec_i (by omega)) <| .idx (show idxA 2 (AV.sl .sh (List.map encP l)) (AV.int .i64 (↑j : Int)) = some (AV.ref (encP p).cells) from idx_get hp (by rfl)) <| .load (show loadA false 1 { boxes := bs ++ [[AV.str x.key, AV.str x.val]], toks := [], loops := [] : Heap } (AV.ref [AV.str p.key]) = some (AV.str p.key) from rfl) <| .split ((Op.bytesLess x.key p.key || x.key == p.key) = true) (fun h3 => .yes (show (Op.bytesLess x.key p.key || x.key == p.key) = true from h3) <| .fin ((ARes.ret (AV.int .i64 13), { boxes := bs ++ [[AV.str x.key, AV.str x.val]], toks := [], loops := [] : Heap })) (by simp only [IsRet]; grind [ckSl, ordB])) (fun h3 => .no (show (Op.bytesLess x.key p.key || x.key == p.key) = false from Bool.eq_false_iff.2 (show ¬ ((Op.bytesLess x.key p.key || x.key == p.key) = true) from h3)) <| .bin (show binA .add (AV.int .i64 (↑(j + (1 : Nat)) : Int)) (AV.int .i64 1) = some (AV.int .i64 (↑(j + (1 : Nat) + (1 : Nat)) : Int)) from inc_i (by omega)) <| .cutQ k83_0 [(0, AV.sl .sh (List.map encP l)), (8, AV.sl .sh (List.map encP l)), (9, AV.int .i64 (↑l.length : Int)), (10, AV.int .i64 (↑(j + (1 : Nat) + (1 : Nat)) : Int))] ({ boxes := bs ++ [[AV.str x.key, AV.str x.val]], toks := [], loops := [] : Heap }) (fun T hT => (ih (j + (1 : Nat) + (1 : Nat)) (bs ++ [[AV.str x.key, AV.str x.val]]) hnx T hT).to (by grind [ckSl, ordB])))) (fun h2 => .yes (show (!isName x.val) = true from by have hh : ¬ (isName x.val = true) := h2; simp [hh]) <| .fin ((ARes.ret (AV.int .i64 3), { boxes := bs ++ [[AV.str x.key, AV.str x.val]], toks := [], loops := [] : Heap })) (by simp only [IsRet]; grind [ckSl, ordB]))) (fun h1 => .yes (show (!isName x.key) = true from by have hh : ¬ (isName x.key = true) := h1; simp [hh]) <| .tt <| .fin ((ARes.ret (AV.int .i64 3), { boxes := bs ++ [[AV.str x.key, AV.str x.val]], toks := [], loops := [] : Heap })) (by simp only [IsRet]; grind [ckSl, ordB]))) (by kernel_rfl)
theorem ckS_any (l : List Pair) : Gives cfg 83 [.sl .sh (l.map encP)] (.int .i64 (ckS l)) := by
  refine Gives.run (l83 _ _) ?_
  have h := fun hn => ckS_loop l hn l 0 [] rfl
  exact goG 60 []  trivial  (.len (show lenA false (AV.sl .sh (List.map encP l)) = some (AV.int .i64 (↑l.length : Int)) from len_map _) <| .split ((8 : Int) < (↑l.length : Int)) (fun h1 => .yes (show (decide ((8 : Int) < (↑l.length : Int))) = true from decide_eq_true (show (8 : Int) < (↑l.length : Int) from h1)) <| .fin ((ARes.ret (AV.int .i64 4), { boxes := [], toks := [], loops := [] : Heap })) (by simp only [IsRet]; grind [ckS])) (fun h1 => .no (show (decide ((8 : Int) < (↑l.length : Int))) = false from decide_eq_false (show ¬ ((8 : Int) < (↑l.length : Int)) from h1)) <| .len (show lenA false (AV.sl .sh (List.map encP l)) = some (AV.int .i64 (↑l.length : Int)) from len_map _) <| .cutQ k83_0 [(0, AV.sl .sh (List.map encP l)), (8, AV.sl .sh (List.map encP l)), (9, AV.int .i64 (↑l.length : Int)), (10, AV.int .i64 0)] ({ boxes := [], toks := [], loops := [] : Heap }) (fun T hT => (h (by omega) T hT).to (by grind [ckS])))) (by kernel_rfl)
def valOk (x : Term) : Bool := if x.op ≤ 2 then isName x.val else decide (x.val = [])
def ckMl : List Term → Int
  | [] => 0
  | x :: post => if 1 ≤ x.op ∧ x.op ≤ 4 then (if isName x.key && valOk x then ckMl post else 3) else 1
def ckM (l : List Term) : Int := if l.length ≤ 8 then ckMl l else 4
end Go.Aa.T

set_option linter.unusedVariables false
set_option linter.unusedSimpArgs false
set_option maxRecDepth 100000
namespace Go.Aa.T
open Go.Aa Go.Proofs


def fidxB {α : Type} (p : α → Bool) : List α → Nat → Int
  | [], _ => -1
  | x :: l, i => if p x then i else fidxB p l (i + 1)
theorem fidxB_ge {α : Type} (p : α → Bool) : ∀ (l : List α) (i : Nat), decide (0 ≤ fidxB p l i) = l.any p
  | [], i => rfl
  | x :: l, i => by
    unfold fidxB
    by_cases h : p x = true
    · simp [h]
    · have := fidxB_ge p l (i + 1); simp [h, this]

end Go.Aa.T

set_option linter.unusedVariables false
set_option linter.unusedSimpArgs false
set_option maxRecDepth 100000
namespace Go.Aa.T
open Go.Aa Go.Proofs
end Go.Aa.T

set_option linter.unusedVariables false
set_option linter.unusedSimpArgs false
set_option maxRecDepth 100000
namespace Go.Aa.T
open Go.Aa Go.Proofs


def goodP (p : Pair) : Bool := isName p.key && isName p.val
def place (s : List Pair) (k : List UInt8) : Nat := (s.takeWhile (fun p => Op.bytesLess p.key k)).length

end Go.Aa.T


set_option linter.unusedVariables false
set_option linter.unusedSimpArgs false
set_option maxRecDepth 100000
namespace Go.Aa.T
open Go.Aa Go.Proofs
def tText (x : Taint) : List UInt8 := if x.hard then x.key ++ [58] ++ x.val ++ [33] else x.key ++ [58] ++ x.val
def pText (x : Pair) : List UInt8 := x.key ++ [58] ++ x.val
def textOf {α : Type} (f : α → List UInt8) (l : List α) : List UInt8 := if l.isEmpty then [45] else Lib.join (l.map f) [44]
theorem tail_len : ∀ (r : List (List UInt8)), (∀ s ∈ r, s.length ≤ 103) → (Lib.joinTail [44] r).length ≤ r.length * 104
  | [], _ => by simp [Lib.joinTail]
  | s :: r, h => by
    have h1 := h s (by simp)
    have h2 := tail_len r (fun y hy => h y (by simp [hy]))
    simp only [Lib.joinTail, List.map_cons, List.flatten_cons, List.length_append, List.length_cons, List.length_nil] at h2 ⊢
    omega
theorem join_len (ss : List (List UInt8)) (h : ∀ s ∈ ss, s.length ≤ 103) (hn : ss.length ≤ 20) : (Lib.join ss [44]).length ≤ 3000 := by
  cases ss with
  | nil => simp [Lib.join_nil]
  | cons x r =>
    rw [Lib.join_cons, List.length_append]
    have h1 := h x (by simp)
    have h2 := tail_len r (fun y hy => h y (by simp [hy]))
    simp only [List.length_cons] at hn
    omega
theorem strsA_map (ss : List (List UInt8)) : strsA (ss.map AV.str) = some ss := by
  induction ss with
  | nil => rfl
  | cons s ss ih => simp [strsA, ih]
theorem join_any (ss : List (List UInt8)) (h1 : ss.length ≤ 140737488355328) (h2 : (Lib.join ss [44]).length ≤ 140737488355328) : Gives cfg 101 [.sl .sh (ss.map AV.str), .str [44]] (.str (Lib.join ss [44])) := by
  refine Gives.of (H' := Heap.nil) ?_
  rw [lim_ext (g := joinE) rfl rfl]
  have : joinE [.sl .sh (ss.map AV.str), .str [44]] Heap.nil = some (.str (Lib.join ss [44]), Heap.nil) := by
    simp only [joinE, strsA_map]
    exact if_pos ⟨h1, h2⟩
  rw [this]; rfl
theorem lenSt {l : List (List UInt8)} : lenOk 1 (l.map AV.str) = true := lenOk_map fun _ => rfl

theorem joined_loop (ss : List (List UInt8)) (total : List UInt8) (hb : total.length ≤ 4611686018427387904) (hn : ss.length ≤ 20) : ∀ (post : List (List UInt8)) (i : Nat) (s : List UInt8) (hd : ss.drop i = post) (hs : s ++ Lib.joinTail [44] post = total) (T : Env)
    (hT : Has T [(0, .sl .sh (ss.map AV.str)), (3, .str s), (4, .int .i64 i)]),
    Goes cfg a142 k142_0 T Heap.nil (IsRet (.str total)) := by
  intro post
  induction post with
  | nil =>
    intro i s hd hs T hT
    have hge := drop_ge hd
    have e : s = total := by simpa [Lib.joinTail] using hs
    subst e
    exact goG 60 _  hT  (.len (show lenA false (AV.sl .sh (List.map AV.str ss)) = some (AV.int .i64 (↑ss.length : Int)) from len_map _) <| .no (show (decide ((↑i : Int) < (↑ss.length : Int))) = false from decide_eq_false (show ¬ ((↑i : Int) < (↑ss.length : Int)) from (by omega))) <| .fin ((ARes.ret (AV.str s), Heap.mk [] [] [])) rfl) (by kernel_rfl)
  | cons y post ih =>
    intro i s hd hs T hT
    have hlt := drop_lt hd
    have hnx := drop_next hd
    have hlen : s.length + 1 + y.length ≤ 4611686018427387904 := by
      rw [← hs] at hb
      simp only [Lib.joinTail, List.map_cons, List.flatten_cons, List.length_append, List.length_cons, List.length_nil] at hb
      omega
    have hs2 : s ++ [44] ++ y ++ Lib.joinTail [44] post = total := by rw [← hs]; simp [Lib.joinTail]
    exact goG 60 _  hT  (.len (show lenA false (AV.sl .sh (List.map AV.str ss)) = some (AV.int .i64 (↑ss.length : Int)) from len_map _) <| .yes (show (decide ((↑i : Int) < (↑ss.length : Int))) = true from decide_eq_true (show (↑i : Int) < (↑ss.length : Int) from (by simp; omega))) <| .bin (show binA .add (AV.str s) (AV.str [(44 : UInt8)]) = some (AV.str (s ++ [(44 : UInt8)])) from str_add (by simp; omega)) <| .idx (show idxA 1 (AV.sl .sh (List.map AV.str ss)) (AV.int .i64 (↑i : Int)) = some (AV.ref (AV.str y).cells) from idx_row hd (by rfl)) <| .bin (show binA .add (AV.str (s ++ [(44 : UInt8)])) (AV.str y) = some (AV.str (s ++ [(44 : UInt8)] ++ y)) from str_add (by simp; omega)) <| .bin (show binA .add (AV.int .i64 (↑i : Int)) (AV.int .i64 1) = some (AV.int .i64 (↑(i + (1 : Nat)) : Int)) from inc_i (by omega)) <| .cutQ k142_0 [(0, AV.sl .sh (List.map AV.str ss)), (3, AV.str (s ++ [(44 : UInt8)] ++ y)), (4, AV.int .i64 (↑(i + (1 : Nat)) : Int))] (Heap.mk [] [] []) (fun T hT => (ih (i + (1 : Nat)) (s ++ [(44 : UInt8)] ++ y) hnx hs2 T hT))) (by kernel_rfl)
theorem joined_any (ss : List (List UInt8)) (hn : ss.length ≤ 20) (hb : (Lib.join ss [44]).length ≤ 3000) : Gives cfg 142 [.sl .sh (ss.map AV.str)] (.str (textOf id ss)) := by
  refine Gives.run (l142 _ _) ?_
  by_cases hs : ss = []
  · subst hs
    exact goG 60 []  trivial  (.len (show lenA false (AV.sl .sh []) = some (AV.int .i64 (↑[].length : Int)) from len_sl _ _) <| .tt <| .fin ((ARes.ret (AV.str [(45 : UInt8)]), Heap.mk [] [] [])) rfl) (by kernel_rfl)
  · obtain ⟨x, r, e⟩ := List.exists_cons_of_ne_nil hs
    have hp : 0 < ss.length := List.length_pos_iff.2 hs
    have h0 : ss[0]? = some x := by rw [e]; rfl
    have hd1 : ss.drop 1 = r := by rw [e]; rfl
    have h := fun hb hn => joined_loop ss (Lib.join ss [44]) hb hn r 1 x hd1 (by rw [e]; exact (Lib.join_cons x r [44]).symm)
    have e : textOf id ss = Lib.join ss [44] := by simp [textOf, hs]
    rw [e]
    exact goG 60 []  trivial  (.len (show lenA false (AV.sl .sh (List.map AV.str ss)) = some (AV.int .i64 (↑ss.length : Int)) from len_map _) <| .no (show ((↑ss.length : Int) == (0 : Int)) = false from beq_eq_false_iff_ne.2 (show ¬ ((↑ss.length : Int) = (0 : Int)) from (by simp at *; omega))) <| .idx (show idxA 1 (AV.sl .sh (List.map AV.str ss)) (AV.int .i64 0) = some (AV.ref (AV.str x).cells) from idx_zero h0 (by rfl)) <| .cutQ k142_0 [(0, AV.sl .sh (List.map AV.str ss)), (3, AV.str x), (4, AV.int .i64 1)] (Heap.mk [] [] []) (fun T hT => (h (by simp at *; omega) hn T hT))) (by kernel_rfl)

theorem tText_len (x : Taint) (hk : x.key.length ≤ 50) (hv : x.val.length ≤ 50) : (tText x).length ≤ 103 := by
  unfold tText
  repeat' split
  all_goals (try simp)
  all_goals omega
theorem tText_one (x : Taint) (hk : x.key.length ≤ 50) (hv : x.val.length ≤ 50) : Gives cfg 167 [encT x] (.str (tText x)) := by
  refine Gives.run (l167 _ _) ?_
  exact goG 60 []  trivial  (.split (x.hard = true) (fun g1 => .yes (show (x.hard) = true from g1) <| .bin (show binA .add (AV.str x.key) (AV.str [(58 : UInt8)]) = some (AV.str (x.key ++ [(58 : UInt8)])) from str_add (by simp; omega)) <| .bin (show binA .add (AV.str (x.key ++ [(58 : UInt8)])) (AV.str x.val) = some (AV.str (x.key ++ [(58 : UInt8)] ++ x.val)) from str_add (by simp; omega)) <| .bin (show binA .add (AV.str (x.key ++ [(58 : UInt8)] ++ x.val)) (AV.str [(33 : UInt8)]) = some (AV.str (x.key ++ [(58 : UInt8)] ++ x.val ++ [(33 : UInt8)])) from str_add (by simp; omega)) <| .fin ((ARes.ret (AV.str (x.key ++ [(58 : UInt8)] ++ x.val ++ [(33 : UInt8)])), Heap.mk [[AV.str x.key, AV.str x.val, AV.bool x.hard]] [] [])) (by simp [IsRet, tText, *])) (fun g1 => .no (show (x.hard) = false from Bool.eq_false_iff.2 (show ¬ (x.hard = true) from g1)) <| .bin (show binA .add (AV.str x.key) (AV.str [(58 : UInt8)]) = some (AV.str (x.key ++ [(58 : UInt8)])) from str_add (by simp; omega)) <| .bin (show binA .add (AV.str (x.key ++ [(58 : UInt8)])) (AV.str x.val) = some (AV.str (x.key ++ [(58 : UInt8)] ++ x.val)) from str_add (by simp; omega)) <| .fin ((ARes.ret (AV.str (x.key ++ [(58 : UInt8)] ++ x.val)), Heap.mk [[AV.str x.key, AV.str x.val, AV.bool x.hard]] [] [])) (by simp [IsRet, tText, *]))) (by kernel_rfl)
theorem tText_loop (l : List Taint) (hn : l.length ≤ 20) (hf : ∀ x ∈ l, x.key.length ≤ 50 ∧ x.val.length ≤ 50) (hj : (Lib.join (l.map tText) [44]).length ≤ 3000) : ∀ (post : List Taint) (i : Nat) (acc : List (List UInt8)) (bs : List (List AV)) (hd : l.drop i = post) (ha : acc.length = i) (hall : acc ++ post.map tText = l.map tText) (T : Env)
    (hT : Has T [(1, .func 167 []), (5, rowS Heap.nil (acc.map AV.str)), (11, .sl .sh (l.map encT)), (12, .int .i64 l.length), (13, .int .i64 i)]),
    Goes cfg a166 k166_0 T (rowH ⟨bs, [], []⟩ (acc.map AV.str)) (IsRet (.str (Lib.join (l.map tText) [44]))) := by
  intro post
  induction post with
  | nil =>
    intro i acc bs hd ha hall T hT
    have hge := drop_ge hd
    have e : acc = l.map tText := by simpa using hall
    subst e
    exact goG 60 _  hT  (.no (show (decide ((↑i : Int) < (↑l.length : Int))) = false from decide_eq_false (show ¬ ((↑i : Int) < (↑l.length : Int)) from (by simp; omega))) <| .callG ([rowS Heap.nil (List.map AV.str (List.map tText l)), AV.str [(44 : UInt8)]]) (AV.str (Lib.join (List.map tText l) [(44 : UInt8)])) (show Gives cfg (101 : FuncId) [AV.sl .sh (List.map AV.str (List.map tText l)), AV.str [(44 : UInt8)]] (AV.str (Lib.join (List.map tText l) [(44 : UInt8)])) from join_any _ (by simp; omega) (by omega)) Shuts.p ⟨rfl, rfl⟩ <| .fin ((ARes.ret (AV.str (Lib.join (List.map tText l) [(44 : UInt8)])), rowH (Heap.mk bs [] []) (List.map AV.str (List.map tText l)))) rfl) (by kernel_rfl)
  | cons x post ih =>
    intro i acc bs hd ha hall T hT
    have hlt := drop_lt hd
    have hnx := drop_next hd
    obtain ⟨hk, hv⟩ := hf x (drop_mem hd)
    have hall2 : (acc ++ [tText x]) ++ post.map tText = l.map tText := by rw [← hall]; simp
    exact goG 60 _  hT  (.yes (show (decide ((↑i : Int) < (↑l.length : Int))) = true from decide_eq_true (show (↑i : Int) < (↑l.length : Int) from (by simp; omega))) <| .idx (show idxA 3 (AV.sl .sh (List.map encT l)) (AV.int .i64 (↑i : Int)) = some (AV.ref (encT x).cells) from idx_row hd (by rfl)) <| .load (row_load (ys := List.map AV.str acc) (show loadA true 3 (Heap.mk bs [] []) (AV.ref [AV.str x.key, AV.str x.val, AV.bool x.hard]) = some (AV.agg [AV.str x.key, AV.str x.val, AV.bool x.hard]) from rfl)) <| .boxR (AV.agg [AV.str [], AV.str [], AV.bool false]) (Heap.mk bs [] []) (List.map AV.str acc) rfl <| .store (row_store (ys := List.map AV.str acc) (show storeA 3 (Heap.mk (bs ++ [[AV.str [], AV.str [], AV.bool false]]) [] []) (AV.ptr (Heap.mk bs [] []).boxes.length (0 : Nat)) (AV.agg [AV.str x.key, AV.str x.val, AV.bool x.hard]) = some (Heap.mk (bs ++ [[AV.str x.key, AV.str x.val, AV.bool x.hard]]) [] []) from store_box2 (cs := [AV.str [], AV.str [], AV.bool false]) (cs' := [AV.str x.key, AV.str x.val, AV.bool x.hard]) (by simp [List.set_append]) rfl (by simp [List.set_append]))) <| .load (row_load (ys := List.map AV.str acc) (show loadA true 3 (Heap.mk (bs ++ [[AV.str x.key, AV.str x.val, AV.bool x.hard]]) [] []) (AV.ptr (Heap.mk bs [] []).boxes.length (0 : Nat)) = some (AV.agg [AV.str x.key, AV.str x.val, AV.bool x.hard]) from load_box (cs := [AV.str x.key, AV.str x.val, AV.bool x.hard]) (by simp [List.set_append]) rfl)) <| .callG ([AV.agg [AV.str x.key, AV.str x.val, AV.bool x.hard]]) (AV.str (tText x)) (show Gives cfg (167 : FuncId) [encT x] (AV.str (tText x)) from tText_one _ hk hv) ⟨rfl, rfl⟩ ⟨rfl, rfl⟩ <| .append (show appendA (1 : Nat) (16 : Nat) (rowH (Heap.mk (bs ++ [[AV.str x.key, AV.str x.val, AV.bool x.hard]]) [] []) (List.map AV.str acc)) (rowS Heap.nil (List.map AV.str acc)) (AV.sl .full [AV.str (tText x)]) = some ((rowS Heap.nil (List.map AV.str (acc ++ [tText x])), rowH (Heap.mk (bs ++ [[AV.str x.key, AV.str x.val, AV.bool x.hard]]) [] []) (List.map AV.str (acc ++ [tText x])))) from row_append_B (by simp; omega) (by exact lenSt) (by rfl) (by rfl)) <| .bin (show binA .add (AV.int .i64 (↑i : Int)) (AV.int .i64 1) = some (AV.int .i64 (↑(i + (1 : Nat)) : Int)) from inc_i (by omega)) <| .cutQ k166_0 [(1, AV.func (167 : FuncId) []), (5, rowS Heap.nil (List.map AV.str (acc ++ [tText x]))), (11, AV.sl .sh (List.map encT l)), (12, AV.int .i64 (↑l.length : Int)), (13, AV.int .i64 (↑(i + (1 : Nat)) : Int))] (rowH (Heap.mk (bs ++ [[AV.str x.key, AV.str x.val, AV.bool x.hard]]) [] []) (List.map AV.str (acc ++ [tText x]))) (fun T hT => (ih (i + (1 : Nat)) (acc ++ [tText x]) (bs ++ [[AV.str x.key, AV.str x.val, AV.bool x.hard]]) hnx (by simp; omega) hall2 T hT))) (by kernel_rfl)
theorem tText_any (l : List Taint) (hf : fewT l = true) : Gives cfg 104 [.sl .sh (l.map encT)] (.str (textOf tText l)) := by
  have hn := fewT_len hf
  have hf2 : ∀ x ∈ l, x.key.length ≤ 50 ∧ x.val.length ≤ 50 := by
    simp only [fewT, few, Bool.and_eq_true, List.all_eq_true, decide_eq_true_eq] at hf
    exact hf.2
  have hj : (Lib.join (l.map tText) [44]).length ≤ 3000 := join_len _ (by
    intro s hs
    obtain ⟨x, hx, rfl⟩ := List.mem_map.1 hs
    exact tText_len x (hf2 x hx).1 (hf2 x hx).2) (by simpa using hn)
  have hjoin : Gives cfg 166 [.sl .sh (l.map encT), .func 167 []] (.str (textOf tText l)) := by
    refine Gives.run (l166 _ _) ?_
    have h := tText_loop l hn hf2 hj l 0 [] [] rfl rfl rfl
    by_cases hl : l = []
    · subst hl
      exact goG 60 []  trivial  (.len (show lenA false (AV.sl .sh []) = some (AV.int .i64 (↑[].length : Int)) from len_sl _ _) <| .tt <| .fin ((ARes.ret (AV.str [(45 : UInt8)]), Heap.mk [] [] [])) rfl) (by kernel_rfl)
    · have hp : 0 < l.length := List.length_pos_iff.2 hl
      have e : textOf tText l = Lib.join (l.map tText) [44] := by simp [textOf, hl]
      rw [e]
      exact goG 60 []  trivial  (.len (show lenA false (AV.sl .sh (List.map encT l)) = some (AV.int .i64 (↑l.length : Int)) from len_map _) <| .no (show ((↑l.length : Int) == (0 : Int)) = false from beq_eq_false_iff_ne.2 (show ¬ ((↑l.length : Int) = (0 : Int)) from (by omega))) <| .len (show lenA false (AV.sl .sh (List.map encT l)) = some (AV.int .i64 (↑l.length : Int)) from len_map _) <| .cutQ k166_0 [(1, AV.func (167 : FuncId) []), (5, AV.sl .full []), (11, AV.sl .sh (List.map encT l)), (12, AV.int .i64 (↑l.length : Int)), (13, AV.int .i64 0)] (Heap.mk [] [] []) (fun T hT => (h T hT))) (by kernel_rfl)
  refine Gives.run (l104 _ _) ?_
  exact goG 60 []  trivial  (.callG ([AV.sl .sh (List.map encT l), AV.func (167 : FuncId) []]) (AV.str (textOf tText l)) (show Gives cfg (166 : FuncId) [AV.sl .sh (List.map encT l), AV.func (167 : FuncId) []] (AV.str (textOf tText l)) from hjoin) ⟨rfl, rfl⟩ ⟨rfl, rfl⟩ <| .fin ((ARes.ret (AV.str (textOf tText l)), Heap.mk [] [] [])) rfl) (by kernel_rfl)


theorem pText_len (x : Pair) (hk : x.key.length ≤ 50) (hv : x.val.length ≤ 50) : (pText x).length ≤ 103 := by
  unfold pText
  repeat' split
  all_goals (try simp)
  all_goals omega
theorem pText_one (x : Pair) (hk : x.key.length ≤ 50) (hv : x.val.length ≤ 50) : Gives cfg 165 [encP x] (.str (pText x)) := by
  refine Gives.run (l165 _ _) ?_
  exact goG 60 []  trivial  (.bin (show binA .add (AV.str x.key) (AV.str [(58 : UInt8)]) = some (AV.str (x.key ++ [(58 : UInt8)])) from str_add (by simp; omega)) <| .bin (show binA .add (AV.str (x.key ++ [(58 : UInt8)])) (AV.str x.val) = some (AV.str (x.key ++ [(58 : UInt8)] ++ x.val)) from str_add (by simp; omega)) <| .fin ((ARes.ret (AV.str (x.key ++ [(58 : UInt8)] ++ x.val)), Heap.mk [[AV.str x.key, AV.str x.val]] [] [])) rfl) (by kernel_rfl)
theorem pText_loop (l : List Pair) (hn : l.length ≤ 20) (hf : ∀ x ∈ l, x.key.length ≤ 50 ∧ x.val.length ≤ 50) (hj : (Lib.join (l.map pText) [44]).length ≤ 3000) : ∀ (post : List Pair) (i : Nat) (acc : List (List UInt8)) (bs : List (List AV)) (hd : l.drop i = post) (ha : acc.length = i) (hall : acc ++ post.map pText = l.map pText) (T : Env)
    (hT : Has T [(1, .func 165 []), (5, rowS Heap.nil (acc.map AV.str)), (11, .sl .sh (l.map encP)), (12, .int .i64 l.length), (13, .int .i64 i)]),
    Goes cfg a164 k164_0 T (rowH ⟨bs, [], []⟩ (acc.map AV.str)) (IsRet (.str (Lib.join (l.map pText) [44]))) := by
  intro post
  induction post with
  | nil =>
    intro i acc bs hd ha hall T hT
    have hge := drop_ge hd
    have e : acc = l.map pText := by simpa using hall
    subst e
    exact goG 60 _  hT  (.no (show (decide ((↑i : Int) < (↑l.length : Int))) = false from decide_eq_false (show ¬ ((↑i : Int) < (↑l.length : Int)) from (by simp; omega))) <| .callG ([rowS Heap.nil (List.map AV.str (List.map pText l)), AV.str [(44 : UInt8)]]) (AV.str (Lib.join (List.map pText l) [(44 : UInt8)])) (show Gives cfg (101 : FuncId) [AV.sl .sh (List.map AV.str (List.map pText l)), AV.str [(44 : UInt8)]] (AV.str (Lib.join (List.map pText l) [(44 : UInt8)])) from join_any _ (by simp; omega) (by omega)) Shuts.p ⟨rfl, rfl⟩ <| .fin ((ARes.ret (AV.str (Lib.join (List.map pText l) [(44 : UInt8)])), rowH (Heap.mk bs [] []) (List.map AV.str (List.map pText l)))) rfl) (by kernel_rfl)
  | cons x post ih =>
    intro i acc bs hd ha hall T hT
    have hlt := drop_lt hd
    have hnx := drop_next hd
    obtain ⟨hk, hv⟩ := hf x (drop_mem hd)
    have hall2 : (acc ++ [pText x]) ++ post.map pText = l.map pText := by rw [← hall]; simp
    exact goG 60 _  hT  (.yes (show (decide ((↑i : Int) < (↑l.length : Int))) = true from decide_eq_true (show (↑i : Int) < (↑l.length : Int) from (by simp; omega))) <| .idx (show idxA 2 (AV.sl .sh (List.map encP l)) (AV.int .i64 (↑i : Int)) = some (AV.ref (encP x).cells) from idx_row hd (by rfl)) <| .load (row_load (ys := List.map AV.str acc) (show loadA true 2 (Heap.mk bs [] []) (AV.ref [AV.str x.key, AV.str x.val]) = some (AV.agg [AV.str x.key, AV.str x.val]) from rfl)) <| .boxR (AV.agg [AV.str [], AV.str []]) (Heap.mk bs [] []) (List.map AV.str acc) rfl <| .store (row_store (ys := List.map AV.str acc) (show storeA 2 (Heap.mk (bs ++ [[AV.str [], AV.str []]]) [] []) (AV.ptr (Heap.mk bs [] []).boxes.length (0 : Nat)) (AV.agg [AV.str x.key, AV.str x.val]) = some (Heap.mk (bs ++ [[AV.str x.key, AV.str x.val]]) [] []) from store_box2 (cs := [AV.str [], AV.str []]) (cs' := [AV.str x.key, AV.str x.val]) (by simp [List.set_append]) rfl (by simp [List.set_append]))) <| .load (row_load (ys := List.map AV.str acc) (show loadA true 2 (Heap.mk (bs ++ [[AV.str x.key, AV.str x.val]]) [] []) (AV.ptr (Heap.mk bs [] []).boxes.length (0 : Nat)) = some (AV.agg [AV.str x.key, AV.str x.val]) from load_box (cs := [AV.str x.key, AV.str x.val]) (by simp [List.set_append]) rfl)) <| .callG ([AV.agg [AV.str x.key, AV.str x.val]]) (AV.str (pText x)) (show Gives cfg (165 : FuncId) [encP x] (AV.str (pText x)) from pText_one _ hk hv) ⟨rfl, rfl⟩ ⟨rfl, rfl⟩ <| .append (show appendA (1 : Nat) (16 : Nat) (rowH (Heap.mk (bs ++ [[AV.str x.key, AV.str x.val]]) [] []) (List.map AV.str acc)) (rowS Heap.nil (List.map AV.str acc)) (AV.sl .full [AV.str (pText x)]) = some ((rowS Heap.nil (List.map AV.str (acc ++ [pText x])), rowH (Heap.mk (bs ++ [[AV.str x.key, AV.str x.val]]) [] []) (List.map AV.str (acc ++ [pText x])))) from row_append_B (by simp; omega) (by exact lenSt) (by rfl) (by rfl)) <| .bin (show binA .add (AV.int .i64 (↑i : Int)) (AV.int .i64 1) = some (AV.int .i64 (↑(i + (1 : Nat)) : Int)) from inc_i (by omega)) <| .cutQ k164_0 [(1, AV.func (165 : FuncId) []), (5, rowS Heap.nil (List.map AV.str (acc ++ [pText x]))), (11, AV.sl .sh (List.map encP l)), (12, AV.int .i64 (↑l.length : Int)), (13, AV.int .i64 (↑(i + (1 : Nat)) : Int))] (rowH (Heap.mk (bs ++ [[AV.str x.key, AV.str x.val]]) [] []) (List.map AV.str (acc ++ [pText x]))) (fun T hT => (ih (i + (1 : Nat)) (acc ++ [pText x]) (bs ++ [[AV.str x.key, AV.str x.val]]) hnx (by simp; omega) hall2 T hT))) (by kernel_rfl)
theorem pText_any (l : List Pair) (hf : fewP l = true) : Gives cfg 103 [.sl .sh (l.map encP)] (.str (textOf pText l)) := by
  have hn := fewP_len hf
  have hf2 : ∀ x ∈ l, x.key.length ≤ 50 ∧ x.val.length ≤ 50 := by
    simp only [fewP, few, Bool.and_eq_true, List.all_eq_true, decide_eq_true_eq] at hf
    exact hf.2
  have hj : (Lib.join (l.map pText) [44]).length ≤ 3000 := join_len _ (by
    intro s hs
    obtain ⟨x, hx, rfl⟩ := List.mem_map.1 hs
    exact pText_len x (hf2 x hx).1 (hf2 x hx).2) (by simpa using hn)
  have hjoin : Gives cfg 164 [.sl .sh (l.map encP), .func 165 []] (.str (textOf pText l)) := by
    refine Gives.run (l164 _ _) ?_
    have h := pText_loop l hn hf2 hj l 0 [] [] rfl rfl rfl
    by_cases hl : l = []
    · subst hl
      exact goG 60 []  trivial  (.len (show lenA false (AV.sl .sh []) = some (AV.int .i64 (↑[].length : Int)) from len_sl _ _) <| .tt <| .fin ((ARes.ret (AV.str [(45 : UInt8)]), Heap.mk [] [] [])) rfl) (by kernel_rfl)
    · have hp : 0 < l.length := List.length_pos_iff.2 hl
      have e : textOf pText l = Lib.join (l.map pText) [44] := by simp [textOf, hl]
      rw [e]
      exact goG 60 []  trivial  (.len (show lenA false (AV.sl .sh (List.map encP l)) = some (AV.int .i64 (↑l.length : Int)) from len_map _) <| .no (show ((↑l.length : Int) == (0 : Int)) = false from beq_eq_false_iff_ne.2 (show ¬ ((↑l.length : Int) = (0 : Int)) from (by omega))) <| .len (show lenA false (AV.sl .sh (List.map encP l)) = some (AV.int .i64 (↑l.length : Int)) from len_map _) <| .cutQ k164_0 [(1, AV.func (165 : FuncId) []), (5, AV.sl .full []), (11, AV.sl .sh (List.map encP l)), (12, AV.int .i64 (↑l.length : Int)), (13, AV.int .i64 0)] (Heap.mk [] [] []) (fun T hT => (h T hT))) (by kernel_rfl)
  refine Gives.run (l103 _ _) ?_
  exact goG 60 []  trivial  (.callG ([AV.sl .sh (List.map encP l), AV.func (165 : FuncId) []]) (AV.str (textOf pText l)) (show Gives cfg (164 : FuncId) [AV.sl .sh (List.map encP l), AV.func (165 : FuncId) []] (AV.str (textOf pText l)) from hjoin) ⟨rfl, rfl⟩ ⟨rfl, rfl⟩ <| .fin ((ARes.ret (AV.str (textOf pText l)), Heap.mk [] [] [])) rfl) (by kernel_rfl)

end Go.Aa.T

set_option linter.unusedVariables false
set_option linter.unusedSimpArgs false
set_option maxRecDepth 100000
namespace Go.Aa.T
open Go.Aa Go.Proofs

theorem ib_none {c : UInt8} : ∀ {a : List UInt8}, c ∉ a → Lib.indexByte a c = -1
  | [], _ => rfl
  | b :: a, h => by
    simp only [List.mem_cons, not_or] at h
    have hb : (b == c) = false := by rw [beq_eq_false_iff_ne]; exact fun e => h.1 e.symm
    unfold Lib.indexByte
    rw [ib_none h.2, hb]
    rfl
theorem ib_at {c : UInt8} {b : List UInt8} : ∀ {a : List UInt8}, c ∉ a → Lib.indexByte (a ++ c :: b) c = (a.length : Int)
  | [], _ => by simp [Lib.indexByte]
  | x :: a, h => by
    simp only [List.mem_cons, not_or] at h
    have hb : (x == c) = false := by rw [beq_eq_false_iff_ne]; exact fun e => h.1 e.symm
    rw [List.cons_append, Lib.indexByte, ib_at h.2, hb]
    have : ((a.length : Int) == -1) = false := by rw [beq_eq_false_iff_ne]; omega
    simp [this]
theorem index1 (f : FuncId) (s : List UInt8) (c : UInt8) (ht : cfg.tryF f = false) (hx : cfg.ext f = some indexE) : Gives cfg f [.str s, .str [c]] (.int .i64 (Lib.indexByte s c)) := by
  refine Gives.of (H' := Heap.nil) ?_
  rw [lim_ext ht hx]; rfl
theorem count1 (s : List UInt8) (c : UInt8) : Gives cfg 193 [.str s, .str [c]] (.int .i64 (Lib.countByte s c : Nat)) := by
  refine Gives.of (H' := Heap.nil) ?_
  rw [lim_ext (g := countE) rfl rfl]; rfl
theorem cut_hit (a b : List UInt8) (c : UInt8) (h : c ∉ a) (hl : a.length + b.length ≤ 1000) : Gives cfg 151 [.str (a ++ c :: b), .str [c]] (.tuple [.str a, .str b, .bool true]) := by
  have hi : Gives cfg 225 [.str (a ++ c :: b), .str [c]] (.int .i64 (a.length : Nat)) := by
    have := index1 225 (a ++ c :: b) c rfl rfl
    rwa [ib_at h] at this
  have e1 : (a ++ c :: b).take a.length = a := by simp
  have e2 : (a ++ c :: b).drop (a.length + 1) = b := by rw [List.drop_append]; simp
  have hc : Gives cfg 196 [.str (a ++ c :: b), .str [c]] (.tuple [.str a, .str b, .bool true]) := by
    refine Gives.run (l196 _ _) ?_
    exact goG 60 []  trivial  (.callG ([AV.str (a ++ c :: b), AV.str [c]]) (AV.int .i64 (↑a.length : Int)) (show Gives cfg (225 : FuncId) [AV.str (a ++ c :: b), AV.str [c]] (AV.int .i64 (↑a.length : Int)) from hi) ⟨rfl, rfl⟩ ⟨rfl, rfl⟩ <| .tt <| .slice (show sliceA (0 : Nat) (AV.str (a ++ c :: b)) none (some (AV.int .i64 (↑a.length : Int))) none = some (AV.str (List.take a.length (a ++ c :: b))) from sstr_to (by simp)) <| .len (show lenA true (AV.str [c]) = some (AV.int .i64 (↑[c].length : Int)) from len_str _) <| .bin (show binA .add (AV.int .i64 (↑a.length : Int)) (AV.int .i64 (↑[c].length : Int)) = some (AV.int .i64 (↑(a.length + (1 : Nat)) : Int)) from inc_i (by omega)) <| .slice (show sliceA (0 : Nat) (AV.str (a ++ c :: b)) (some (AV.int .i64 (↑(a.length + (1 : Nat)) : Int))) none none = some (AV.str (List.drop (a.length + (1 : Nat)) (a ++ c :: b))) from sstr_from (by simp)) <| .fin ((ARes.ret (AV.tuple [AV.str (List.take a.length (a ++ c :: b)), AV.str (List.drop (a.length + (1 : Nat)) (a ++ c :: b)), AV.bool true]), Heap.mk [] [] [])) (by simp only [IsRet, e1, e2])) (by kernel_rfl)
  refine Gives.run (l151 _ _) ?_
  exact goG 60 []  trivial  (.callG ([AV.str (a ++ c :: b), AV.str [c]]) (AV.tuple [AV.str a, AV.str b, AV.bool true]) (show Gives cfg (196 : FuncId) [AV.str (a ++ c :: b), AV.str [c]] (AV.tuple [AV.str a, AV.str b, AV.bool true]) from hc) ⟨rfl, rfl⟩ ⟨rfl, rfl⟩ <| .fin ((ARes.ret (AV.tuple [AV.str a, AV.str b, AV.bool true]), Heap.mk [] [] [])) rfl) (by kernel_rfl)
theorem cut_miss (a : List UInt8) (c : UInt8) (h : c ∉ a) : Gives cfg 151 [.str a, .str [c]] (.tuple [.str a, .str [], .bool false]) := by
  have hi : Gives cfg 225 [.str a, .str [c]] (.int .i64 (-1)) := by
    have := index1 225 a c rfl rfl
    rwa [ib_none h] at this
  have hc : Gives cfg 196 [.str a, .str [c]] (.tuple [.str a, .str [], .bool false]) := by
    refine Gives.run (l196 _ _) ?_
    exact goG 60 []  trivial  (.callG ([AV.str a, AV.str [c]]) (AV.int .i64 (-1 : Int)) (show Gives cfg (225 : FuncId) [AV.str a, AV.str [c]] (AV.int .i64 (-1 : Int)) from hi) ⟨rfl, rfl⟩ ⟨rfl, rfl⟩ <| .ff <| .fin ((ARes.ret (AV.tuple [AV.str a, AV.str [], AV.bool false]), Heap.mk [] [] [])) rfl) (by kernel_rfl)
  refine Gives.run (l151 _ _) ?_
  exact goG 60 []  trivial  (.callG ([AV.str a, AV.str [c]]) (AV.tuple [AV.str a, AV.str [], AV.bool false]) (show Gives cfg (196 : FuncId) [AV.str a, AV.str [c]] (AV.tuple [AV.str a, AV.str [], AV.bool false]) from hc) ⟨rfl, rfl⟩ ⟨rfl, rfl⟩ <| .fin ((ARes.ret (AV.tuple [AV.str a, AV.str [], AV.bool false]), Heap.mk [] [] [])) rfl) (by kernel_rfl)
theorem contains_no (a : List UInt8) (c : UInt8) (h : c ∉ a) : Gives cfg 155 [.str a, .str [c]] (.bool false) := by
  have hi : Gives cfg 194 [.str a, .str [c]] (.int .i64 (-1)) := by
    have := index1 194 a c rfl rfl
    rwa [ib_none h] at this
  refine Gives.run (l155 _ _) ?_
  exact goG 60 []  trivial  (.callG ([AV.str a, AV.str [c]]) (AV.int .i64 (-1 : Int)) (show Gives cfg (194 : FuncId) [AV.str a, AV.str [c]] (AV.int .i64 (-1 : Int)) from hi) ⟨rfl, rfl⟩ ⟨rfl, rfl⟩ <| .fin ((ARes.ret (AV.bool (decide ((0 : Int) ≤ (-1 : Int)))), Heap.mk [] [] [])) rfl) (by kernel_rfl)
theorem suffix_hit (a : List UInt8) (c : UInt8) (hl : a.length ≤ 1000) : Gives cfg 159 [.str (a ++ [c]), .str [c]] (.tuple [.str a, .bool true]) := by
  have e1 : (a ++ [c]).take a.length = a := by simp
  have e2 : (a ++ [c]).drop a.length = [c] := by simp
  have es : ((a ++ [c]).length : Int) - 1 = (a.length : Nat) := by simp
  have hsub : binA .sub (.int .i64 ((a ++ [c]).length : Nat)) (.int .i64 1) = some (.int .i64 (a.length : Nat)) := by rw [subI (by simp <;> omega) (by simp <;> omega), es]
  have h1 : Gives cfg 229 [.str (a ++ [c]), .str [c]] (.bool true) := by
    refine Gives.run (l229 _ _) ?_
    exact goG 60 []  trivial  (.len (show lenA true (AV.str (a ++ [c])) = some (AV.int .i64 (↑(a ++ [c]).length : Int)) from len_str _) <| .len (show lenA true (AV.str [c]) = some (AV.int .i64 (↑[c].length : Int)) from len_str _) <| .yes (show (decide ((↑[c].length : Int) ≤ (↑(a ++ [c]).length : Int))) = true from decide_eq_true (show (↑[c].length : Int) ≤ (↑(a ++ [c]).length : Int) from (by simp; omega))) <| .len (show lenA true (AV.str (a ++ [c])) = some (AV.int .i64 (↑(a ++ [c]).length : Int)) from len_str _) <| .len (show lenA true (AV.str [c]) = some (AV.int .i64 (↑[c].length : Int)) from len_str _) <| .bin (show binA .sub (AV.int .i64 (↑(a ++ [c]).length : Int)) (AV.int .i64 (↑[c].length : Int)) = some (AV.int .i64 (↑a.length : Int)) from hsub) <| .slice (show sliceA (0 : Nat) (AV.str (a ++ [c])) (some (AV.int .i64 (↑a.length : Int))) none none = some (AV.str (List.drop a.length (a ++ [c]))) from sstr_from (by simp)) <| .fin ((ARes.ret (AV.bool (List.drop a.length (a ++ [c]) == [c])), Heap.mk [] [] [])) (by simp [IsRet, e2])) (by kernel_rfl)
  have h2 : Gives cfg 200 [.str (a ++ [c]), .str [c]] (.tuple [.str a, .bool true]) := by
    refine Gives.run (l200 _ _) ?_
    exact goG 60 []  trivial  (.callG ([AV.str (a ++ [c]), AV.str [c]]) (AV.bool true) (show Gives cfg (229 : FuncId) [AV.str (a ++ [c]), AV.str [c]] (AV.bool true) from h1) ⟨rfl, rfl⟩ ⟨rfl, rfl⟩ <| .ff <| .len (show lenA true (AV.str (a ++ [c])) = some (AV.int .i64 (↑(a ++ [c]).length : Int)) from len_str _) <| .len (show lenA true (AV.str [c]) = some (AV.int .i64 (↑[c].length : Int)) from len_str _) <| .bin (show binA .sub (AV.int .i64 (↑(a ++ [c]).length : Int)) (AV.int .i64 (↑[c].length : Int)) = some (AV.int .i64 (↑a.length : Int)) from hsub) <| .slice (show sliceA (0 : Nat) (AV.str (a ++ [c])) none (some (AV.int .i64 (↑a.length : Int))) none = some (AV.str (List.take a.length (a ++ [c]))) from sstr_to (by simp)) <| .fin ((ARes.ret (AV.tuple [AV.str (List.take a.length (a ++ [c])), AV.bool true]), Heap.mk [] [] [])) (by simp only [IsRet, e1])) (by kernel_rfl)
  refine Gives.run (l159 _ _) ?_
  exact goG 60 []  trivial  (.callG ([AV.str (a ++ [c]), AV.str [c]]) (AV.tuple [AV.str a, AV.bool true]) (show Gives cfg (200 : FuncId) [AV.str (a ++ [c]), AV.str [c]] (AV.tuple [AV.str a, AV.bool true]) from h2) ⟨rfl, rfl⟩ ⟨rfl, rfl⟩ <| .fin ((ARes.ret (AV.tuple [AV.str a, AV.bool true]), Heap.mk [] [] [])) rfl) (by kernel_rfl)

theorem name_no {s : List UInt8} (h : isName s = true) {c : UInt8} (hc : nameCh c = false) : c ∉ s := by
  intro hm
  simp only [isName, Bool.and_eq_true, List.all_eq_true] at h
  rw [h.2 c hm] at hc; cases hc
theorem name_len {s : List UInt8} (h : isName s = true) : s.length ≤ 12 := by
  simp only [isName, Bool.and_eq_true, decide_eq_true_eq] at h
  exact h.1.2

def goodT (x : Taint) : Bool := isName x.key && isName x.val
end Go.Aa.T

set_option linter.unusedVariables false
set_option linter.unusedSimpArgs false
set_option maxRecDepth 100000
namespace Go.Aa.T
open Go.Aa Go.Proofs
theorem count_no {c : UInt8} {s : List UInt8} (h : c ∉ s) : Lib.countByte s c = 0 := List.count_eq_zero.2 h

theorem pText_ok (x : Pair) (h : goodP x = true) : pText x ≠ [] ∧ (44 : UInt8) ∉ pText x := by
  simp only [goodP, Bool.and_eq_true] at h
  simp [pText, name_no h.1 (c := 44) rfl, name_no h.2 (c := 44) rfl]
theorem tText_ok (x : Taint) (h : goodT x = true) : tText x ≠ [] ∧ (44 : UInt8) ∉ tText x := by
  simp only [goodT, Bool.and_eq_true] at h
  unfold tText
  split <;> simp [name_no h.1 (c := 44) rfl, name_no h.2 (c := 44) rfl]
end Go.Aa.T

set_option linter.unusedVariables false
set_option linter.unusedSimpArgs false
set_option maxRecDepth 100000
namespace Go.Aa.T
open Go.Aa Go.Proofs
def cutAt (c : UInt8) : List UInt8 → Option (List UInt8 × List UInt8)
  | [] => none
  | b :: r => if b = c then some ([], r) else (cutAt c r).map fun p => (b :: p.1, p.2)
theorem cutAt_none {c : UInt8} : ∀ {w : List UInt8}, cutAt c w = none → c ∉ w
  | [], _ => by simp
  | b :: r, h => by
    unfold cutAt at h
    split at h
    · cases h
    · rename_i hb
      have := cutAt_none (w := r) (by simpa using h)
      simp only [List.mem_cons, not_or]
      exact ⟨fun e => hb e.symm, this⟩
theorem cutAt_some {c : UInt8} : ∀ {w a b : List UInt8}, cutAt c w = some (a, b) → w = a ++ c :: b ∧ c ∉ a
  | [], _, _, h => by cases h
  | x :: r, a, b, h => by
    unfold cutAt at h
    split at h
    · rename_i hx
      simp only [Option.some.injEq, Prod.mk.injEq] at h
      obtain ⟨rfl, rfl⟩ := h
      subst hx
      simp
    · rename_i hx
      simp only [Option.map_eq_some_iff, Prod.mk.injEq, Prod.exists] at h
      obtain ⟨a', b', h1, rfl, rfl⟩ := h
      obtain ⟨e, hn⟩ := cutAt_some h1
      refine ⟨by rw [e]; rfl, ?_⟩
      simp only [List.mem_cons, not_or]
      exact ⟨fun e => hx e.symm, hn⟩
def parts (c : UInt8) : List UInt8 → List (List UInt8)
  | [] => [[]]
  | b :: r => if b = c then [] :: parts c r else match parts c r with
    | [] => [[b]]
    | x :: xs => (b :: x) :: xs
theorem parts_none {c : UInt8} : ∀ {w : List UInt8}, c ∉ w → parts c w = [w]
  | [], _ => rfl
  | b :: r, h => by
    simp only [List.mem_cons, not_or] at h
    have hb : ¬ b = c := fun e => h.1 e.symm
    simp only [parts, if_neg hb, parts_none h.2]
theorem parts_some {c : UInt8} {b : List UInt8} : ∀ {a : List UInt8}, c ∉ a → parts c (a ++ c :: b) = a :: parts c b
  | [], _ => by simp [parts]
  | x :: a, h => by
    simp only [List.mem_cons, not_or] at h
    have hb : ¬ x = c := fun e => h.1 e.symm
    simp only [List.cons_append, parts, if_neg hb, parts_some h.2]
def foldE {α : Type} (f : α → List UInt8 → Option α) (a : α) : List (List UInt8) → Option α
  | [] => some a
  | p :: ps => match f a p with
    | some a' => foldE f a' ps
    | none => none
section
variable {α : Type} (o0 o1 o2 o3 : α → List AV) (tk : α → List Nat) (rc : LRec) (v : AV) (I : α → Nat → Prop)
def hS (a : α) (rest : List UInt8) : Heap := ⟨[o0 a, o1 a, o2 a, o3 a, [.str rest], [.str [44]], [.int .i64 0]], tk a, [rc]⟩
def hB (a : α) (rest : List UInt8) : Heap := ⟨[o0 a, o1 a, o2 a, o3 a, [.str rest], [.str [44]], [.int .i64 0]], tk a, [{ rc with busy := true }]⟩
def SeqR (f : α → List UInt8 → Option α) (a : α) (rest : List UInt8) (r : ARes × Heap) : Prop := match foldE f a (parts 44 rest) with
  | some a' => ∃ last, r = (.ret (.tuple []), hS o0 o1 o2 o3 tk rc a' last)
  | none => ∃ a' last, r = (.pan v, hB o0 o1 o2 o3 tk rc a' last)
theorem Goes.imp {A : AFunc} {k : List AIt} {T : Env} {H : Heap} {R R' : ARes × Heap → Prop} (h : Goes cfg A k T H R) (i : ∀ r, R r → R' r) : Goes cfg A k T H R' := by
  obtain ⟨r, h1, h2⟩ := h
  exact ⟨r, h1, i r h2⟩
theorem seq_run (f : α → List UInt8 → Option α) (hI : ∀ a x a' m, I a (x.length + 1 + m) → f a x = some a' → I a' m)
    (hy : ∀ a p rest a', p.length ≤ 1000 → I a rest.length → f a p = some a' → Does cfg (.call (.c (.yield 0)) [.c (.str p)]) (hS o0 o1 o2 o3 tk rc a rest) (.bool true) (hS o0 o1 o2 o3 tk rc a' rest))
    (hn : ∀ a p rest, p.length ≤ 1000 → I a rest.length → f a p = none → DoesP cfg (.call (.c (.yield 0)) [.c (.str p)]) (hS o0 o1 o2 o3 tk rc a rest) v (hB o0 o1 o2 o3 tk rc a rest)) :
    ∀ (n : Nat) (rest : List UInt8) (hr : rest.length ≤ n) (hl : rest.length ≤ 1000) (a : α) (ha : I a rest.length) (T : Env) (hT : Has T [(0, .yield 0), (1, .ptr 5 0), (2, .ptr 4 0), (3, .ptr 6 0)]),
      Goes cfg a226 k226_1 T (hS o0 o1 o2 o3 tk rc a rest) (SeqR o0 o1 o2 o3 tk rc v f a rest) := by
  intro n
  induction n with
  | zero =>
    intro rest hr hl a ha T hT
    have e : rest = [] := List.length_eq_zero_iff.1 (by omega)
    subst e
    have hi : Gives cfg 194 [.str [], .str [44]] (.int .i64 (-1)) := index1 194 [] 44 rfl rfl
    cases hf : f a [] with
    | some a' =>
      have hd := hy a [] [] a' (by simp) ha hf
      have key : Goes cfg a226 k226_1 T (hS o0 o1 o2 o3 tk rc a []) (fun r => r = (.ret (.tuple []), hS o0 o1 o2 o3 tk rc a' [])) := by
        exact goG 60 _  hT  (.callG ([AV.str [], AV.str [(44 : UInt8)]]) (AV.int .i64 (-1 : Int)) (show Gives cfg (194 : FuncId) [AV.str [], AV.str [(44 : UInt8)]] (AV.int .i64 (-1 : Int)) from hi) ⟨rfl, rfl⟩ ⟨rfl, rfl⟩ <| .tt <| .effY (show Does cfg (AOp.call (Opd.c (AV.yield (0 : Nat))) [Opd.c (AV.str [])]) (hS o0 o1 o2 o3 tk rc a []) (AV.bool true) (hS o0 o1 o2 o3 tk rc a' []) from hd) <| .fin ((ARes.ret (AV.tuple []), { boxes := [o0 a', o1 a', o2 a', o3 a', [AV.str []], [AV.str [(44 : UInt8)]], [AV.int .i64 0]], toks := tk a', loops := [rc] : Heap })) rfl) (by kernel_rfl)
      refine Goes.imp key ?_
      rintro r rfl
      simp only [SeqR, parts, foldE, hf]
      exact ⟨_, rfl⟩
    | none =>
      have hd := hn a [] [] (by simp) ha hf
      have key : Goes cfg a226 k226_1 T (hS o0 o1 o2 o3 tk rc a []) (fun r => r = (.pan v, hB o0 o1 o2 o3 tk rc a [])) := by
        exact goG 60 _  hT  (.callG ([AV.str [], AV.str [(44 : UInt8)]]) (AV.int .i64 (-1 : Int)) (show Gives cfg (194 : FuncId) [AV.str [], AV.str [(44 : UInt8)]] (AV.int .i64 (-1 : Int)) from hi) ⟨rfl, rfl⟩ ⟨rfl, rfl⟩ <| .tt <| .panY (show DoesP cfg (AOp.call (Opd.c (AV.yield (0 : Nat))) [Opd.c (AV.str [])]) (hS o0 o1 o2 o3 tk rc a []) v (hB o0 o1 o2 o3 tk rc a []) from hd) rfl) (by kernel_rfl)
      refine Goes.imp key ?_
      rintro r rfl
      simp only [SeqR, parts, foldE, hf]
      exact ⟨_, _, rfl⟩
  | succ n ih =>
    intro rest hr hl a ha T hT
    cases hc : cutAt 44 rest with
    | none =>
      have hm := cutAt_none hc
      have hi : Gives cfg 194 [.str rest, .str [44]] (.int .i64 (-1)) := by
        have := index1 194 rest 44 rfl rfl
        rwa [ib_none hm] at this
      have ep := parts_none hm
      cases hf : f a rest with
      | some a' =>
        have hd := hy a rest rest a' hl ha hf
        have key : Goes cfg a226 k226_1 T (hS o0 o1 o2 o3 tk rc a rest) (fun r => r = (.ret (.tuple []), hS o0 o1 o2 o3 tk rc a' rest)) := by
          exact goG 60 _  hT  (.callG ([AV.str rest, AV.str [(44 : UInt8)]]) (AV.int .i64 (-1 : Int)) (show Gives cfg (194 : FuncId) [AV.str rest, AV.str [(44 : UInt8)]] (AV.int .i64 (-1 : Int)) from hi) ⟨rfl, rfl⟩ ⟨rfl, rfl⟩ <| .tt <| .effY (show Does cfg (AOp.call (Opd.c (AV.yield (0 : Nat))) [Opd.c (AV.str rest)]) (hS o0 o1 o2 o3 tk rc a rest) (AV.bool true) (hS o0 o1 o2 o3 tk rc a' rest) from hd) <| .fin ((ARes.ret (AV.tuple []), { boxes := [o0 a', o1 a', o2 a', o3 a', [AV.str rest], [AV.str [(44 : UInt8)]], [AV.int .i64 0]], toks := tk a', loops := [rc] : Heap })) rfl) (by kernel_rfl)
        refine Goes.imp key ?_
        rintro r rfl
        simp only [SeqR, ep, foldE, hf]
        exact ⟨_, rfl⟩
      | none =>
        have hd := hn a rest rest hl ha hf
        have key : Goes cfg a226 k226_1 T (hS o0 o1 o2 o3 tk rc a rest) (fun r => r = (.pan v, hB o0 o1 o2 o3 tk rc a rest)) := by
          exact goG 60 _  hT  (.callG ([AV.str rest, AV.str [(44 : UInt8)]]) (AV.int .i64 (-1 : Int)) (show Gives cfg (194 : FuncId) [AV.str rest, AV.str [(44 : UInt8)]] (AV.int .i64 (-1 : Int)) from hi) ⟨rfl, rfl⟩ ⟨rfl, rfl⟩ <| .tt <| .panY (show DoesP cfg (AOp.call (Opd.c (AV.yield (0 : Nat))) [Opd.c (AV.str rest)]) (hS o0 o1 o2 o3 tk rc a rest) v (hB o0 o1 o2 o3 tk rc a rest) from hd) rfl) (by kernel_rfl)
        refine Goes.imp key ?_
        rintro r rfl
        simp only [SeqR, ep, foldE, hf]
        exact ⟨_, _, rfl⟩
    | some p =>
      obtain ⟨x, y⟩ := p
      obtain ⟨rfl, hm⟩ := cutAt_some hc
      have hi : Gives cfg 194 [.str (x ++ 44 :: y), .str [44]] (.int .i64 (x.length : Nat)) := by
        have := index1 194 (x ++ 44 :: y) 44 rfl rfl
        rwa [ib_at hm] at this
      have ep : parts 44 (x ++ 44 :: y) = x :: parts 44 y := parts_some hm
      have hlx : x.length + y.length + 1 ≤ 1000 := by simpa [Nat.add_assoc] using hl
      have hry : y.length ≤ n := by
        have : x.length + (y.length + 1) ≤ n + 1 := by simpa using hr
        omega
      have h0 : binA .add (.int .i64 (x.length : Nat)) (.int .i64 0) = some (.int .i64 (x.length : Nat)) := by
        rw [addI (by omega) (by omega), Int.add_zero]
      have s1 : sliceA 0 (.str (x ++ 44 :: y)) none (some (.int .i64 (x.length : Nat))) none = some (.str x) := by
        rw [sstr_to (by simp)]; simp
      have s2 : sliceA 0 (.str (x ++ 44 :: y)) (some (.int .i64 ((x.length + 1 : Nat) : Int))) none none = some (.str y) := by
        rw [sstr_from (by simp), List.drop_append]; simp
      cases hf : f a x with
      | some a' =>
        have hd := hy a x (x ++ 44 :: y) a' (by omega) ha hf
        have e : SeqR o0 o1 o2 o3 tk rc v f a (x ++ 44 :: y) = SeqR o0 o1 o2 o3 tk rc v f a' y := by
          funext r
          simp only [SeqR, ep, foldE, hf]
        rw [e]
        have ha2 : I a' y.length := hI a x a' y.length (by simpa [Nat.add_assoc, Nat.add_comm 1] using ha) hf
        have ih2 := ih y hry (by omega) a' ha2
        exact goG 60 _  hT  (.callG ([AV.str (x ++ (44 : UInt8) :: y), AV.str [(44 : UInt8)]]) (AV.int .i64 (↑x.length : Int)) (show Gives cfg (194 : FuncId) [AV.str (x ++ (44 : UInt8) :: y), AV.str [(44 : UInt8)]] (AV.int .i64 (↑x.length : Int)) from hi) ⟨rfl, rfl⟩ ⟨rfl, rfl⟩ <| .ff <| .bin (show binA .add (AV.int .i64 (↑x.length : Int)) (AV.int .i64 0) = some (AV.int .i64 (↑x.length : Int)) from h0) <| .slice (show sliceA (0 : Nat) (AV.str (x ++ (44 : UInt8) :: y)) none (some (AV.int .i64 (↑x.length : Int))) none = some (AV.str x) from s1) <| .effY (show Does cfg (AOp.call (Opd.c (AV.yield (0 : Nat))) [Opd.c (AV.str x)]) (hS o0 o1 o2 o3 tk rc a (x ++ (44 : UInt8) :: y)) (AV.bool true) (hS o0 o1 o2 o3 tk rc a' (x ++ (44 : UInt8) :: y)) from hd) <| .ff <| .len (show lenA true (AV.str [(44 : UInt8)]) = some (AV.int .i64 (↑[(44 : UInt8)].length : Int)) from len_str _) <| .bin (show binA .add (AV.int .i64 (↑x.length : Int)) (AV.int .i64 (↑[(44 : UInt8)].length : Int)) = some (AV.int .i64 (↑(x.length + (1 : Nat)) : Int)) from inc_i (by omega)) <| .slice (show sliceA (0 : Nat) (AV.str (x ++ (44 : UInt8) :: y)) (some (AV.int .i64 (↑(x.length + (1 : Nat)) : Int))) none none = some (AV.str y) from s2) <| .cutQ k226_1 [(0, AV.yield (0 : Nat)), (1, AV.ptr 5 0), (2, AV.ptr 4 0), (3, AV.ptr 6 0)] ({ boxes := [o0 a', o1 a', o2 a', o3 a', [AV.str y], [AV.str [(44 : UInt8)]], [AV.int .i64 0]], toks := tk a', loops := [rc] : Heap }) (fun T hT => (ih2 T hT))) (by kernel_rfl)
      | none =>
        have hd := hn a x (x ++ 44 :: y) (by omega) ha hf
        have key : Goes cfg a226 k226_1 T (hS o0 o1 o2 o3 tk rc a (x ++ 44 :: y)) (fun r => r = (.pan v, hB o0 o1 o2 o3 tk rc a (x ++ 44 :: y))) := by
          exact goG 60 _  hT  (.callG ([AV.str (x ++ (44 : UInt8) :: y), AV.str [(44 : UInt8)]]) (AV.int .i64 (↑x.length : Int)) (show Gives cfg (194 : FuncId) [AV.str (x ++ (44 : UInt8) :: y), AV.str [(44 : UInt8)]] (AV.int .i64 (↑x.length : Int)) from hi) ⟨rfl, rfl⟩ ⟨rfl, rfl⟩ <| .ff <| .bin (show binA .add (AV.int .i64 (↑x.length : Int)) (AV.int .i64 0) = some (AV.int .i64 (↑x.length : Int)) from h0) <| .slice (show sliceA (0 : Nat) (AV.str (x ++ (44 : UInt8) :: y)) none (some (AV.int .i64 (↑x.length : Int))) none = some (AV.str x) from s1) <| .panY (show DoesP cfg (AOp.call (Opd.c (AV.yield (0 : Nat))) [Opd.c (AV.str x)]) (hS o0 o1 o2 o3 tk rc a (x ++ (44 : UInt8) :: y)) v (hB o0 o1 o2 o3 tk rc a (x ++ (44 : UInt8) :: y)) from hd) rfl) (by kernel_rfl)
        refine Goes.imp key ?_
        rintro r rfl
        simp only [SeqR, ep, foldE, hf]
        exact ⟨_, _, rfl⟩
theorem seq_call (f : α → List UInt8 → Option α) (hI : ∀ a x a' m, I a (x.length + 1 + m) → f a x = some a' → I a' m)
    (hy : ∀ a p rest a', p.length ≤ 1000 → I a rest.length → f a p = some a' → Does cfg (.call (.c (.yield 0)) [.c (.str p)]) (hS o0 o1 o2 o3 tk rc a rest) (.bool true) (hS o0 o1 o2 o3 tk rc a' rest))
    (hn : ∀ a p rest, p.length ≤ 1000 → I a rest.length → f a p = none → DoesP cfg (.call (.c (.yield 0)) [.c (.str p)]) (hS o0 o1 o2 o3 tk rc a rest) v (hB o0 o1 o2 o3 tk rc a rest))
    (rest : List UInt8) (hl : rest.length ≤ 1000) (a : α) (ha : I a rest.length) : ∃ r, lim cfg (.fn 226) [.yield 0, .ptr 5 0, .ptr 4 0, .ptr 6 0] (hS o0 o1 o2 o3 tk rc a rest) = some r ∧ SeqR o0 o1 o2 o3 tk rc v f a rest r := by
  rw [l226]
  have h := seq_run o0 o1 o2 o3 tk rc v I f hI hy hn rest.length rest (Nat.le_refl _) hl a ha
  have key : Goes cfg a226 [.c c226] (initEnv [.yield 0, .ptr 5 0, .ptr 4 0, .ptr 6 0]) (hS o0 o1 o2 o3 tk rc a rest) (SeqR o0 o1 o2 o3 tk rc v f a rest) := by
    exact goG 60 []  trivial  (.len (show lenA true (AV.str [(44 : UInt8)]) = some (AV.int .i64 (↑[(44 : UInt8)].length : Int)) from len_str _) <| .ff <| .cutQ k226_1 [(0, AV.yield (0 : Nat)), (1, AV.ptr 5 0), (2, AV.ptr 4 0), (3, AV.ptr 6 0)] ({ boxes := [o0 a, o1 a, o2 a, o3 a, [AV.str rest], [AV.str [(44 : UInt8)]], [AV.int .i64 0]], toks := tk a, loops := [rc] : Heap }) (fun T hT => (h T hT))) (by kernel_rfl)
  exact key
end
end Go.Aa.T

set_option linter.unusedVariables false
set_option linter.unusedSimpArgs false
set_option maxRecDepth 100000
namespace Go.Aa.T
open Go.Aa Go.Proofs
def stopV (e : Int) : AV := .iface 216 (.agg [.int .i64 e])
theorem stop_ok : Gives cfg 94 [.int .i64 0] (.tuple []) := by
  refine Gives.run (l94 _ _) ?_
  exact goG 60 []  trivial  (.ff <| .fin ((ARes.ret (AV.tuple []), { boxes := [], toks := [], loops := [] : Heap })) rfl) (by kernel_rfl)
theorem stop_pan {e : Int} (h : ¬ e = 0) : Pans cfg 94 [.int .i64 e] (stopV e) := by
  refine Pans.run (l94 _ _) ?_
  exact goG 60 [] trivial (.op (.bin .neq (.c (.int .i64 e)) (.c (.int .i64 0))) (.bool true) (pure_step (fun _ => neqT (k := .i64) h) fun _ _ _ => rfl) <| .tt <| .panicI 216 (.agg [.int .i64 e]) Heap.nil rfl) (by kernel_rfl)
def collect {X : Type} (pf : List UInt8 → Option X) (acc : List X) (p : List UInt8) : Option (List X) := if p = [] then none else (pf p).map fun x => acc ++ [x]
def parsed {X : Type} (pf : List UInt8 → Option X) (ck : List X → Int) (s : List UInt8) : List X × Int :=
  if s = [45] then ([], 0) else match foldE (collect pf) [] (parts 44 s) with
  | none => ([], 2)
  | some l => if ck l = 0 then (l, 0) else ([], ck l)
def skF {X : Type} : List X → SK
  | [] => .full
  | _ :: _ => .own 0
instance {X : Type} (l : List X) (xs : List AV) : Shut (.sl (skF l) xs) (.sl .sh xs) := ⟨by cases l <;> exact ⟨rfl, rfl⟩⟩
section
variable {X : Type} (enc : X → AV)
def tkR (acc : List X) : List Nat := (rowH Heap.nil (acc.map enc)).toks
theorem tk_nil : tkR enc [] = [] := rfl
theorem tk_cons (x : X) (l : List X) : tkR enc (x :: l) = [l.length + 1] := by simp [tkR, rowH, Heap.nil]
def rowF (l : List X) : AV := .sl (skF l) (l.map enc)
instance (l : List X) : Shut (rowF enc l) (.sl .sh (l.map enc)) := ⟨by cases l <;> exact ⟨rfl, rfl⟩⟩
theorem rowF_eq (l : List X) : rowF enc l = rowS Heap.nil (l.map enc) := by cases l <;> rfl
theorem row_append_T {x : X} {es bytes : Nat} {bs : List (List AV)} {ls : List LRec} {ys : List X} (h : ((ys.map enc).length + 1) * bytes ≤ 140737488355328) (hl : lenOk es (ys.map enc) = true) (hv : cellsN es (enc x) = true) (hd : dataOk [enc x] = true) :
    appendA es bytes ⟨bs, tkR enc ys, ls⟩ (rowF enc ys) (.sl .full [enc x]) = some (rowF enc (ys ++ [x]), ⟨bs, tkR enc (ys ++ [x]), ls⟩) := by
  rw [rowF_eq, rowF_eq]
  have hh := row_append_map (f := enc) (x := x) (H := Heap.nil) h hl hv hd
  cases ys with
  | nil =>
    simp only [rowS, rowH, List.map_nil, List.nil_append, List.map_cons, tkR, Heap.nil] at hh ⊢
    simp only [appendA] at hh ⊢
    split at hh
    · rename_i hc; rw [if_pos hc]; rfl
    · cases hh
  | cons y ys =>
    simp only [rowS, rowH, List.cons_append, List.map_cons, tkR, Heap.nil] at hh ⊢
    simp only [appendA] at hh ⊢
    split at hh
    · rename_i hc
      rw [if_pos hc]
      split at hh
      · rename_i hc2
        rw [if_pos hc2]
        simp only [Option.some.injEq, Prod.mk.injEq, Heap.mk.injEq, true_and, and_true] at hh ⊢
        exact hh
      · cases hh
    · cases hh
end

section
variable (s0 : List UInt8)
def oTaint0 (_ : List Taint) : List AV := [.str s0]
def oTaint1 (_ : List Taint) : List AV := [.func 158 []]
def oTaint2 (_ : List Taint) : List AV := [.func 84 []]
def oTaint3 (acc : List Taint) : List AV := [rowF encT acc]
theorem trTaint (rc : LRec) (h1 : rc.nb = 7) (h2 : rc.nt = 0) (acc : List Taint) (rest : List UInt8) (n : Nat) (hn : n ≤ 1) (h0 : n = 1 → acc ≠ []) (v : AV) (hv : within 7 n v = true) :
    trunc 7 n v ⟨[oTaint0 s0 acc, oTaint1 acc, oTaint2 acc, oTaint3 acc, [.str rest], [.str [44]], [.int .i64 0]], tkR encT acc, [rc]⟩ = ⟨[oTaint0 s0 acc, oTaint1 acc, oTaint2 acc, oTaint3 acc, [.str rest], [.str [44]], [.int .i64 0]], tkR encT acc, [rc]⟩ := by
  have hb : ∀ (b : Bool) (l : List (List AV)), l.length = 7 → (if b = true then l.take 7 else l) = l := fun b l hl => by
    split
    · exact List.take_of_length_le (by omega)
    · rfl
  unfold trunc
  simp only
  rw [hb _ _ rfl]
  simp only [Heap.mk.injEq, true_and, and_true]
  cases acc with
  | nil => simp [tk_nil]
  | cons x l =>
    rw [tk_cons]
    rcases Nat.lt_or_ge n 1 with h | h
    · have : n = 0 := by omega
      subst this
      have hf : (([oTaint0 s0 (x :: l), oTaint1 (x :: l), oTaint2 (x :: l), oTaint3 (x :: l), [.str rest], [.str [44]], [.int .i64 0]] : List (List AV)).all fun x_1 => x_1.all (in2 ([oTaint0 s0 (x :: l), oTaint1 (x :: l), oTaint2 (x :: l), oTaint3 (x :: l), [.str rest], [.str [44]], [.int .i64 0]] : List (List AV)).length 0)) = false := rfl
      rw [hf]
      simp
    · have : n = 1 := by omega
      subst this
      split <;> rfl
theorem ylTaint (pf : List UInt8 → Option Taint) (rc : LRec) (T0 : Env) (hA : rc.A = a199) (hT0 : rc.T = T0) (hps : rc.ps = [7]) (has : rc.assign = ra199_0) (hbd : rc.body = rb199_0) (hbu : rc.busy = false) (h1 : rc.nb = 7) (h2 : rc.nt = 0) (hT : Has T0 [(1, .ptr 3 0), (2, .ptr 1 0)])
    (hp : ∀ p x, p.length ≤ 1000 → pf p = some x → Gives cfg 158 [.str p] (encT x)) (acc : List Taint) (p rest : List UInt8) (acc' : List Taint) (hl : p.length ≤ 1000) (hacc : acc.length ≤ 100000) (hf : collect pf acc p = some acc') :
    Does cfg (.call (.c (.yield 0)) [.c (.str p)]) (hS (oTaint0 s0) oTaint1 oTaint2 oTaint3 (tkR encT) rc acc rest) (.bool true) (hS (oTaint0 s0) oTaint1 oTaint2 oTaint3 (tkR encT) rc acc' rest) := by
  unfold collect at hf
  split at hf
  · cases hf
  rename_i hne
  simp only [Option.map_eq_some_iff] at hf
  obtain ⟨x, hx, rfl⟩ := hf
  have hg := hp p x hl hx
  have key : Goes cfg roundA [.c rb199_0] (upd (psetA T0 [7] [.str p]) 4 (.str p)) (hB (oTaint0 s0) oTaint1 oTaint2 oTaint3 (tkR encT) rc acc rest) (fun r => r = (.ret (.tuple []), hB (oTaint0 s0) oTaint1 oTaint2 oTaint3 (tkR encT) rc (acc ++ [x]) rest)) := by
    have hT' : Has (upd (psetA T0 [7] [.str p]) 4 (.str p)) [(1, .ptr 3 0), (2, .ptr 1 0), (4, .str p)] := ⟨hT.1, hT.2.1, rfl, trivial⟩
    exact goG 60 _  hT'  (.no (show (p == []) = false from Bool.eq_false_iff.2 (show ¬ ((p == []) = true) from (by simpa using hne))) <| .callG ([AV.str p]) (AV.agg [AV.str x.key, AV.str x.val, AV.bool x.hard]) (show Gives cfg (158 : FuncId) [AV.str p] (encT x) from hg) ⟨rfl, rfl⟩ ⟨rfl, rfl⟩ <| .append (show appendA (3 : Nat) (40 : Nat) { boxes := [[AV.str s0], [AV.func (158 : Nat) []], [AV.func (84 : Nat) []], [AV.sl (skF acc) (List.map encT acc)], [AV.str rest], [AV.str [(44 : UInt8)]], [AV.int .i64 0]], toks := tkR encT acc, loops := [{ A := rc.A, T := rc.T, ps := rc.ps, assign := rc.assign, body := rc.body, busy := true, nb := rc.nb, nt := rc.nt, nl := rc.nl : LRec }] : Heap } (AV.sl (skF acc) (List.map encT acc)) (AV.sl .full [AV.agg [AV.str x.key, AV.str x.val, AV.bool x.hard]]) = some ((rowF encT (acc ++ [x]), { boxes := [[AV.str s0], [AV.func (158 : Nat) []], [AV.func (84 : Nat) []], [AV.sl (skF acc) (List.map encT acc)], [AV.str rest], [AV.str [(44 : UInt8)]], [AV.int .i64 0]], toks := tkR encT (acc ++ [x]), loops := [{ A := rc.A, T := rc.T, ps := rc.ps, assign := rc.assign, body := rc.body, busy := true, nb := rc.nb, nt := rc.nt, nl := rc.nl : LRec }] : Heap })) from row_append_T _ (by simp; omega) (by exact lenT) (by rfl) (by rfl)) <| .fin ((ARes.ret (AV.tuple []), { boxes := [[AV.str s0], [AV.func (158 : Nat) []], [AV.func (84 : Nat) []], [AV.sl (skF (acc ++ [x])) (List.map encT (acc ++ [x]))], [AV.str rest], [AV.str [(44 : UInt8)]], [AV.int .i64 0]], toks := tkR encT (acc ++ [x]), loops := [{ A := rc.A, T := rc.T, ps := rc.ps, assign := rc.assign, body := rc.body, busy := true, nb := rc.nb, nt := rc.nt, nl := rc.nl : LRec }] : Heap })) rfl) (by kernel_rfl)
  obtain ⟨r, hr, rfl⟩ := key
  have hrun : runL cfg roundA [.c rc.assign, .beg 0, .c rc.body] (psetA rc.T rc.ps [.str p]) (hS (oTaint0 s0) oTaint1 oTaint2 oTaint3 (tkR encT) rc acc rest) = some (.ret (.tuple []), hB (oTaint0 s0) oTaint1 oTaint2 oTaint3 (tkR encT) rc (acc ++ [x]) rest) := by
    rw [hT0, hps, has, hbd]
    rw [show (ra199_0 : ACode) = .region [⟨some 4, .mov (.t 7), none, []⟩] false from rfl, runL_assign, runL_beg (r := rc) rfl hbu]
    exact hr
  have h3 := yl_ret (cfg := cfg) (l := 0) (args := [.str p]) (r := rc) (r' := { rc with busy := true }) rfl (by rw [hps]; rfl) hrun rfl
  have e1 : ({ ({ rc with busy := true } : LRec) with busy := false } : LRec) = rc := by cases rc; simp only at hbu; subst hbu; rfl
  have h4 := does_yield h3 rfl
  refine Eq.mp ?_ h4
  congr 1
  show trunc 7 (tkR encT acc).length (.bool true) ⟨[oTaint0 s0 (acc ++ [x]), oTaint1 (acc ++ [x]), oTaint2 (acc ++ [x]), oTaint3 (acc ++ [x]), [.str rest], [.str [44]], [.int .i64 0]], tkR encT (acc ++ [x]), [{ ({ rc with busy := true } : LRec) with busy := false }]⟩ = _
  rw [e1]
  refine trTaint s0 rc h1 h2 _ rest _ ?_ (fun _ => by simp) _ rfl
  cases acc with
  | nil => simp [tk_nil]
  | cons y l => simp [tk_cons]
theorem ynTaint (pf : List UInt8 → Option Taint) (rc : LRec) (T0 : Env) (hA : rc.A = a199) (hT0 : rc.T = T0) (hps : rc.ps = [7]) (has : rc.assign = ra199_0) (hbd : rc.body = rb199_0) (hbu : rc.busy = false) (h1 : rc.nb = 7) (h2 : rc.nt = 0) (hT : Has T0 [(1, .ptr 3 0), (2, .ptr 1 0)])
    (hp : ∀ p, p.length ≤ 1000 → p ≠ [] → pf p = none → Pans cfg 158 [.str p] (stopV 2)) (acc : List Taint) (p rest : List UInt8) (hl : p.length ≤ 1000) (hf : collect pf acc p = none) :
    DoesP cfg (.call (.c (.yield 0)) [.c (.str p)]) (hS (oTaint0 s0) oTaint1 oTaint2 oTaint3 (tkR encT) rc acc rest) (stopV 2) (hB (oTaint0 s0) oTaint1 oTaint2 oTaint3 (tkR encT) rc acc rest) := by
  have key : Goes cfg roundA [.c rb199_0] (upd (psetA T0 [7] [.str p]) 4 (.str p)) (hB (oTaint0 s0) oTaint1 oTaint2 oTaint3 (tkR encT) rc acc rest) (fun r => r = (.pan (stopV 2), hB (oTaint0 s0) oTaint1 oTaint2 oTaint3 (tkR encT) rc acc rest)) := by
    have hT' : Has (upd (psetA T0 [7] [.str p]) 4 (.str p)) [(1, .ptr 3 0), (2, .ptr 1 0), (4, .str p)] := ⟨hT.1, hT.2.1, rfl, trivial⟩
    by_cases hne : p = []
    · subst hne
      have hs : Pans cfg 94 [.int .i64 2] (stopV 2) := stop_pan (by decide)
      exact goG 60 _  hT'  (.tt <| .callP ([AV.int .i64 2]) ({ boxes := [[AV.str s0], [AV.func (158 : Nat) []], [AV.func (84 : Nat) []], [AV.sl (skF acc) (List.map encT acc)], [AV.str rest], [AV.str [(44 : UInt8)]], [AV.int .i64 0]], toks := tkR encT acc, loops := [{ A := rc.A, T := rc.T, ps := rc.ps, assign := rc.assign, body := rc.body, busy := true, nb := rc.nb, nt := rc.nt, nl := rc.nl : LRec }] : Heap }) (show Pans cfg (94 : FuncId) [AV.int .i64 2] (stopV (2 : Int)) from hs) ⟨rfl, rfl⟩ rfl rfl) (by kernel_rfl)
    · have hx : pf p = none := by
        unfold collect at hf
        rw [if_neg hne] at hf
        simpa using hf
      have hg := hp p hl hne hx
      exact goG 60 _  hT'  (.no (show (p == []) = false from Bool.eq_false_iff.2 (show ¬ ((p == []) = true) from (by simpa using hne))) <| .callP ([AV.str p]) ({ boxes := [[AV.str s0], [AV.func (158 : Nat) []], [AV.func (84 : Nat) []], [AV.sl (skF acc) (List.map encT acc)], [AV.str rest], [AV.str [(44 : UInt8)]], [AV.int .i64 0]], toks := tkR encT acc, loops := [{ A := rc.A, T := rc.T, ps := rc.ps, assign := rc.assign, body := rc.body, busy := true, nb := rc.nb, nt := rc.nt, nl := rc.nl : LRec }] : Heap }) (show Pans cfg (158 : FuncId) [AV.str p] (stopV (2 : Int)) from hg) ⟨rfl, rfl⟩ rfl rfl) (by kernel_rfl)
  obtain ⟨r, hr, rfl⟩ := key
  have hrun : runL cfg roundA [.c rc.assign, .beg 0, .c rc.body] (psetA rc.T rc.ps [.str p]) (hS (oTaint0 s0) oTaint1 oTaint2 oTaint3 (tkR encT) rc acc rest) = some (.pan (stopV 2), hB (oTaint0 s0) oTaint1 oTaint2 oTaint3 (tkR encT) rc acc rest) := by
    rw [hT0, hps, has, hbd]
    rw [show (ra199_0 : ACode) = .region [⟨some 4, .mov (.t 7), none, []⟩] false from rfl, runL_assign, runL_beg (r := rc) rfl hbu]
    exact hr
  have h3 := yl_pan (cfg := cfg) (l := 0) (args := [.str p]) (r := rc) rfl (by rw [hps]; rfl) hrun
  have h4 := does_yieldP h3 rfl
  refine Eq.mp ?_ h4
  congr 1
  refine trTaint s0 { rc with busy := true } h1 h2 _ rest _ ?_ (fun h => ?_) _ rfl
  · show (tkR encT acc).length ≤ 1
    cases acc with
    | nil => simp [tk_nil]
    | cons y l => simp [tk_cons]
  · rintro rfl
    change (tkR encT []).length = 1 at h
    simp [tk_nil] at h
theorem inTaint (acc : List Taint) (rest : List UInt8) : ([oTaint0 s0 acc, oTaint1 acc, oTaint2 acc, oTaint3 acc, [.str rest], [.str [44]], [.int .i64 0]] : List (List AV)).all (fun b => b.all (in2 7 (tkR encT acc).length)) = true := by
  cases acc with
  | nil => rfl
  | cons x l => rw [tk_cons]; rfl
theorem rgTaint (pf : List UInt8 → Option Taint) (hp : ∀ p x, p.length ≤ 1000 → pf p = some x → Gives cfg 158 [.str p] (encT x)) (hpn : ∀ p, p.length ≤ 1000 → p ≠ [] → pf p = none → Pans cfg 158 [.str p] (stopV 2))
    (s : List UInt8) (hl : s.length ≤ 1000) (T : Env) (hT : Has T [(0, .ptr 0 0), (1, .ptr 3 0), (2, .ptr 1 0), (3, .ptr 2 0), (6, .func 226 [.ptr 5 0, .ptr 4 0, .ptr 6 0])]) :
    (∀ l, foldE (collect pf) [] (parts 44 s) = some l → ∃ last, runL cfg a199 kr199_0 T ⟨[oTaint0 s0 [], oTaint1 [], oTaint2 [], oTaint3 [], [.str s], [.str [44]], [.int .i64 0]], [], []⟩ = runL cfg a199 kr199_0.tail T ⟨[oTaint0 s0 l, oTaint1 l, oTaint2 l, oTaint3 l, [.str last], [.str [44]], [.int .i64 0]], tkR encT l, []⟩) ∧
    (foldE (collect pf) [] (parts 44 s) = none → ∃ H', runL cfg a199 kr199_0 T ⟨[oTaint0 s0 [], oTaint1 [], oTaint2 [], oTaint3 [], [.str s], [.str [44]], [.int .i64 0]], [], []⟩ = some (.pan (stopV 2), H')) := by
  let rc : LRec := ⟨a199, T, [7], ra199_0, rb199_0, false, 7, 0, 0⟩
  have hT12 : Has T [(1, .ptr 3 0), (2, .ptr 1 0)] := ⟨hT.2.1, hT.2.2.1, trivial⟩
  obtain ⟨r, hr, hs⟩ := seq_call (oTaint0 s0) oTaint1 oTaint2 oTaint3 (tkR encT) rc (stopV 2) (fun acc m => acc.length + m ≤ 2000) (collect pf)
    (fun a x a' m h hc => by
      unfold collect at hc
      split at hc
      · cases hc
      · simp only [Option.map_eq_some_iff] at hc
        obtain ⟨y, -, rfl⟩ := hc
        simp only [List.length_append, List.length_cons, List.length_nil]
        omega)
    (fun a p rest a' h1 h2 h3 => ylTaint s0 pf rc T rfl rfl rfl rfl rfl rfl rfl rfl hT12 hp a p rest a' h1 (by omega) h3)
    (fun a p rest h1 h2 h3 => ynTaint s0 pf rc T rfl rfl rfl rfl rfl rfl rfl rfl hT12 hpn a p rest h1 h3)
    s hl [] (by simp; omega)
  have hfv : ev T (.t 6) = .func 226 [.ptr 5 0, .ptr 4 0, .ptr 6 0] := hT.2.2.2.2.1
  have hcall : callV (lim cfg) (.func 226 [.ptr 5 0, .ptr 4 0, .ptr 6 0]) [.yield 0] (hS (oTaint0 s0) oTaint1 oTaint2 oTaint3 (tkR encT) rc [] s) = callE (lim cfg) 226 [.yield 0, .ptr 5 0, .ptr 4 0, .ptr 6 0] (hS (oTaint0 s0) oTaint1 oTaint2 oTaint3 (tkR encT) rc [] s) := by
    rw [callV_func]; rfl
  constructor
  · intro l hf
    simp only [SeqR, hf] at hs
    obtain ⟨last, rfl⟩ := hs
    refine ⟨last, ?_⟩
    have h1 : callV (lim cfg) (.func 226 [.ptr 5 0, .ptr 4 0, .ptr 6 0]) [.yield 0] (hS (oTaint0 s0) oTaint1 oTaint2 oTaint3 (tkR encT) rc [] s) = some (.val (.tuple []) (hS (oTaint0 s0) oTaint1 oTaint2 oTaint3 (tkR encT) rc l last)) := by
      rw [hcall]
      simp only [callE, hr]
      congr 2
      exact trTaint s0 rc rfl rfl l last 0 (by omega) (by intro h; cases h) (.tuple []) rfl
    have h2 : dropL 0 (hS (oTaint0 s0) oTaint1 oTaint2 oTaint3 (tkR encT) rc l last) = some ⟨[oTaint0 s0 l, oTaint1 l, oTaint2 l, oTaint3 l, [.str last], [.str [44]], [.int .i64 0]], tkR encT l, []⟩ := by
      exact dropL_of (r := rc) rfl rfl rfl (inTaint s0 l last)
    have h3 := rangeA_val (call := lim cfg) (A := a199) (T := T) (ps := [7]) (a := ra199_0) (b := rb199_0) (H := ⟨[oTaint0 s0 [], oTaint1 [], oTaint2 [], oTaint3 [], [.str s], [.str [44]], [.int .i64 0]], [], []⟩) h1 h2
    rw [← hfv] at h3
    exact runL_range rfl h3
  · intro hf
    simp only [SeqR, hf] at hs
    obtain ⟨a', last, rfl⟩ := hs
    have h1 : callV (lim cfg) (.func 226 [.ptr 5 0, .ptr 4 0, .ptr 6 0]) [.yield 0] (hS (oTaint0 s0) oTaint1 oTaint2 oTaint3 (tkR encT) rc [] s) = some (.pan (stopV 2) (hB (oTaint0 s0) oTaint1 oTaint2 oTaint3 (tkR encT) rc a' last)) := by
      rw [hcall]
      simp only [callE, hr]
      congr 2
      exact trTaint s0 { rc with busy := true } rfl rfl a' last 0 (by omega) (by intro h; cases h) (stopV 2) rfl
    have h2 : dropP 0 (hB (oTaint0 s0) oTaint1 oTaint2 oTaint3 (tkR encT) rc a' last) = some ⟨[oTaint0 s0 a', oTaint1 a', oTaint2 a', oTaint3 a', [.str last], [.str [44]], [.int .i64 0]], tkR encT a', []⟩ := by
      exact dropP_of (Nat.lt_add_one 0) rfl (inTaint s0 a' last)
    have h3 := rangeA_pan (call := lim cfg) (A := a199) (T := T) (ps := [7]) (a := ra199_0) (b := rb199_0) (H := ⟨[oTaint0 s0 [], oTaint1 [], oTaint2 [], oTaint3 [], [.str s], [.str [44]], [.int .i64 0]], [], []⟩) h1 rfl h2
    rw [← hfv] at h3
    exact ⟨_, runL_rangeP rfl h3⟩
end
theorem seq0Taint (s : List UInt8) : ∃ v0 H0, lim cfg (.fn 150) [.str s, .str [44]] Heap.nil = some (.ret v0, H0) ∧ dataOut H0 v0 = none := by
  have h1 : lim cfg (.fn 195) [.str s, .str [44], .int .i64 0] Heap.nil = some (.ret (.func 226 [.ptr 1 0, .ptr 0 0, .ptr 2 0]), ⟨[[.str s], [.str [44]], [.int .i64 0]], [], []⟩) := by
    rw [l195]
    exact go 60 []  trivial  (.fin ((ARes.ret (AV.func (226 : Nat) [AV.ptr 1 0, AV.ptr 0 0, AV.ptr 2 0]), { boxes := [[AV.str s], [AV.str [(44 : UInt8)]], [AV.int .i64 0]], toks := [], loops := [] : Heap })) rfl) (by kernel_rfl)
  have hd : Does cfg (.call (.c (.func 195 [])) [.c (.str s), .c (.str [44]), .c (.int .i64 0)]) Heap.nil (.func 226 [.ptr 1 0, .ptr 0 0, .ptr 2 0]) ⟨[[.str s], [.str [44]], [.int .i64 0]], [], []⟩ :=
    does_callN h1 rfl h1 rfl rfl
  refine ⟨.func 226 [.ptr 1 0, .ptr 0 0, .ptr 2 0], ⟨[[.str s], [.str [44]], [.int .i64 0]], [], []⟩, ?_, rfl⟩
  rw [l150]
  exact go 60 []  trivial  (.effY (show Does cfg (AOp.call (Opd.c (AV.func (195 : FuncId) [])) [Opd.c (AV.str s), Opd.c (AV.str [(44 : UInt8)]), Opd.c (AV.int .i64 0)]) Heap.nil (AV.func (226 : FuncId) [AV.ptr 1 0, AV.ptr 0 0, AV.ptr 2 0]) { boxes := [[AV.str s], [AV.str [(44 : UInt8)]], [AV.int .i64 0]], toks := [], loops := [] : Heap } from hd) <| .fin ((ARes.ret (AV.func (226 : Nat) [AV.ptr 1 0, AV.ptr 0 0, AV.ptr 2 0]), { boxes := [[AV.str s], [AV.str [(44 : UInt8)]], [AV.int .i64 0]], toks := [], loops := [] : Heap })) rfl) (by kernel_rfl)
theorem seq1Taint (s0 s : List UInt8) : lim cfg (.fn 150) [.str s, .str [44]] ⟨[oTaint0 s0 [], oTaint1 [], oTaint2 [], oTaint3 []], [], []⟩ = some (.ret (.func 226 [.ptr 5 0, .ptr 4 0, .ptr 6 0]), ⟨[oTaint0 s0 [], oTaint1 [], oTaint2 [], oTaint3 [], [.str s], [.str [44]], [.int .i64 0]], [], []⟩) := by
  have h0 : lim cfg (.fn 195) [.str s, .str [44], .int .i64 0] Heap.nil = some (.ret (.func 226 [.ptr 1 0, .ptr 0 0, .ptr 2 0]), ⟨[[.str s], [.str [44]], [.int .i64 0]], [], []⟩) := by
    rw [l195]
    exact go 60 []  trivial  (.fin ((ARes.ret (AV.func (226 : Nat) [AV.ptr 1 0, AV.ptr 0 0, AV.ptr 2 0]), { boxes := [[AV.str s], [AV.str [(44 : UInt8)]], [AV.int .i64 0]], toks := [], loops := [] : Heap })) rfl) (by kernel_rfl)
  have h1 : lim cfg (.fn 195) [.str s, .str [44], .int .i64 0] ⟨[oTaint0 s0 [], oTaint1 [], oTaint2 [], oTaint3 []], [], []⟩ = some (.ret (.func 226 [.ptr 5 0, .ptr 4 0, .ptr 6 0]), ⟨[oTaint0 s0 [], oTaint1 [], oTaint2 [], oTaint3 [], [.str s], [.str [44]], [.int .i64 0]], [], []⟩) := by
    rw [l195]
    exact go 60 []  trivial  (.fin ((ARes.ret (AV.func (226 : Nat) [AV.ptr 5 0, AV.ptr 4 0, AV.ptr 6 0]), { boxes := [[AV.str s0], [AV.func (158 : Nat) []], [AV.func (84 : Nat) []], [AV.sl .full []], [AV.str s], [AV.str [(44 : UInt8)]], [AV.int .i64 0]], toks := [], loops := [] : Heap })) rfl) (by kernel_rfl)
  have hd : Does cfg (.call (.c (.func 195 [])) [.c (.str s), .c (.str [44]), .c (.int .i64 0)]) ⟨[oTaint0 s0 [], oTaint1 [], oTaint2 [], oTaint3 []], [], []⟩ (.func 226 [.ptr 5 0, .ptr 4 0, .ptr 6 0]) ⟨[oTaint0 s0 [], oTaint1 [], oTaint2 [], oTaint3 [], [.str s], [.str [44]], [.int .i64 0]], [], []⟩ :=
    does_callN h0 rfl h1 rfl rfl
  rw [l150]
  exact go 60 []  trivial  (.effY (show Does cfg (AOp.call (Opd.c (AV.func (195 : FuncId) [])) [Opd.c (AV.str s), Opd.c (AV.str [(44 : UInt8)]), Opd.c (AV.int .i64 0)]) { boxes := [oTaint0 s0 [], oTaint1 [], oTaint2 [], oTaint3 []], toks := [], loops := [] : Heap } (AV.func (226 : FuncId) [AV.ptr 5 0, AV.ptr 4 0, AV.ptr 6 0]) { boxes := [oTaint0 s0 [], oTaint1 [], oTaint2 [], oTaint3 [], [AV.str s], [AV.str [(44 : UInt8)]], [AV.int .i64 0]], toks := [], loops := [] : Heap } from hd) <| .fin ((ARes.ret (AV.func (226 : Nat) [AV.ptr 5 0, AV.ptr 4 0, AV.ptr 6 0]), { boxes := [[AV.str s0], [AV.func (158 : Nat) []], [AV.func (84 : Nat) []], [AV.sl .full []], [AV.str s], [AV.str [(44 : UInt8)]], [AV.int .i64 0]], toks := [], loops := [] : Heap })) rfl) (by kernel_rfl)
theorem tryTaint (pf : List UInt8 → Option Taint) (ck : List Taint → Int) (hp : ∀ p x, p.length ≤ 1000 → pf p = some x → Gives cfg 158 [.str p] (encT x)) (hpn : ∀ p, p.length ≤ 1000 → p ≠ [] → pf p = none → Pans cfg 158 [.str p] (stopV 2))
    (hck : ∀ l : List Taint, Gives cfg 84 [.sl .sh (l.map encT)] (.int .i64 (ck l))) (s : List UInt8) (hl : s.length ≤ 1000) :
    match foldE (collect pf) [] (parts 44 s) with
    | none => ∃ H', lim cfg (.fn 91) [.func 199 [.ptr 0 0, .ptr 3 0, .ptr 1 0, .ptr 2 0]] ⟨[oTaint0 s [], oTaint1 [], oTaint2 [], oTaint3 []], [], []⟩ = some (.ret (.int .i64 2), H')
    | some l => if ck l = 0 then ∃ last, lim cfg (.fn 91) [.func 199 [.ptr 0 0, .ptr 3 0, .ptr 1 0, .ptr 2 0]] ⟨[oTaint0 s [], oTaint1 [], oTaint2 [], oTaint3 []], [], []⟩ = some (.ret (.int .i64 0), ⟨[oTaint0 s l, oTaint1 l, oTaint2 l, oTaint3 l, [.str last], [.str [44]], [.int .i64 0]], tkR encT l, []⟩)
      else ∃ H', lim cfg (.fn 91) [.func 199 [.ptr 0 0, .ptr 3 0, .ptr 1 0, .ptr 2 0]] ⟨[oTaint0 s [], oTaint1 [], oTaint2 [], oTaint3 []], [], []⟩ = some (.ret (.int .i64 (ck l)), H') := by
  obtain ⟨v0, H0, h0, hn0⟩ := seq0Taint s
  have hd : Does cfg (.call (.c (.func 150 [])) [.c (.str s), .c (.str [44])]) ⟨[oTaint0 s [], oTaint1 [], oTaint2 [], oTaint3 []], [], []⟩ (.func 226 [.ptr 5 0, .ptr 4 0, .ptr 6 0]) ⟨[oTaint0 s [], oTaint1 [], oTaint2 [], oTaint3 [], [.str s], [.str [44]], [.int .i64 0]], [], []⟩ :=
    does_callN h0 hn0 (seq1Taint s s) rfl rfl
  have clo : ∀ R, (∀ T (hT : Has T [(0, .ptr 0 0), (1, .ptr 3 0), (2, .ptr 1 0), (3, .ptr 2 0), (6, .func 226 [.ptr 5 0, .ptr 4 0, .ptr 6 0])]), Goes cfg a199 kr199_0 T ⟨[oTaint0 s [], oTaint1 [], oTaint2 [], oTaint3 [], [.str s], [.str [44]], [.int .i64 0]], [], []⟩ R) →
      ∃ r, lim cfg (.fn 199) [.ptr 0 0, .ptr 3 0, .ptr 1 0, .ptr 2 0] ⟨[oTaint0 s [], oTaint1 [], oTaint2 [], oTaint3 []], [], []⟩ = some r ∧ R r := by
    intro R h
    rw [l199]
    have key : Goes cfg a199 [.c c199] (initEnv [.ptr 0 0, .ptr 3 0, .ptr 1 0, .ptr 2 0]) ⟨[oTaint0 s [], oTaint1 [], oTaint2 [], oTaint3 []], [], []⟩ R := by
      exact goG 60 []  trivial  (.effY (show Does cfg (AOp.call (Opd.c (AV.func (150 : FuncId) [])) [Opd.c (AV.str s), Opd.c (AV.str [(44 : UInt8)])]) { boxes := [oTaint0 s [], oTaint1 [], oTaint2 [], oTaint3 []], toks := [], loops := [] : Heap } (AV.func (226 : FuncId) [AV.ptr 5 0, AV.ptr 4 0, AV.ptr 6 0]) { boxes := [oTaint0 s [], oTaint1 [], oTaint2 [], oTaint3 [], [AV.str s], [AV.str [(44 : UInt8)]], [AV.int .i64 0]], toks := [], loops := [] : Heap } from hd) <| .cutQ kr199_0 [(0, AV.ptr 0 0), (1, AV.ptr 3 0), (2, AV.ptr 1 0), (3, AV.ptr 2 0), (6, AV.func (226 : Nat) [AV.ptr 5 0, AV.ptr 4 0, AV.ptr 6 0])] ({ boxes := [[AV.str s], [AV.func (158 : Nat) []], [AV.func (84 : Nat) []], [AV.sl .full []], [AV.str s], [AV.str [(44 : UInt8)]], [AV.int .i64 0]], toks := [], loops := [] : Heap }) (fun T hT => (h T hT))) (by kernel_rfl)
    exact key
  cases hf : foldE (collect pf) [] (parts 44 s) with
  | none =>
    obtain ⟨r, h1, h2⟩ := clo (fun r => r.1 = .pan (stopV 2)) (fun T hT => by
      obtain ⟨H', e⟩ := (rgTaint s pf hp hpn s hl T hT).2 hf
      exact ⟨_, e, rfl⟩)
    obtain ⟨x, H'⟩ := r
    simp only at h2
    subst h2
    exact ⟨H', by rw [lim_try rfl, h1]; rfl⟩
  | some l =>
    simp only
    have hg := hck l
    by_cases hc : ck l = 0
    · rw [if_pos hc]
      rw [hc] at hg
      obtain ⟨r, h1, h2⟩ := clo (fun r => ∃ last, r = (.ret (.tuple []), ⟨[oTaint0 s l, oTaint1 l, oTaint2 l, oTaint3 l, [.str last], [.str [44]], [.int .i64 0]], tkR encT l, []⟩)) (fun T hT => by
        obtain ⟨last, e⟩ := (rgTaint s pf hp hpn s hl T hT).1 l hf
        have key : Goes cfg a199 kr199_0.tail T ⟨[oTaint0 s l, oTaint1 l, oTaint2 l, oTaint3 l, [.str last], [.str [44]], [.int .i64 0]], tkR encT l, []⟩ (fun r => r = (.ret (.tuple []), ⟨[oTaint0 s l, oTaint1 l, oTaint2 l, oTaint3 l, [.str last], [.str [44]], [.int .i64 0]], tkR encT l, []⟩)) := by
          exact goG 60 _  hT  (.callG ([AV.sl (skF l) (List.map encT l)]) (AV.int .i64 0) (show Gives cfg (84 : FuncId) [AV.sl .sh (List.map encT l)] (AV.int .i64 0) from hg) Shuts.p ⟨rfl, rfl⟩ <| .callG ([AV.int .i64 0]) (AV.tuple []) (show Gives cfg (94 : FuncId) [AV.int .i64 0] (AV.tuple []) from stop_ok) ⟨rfl, rfl⟩ ⟨rfl, rfl⟩ <| .fin ((ARes.ret (AV.tuple []), { boxes := [[AV.str s], [AV.func (158 : Nat) []], [AV.func (84 : Nat) []], [AV.sl (skF l) (List.map encT l)], [AV.str last], [AV.str [(44 : UInt8)]], [AV.int .i64 0]], toks := tkR encT l, loops := [] : Heap })) rfl) (by kernel_rfl)
        obtain ⟨r, k1, k2⟩ := key
        exact ⟨r, e.trans k1, last, k2⟩)
      obtain ⟨last, rfl⟩ := h2
      exact ⟨last, by rw [lim_try rfl, h1]; rfl⟩
    · rw [if_neg hc]
      obtain ⟨r, h1, h2⟩ := clo (fun r => r.1 = .pan (stopV (ck l))) (fun T hT => by
        obtain ⟨last, e⟩ := (rgTaint s pf hp hpn s hl T hT).1 l hf
        have hst := stop_pan hc
        have key : Goes cfg a199 kr199_0.tail T ⟨[oTaint0 s l, oTaint1 l, oTaint2 l, oTaint3 l, [.str last], [.str [44]], [.int .i64 0]], tkR encT l, []⟩ (fun r => r.1 = .pan (stopV (ck l))) := by
          exact goG 60 _  hT  (.callG ([AV.sl (skF l) (List.map encT l)]) (AV.int .i64 (ck l)) (show Gives cfg (84 : FuncId) [AV.sl .sh (List.map encT l)] (AV.int .i64 (ck l)) from hg) Shuts.p ⟨rfl, rfl⟩ <| .callP ([AV.int .i64 (ck l)]) ({ boxes := [[AV.str s], [AV.func (158 : Nat) []], [AV.func (84 : Nat) []], [AV.sl (skF l) (List.map encT l)], [AV.str last], [AV.str [(44 : UInt8)]], [AV.int .i64 0]], toks := tkR encT l, loops := [] : Heap }) (show Pans cfg (94 : FuncId) [AV.int .i64 (ck l)] (stopV (ck l)) from hst) ⟨rfl, rfl⟩ rfl rfl) (by kernel_rfl)
        obtain ⟨r, k1, k2⟩ := key
        exact ⟨r, e.trans k1, k2⟩)
      obtain ⟨x, H'⟩ := r
      simp only at h2
      subst h2
      exact ⟨H', by rw [lim_try rfl, h1]; rfl⟩
theorem partsTaint (pf : List UInt8 → Option Taint) (ck : List Taint → Int) (hp : ∀ p x, p.length ≤ 1000 → pf p = some x → Gives cfg 158 [.str p] (encT x)) (hpn : ∀ p, p.length ≤ 1000 → p ≠ [] → pf p = none → Pans cfg 158 [.str p] (stopV 2))
    (hck : ∀ l : List Taint, Gives cfg 84 [.sl .sh (l.map encT)] (.int .i64 (ck l))) (s : List UInt8) (hl : s.length ≤ 1000) :
    Gives cfg 157 [.str s, .func 158 [], .func 84 []] (.tuple [rowF encT (parsed pf ck s).1, .int .i64 (parsed pf ck s).2]) := by
  refine Gives.run (l157 _ _) ?_
  by_cases hs : s = [45]
  · subst hs
    exact goG 60 []  trivial  (.tt <| .fin ((ARes.ret (AV.tuple [AV.sl .full [], AV.int .i64 0]), { boxes := [[AV.str [(45 : UInt8)]], [AV.func (158 : Nat) []], [AV.func (84 : Nat) []]], toks := [], loops := [] : Heap })) rfl) (by kernel_rfl)
  · have ht := tryTaint pf ck hp hpn hck s hl
    simp only [parsed, if_neg hs]
    cases hf : foldE (collect pf) [] (parts 44 s) with
    | none =>
      simp only [hf] at ht ⊢
      obtain ⟨H', ht⟩ := ht
      have hd := does_callE (xs := [.func 199 [.ptr 0 0, .ptr 3 0, .ptr 1 0, .ptr 2 0]]) (caps := []) ht rfl rfl
      generalize trunc _ _ _ H' = H2 at hd
      exact goG 60 []  trivial  (.no (show (s == [(45 : UInt8)]) = false from Bool.eq_false_iff.2 (show ¬ ((s == [(45 : UInt8)]) = true) from (by simpa using hs))) <| .effY (show Does cfg (AOp.call (Opd.c (AV.func (91 : FuncId) [])) (List.map Opd.c [AV.func (199 : FuncId) [AV.ptr 0 0, AV.ptr 3 0, AV.ptr 1 0, AV.ptr 2 0]])) { boxes := [oTaint0 s [], oTaint1 [], oTaint2 [], oTaint3 []], toks := [], loops := [] : Heap } (shutA (AV.int .i64 2)) H2 from hd) <| .tt <| .fin ((ARes.ret (AV.tuple [AV.sl .full [], AV.int .i64 2]), H2)) rfl) (by kernel_rfl)
    | some l =>
      simp only [hf] at ht ⊢
      by_cases hc : ck l = 0
      · rw [if_pos hc] at ht
        simp only [if_pos hc]
        obtain ⟨last, ht⟩ := ht
        have hd : Does cfg (.call (.c (.func 91 [])) [.c (.func 199 [.ptr 0 0, .ptr 3 0, .ptr 1 0, .ptr 2 0])]) ⟨[oTaint0 s [], oTaint1 [], oTaint2 [], oTaint3 []], [], []⟩ (.int .i64 0) ⟨[oTaint0 s l, oTaint1 l, oTaint2 l, oTaint3 l], tkR encT l, []⟩ := by
          have hd := does_callE (xs := [.func 199 [.ptr 0 0, .ptr 3 0, .ptr 1 0, .ptr 2 0]]) (caps := []) ht rfl rfl
          refine Eq.mp ?_ hd
          congr 1
          cases l <;> rfl
        exact goG 60 []  trivial  (.no (show (s == [(45 : UInt8)]) = false from Bool.eq_false_iff.2 (show ¬ ((s == [(45 : UInt8)]) = true) from (by simpa using hs))) <| .effY (show Does cfg (AOp.call (Opd.c (AV.func (91 : FuncId) [])) [Opd.c (AV.func (199 : FuncId) [AV.ptr 0 0, AV.ptr 3 0, AV.ptr 1 0, AV.ptr 2 0])]) { boxes := [oTaint0 s [], oTaint1 [], oTaint2 [], oTaint3 []], toks := [], loops := [] : Heap } (AV.int .i64 0) { boxes := [oTaint0 s l, oTaint1 l, oTaint2 l, oTaint3 l], toks := tkR encT l, loops := [] : Heap } from hd) <| .ff <| .fin ((ARes.ret (AV.tuple [AV.sl (skF l) (List.map encT l), AV.int .i64 0]), { boxes := [[AV.str s], [AV.func (158 : Nat) []], [AV.func (84 : Nat) []], [AV.sl (skF l) (List.map encT l)]], toks := tkR encT l, loops := [] : Heap })) rfl) (by kernel_rfl)
      · rw [if_neg hc] at ht
        simp only [if_neg hc]
        obtain ⟨H', ht⟩ := ht
        have hd := does_callE (xs := [.func 199 [.ptr 0 0, .ptr 3 0, .ptr 1 0, .ptr 2 0]]) (caps := []) ht rfl rfl
        generalize trunc _ _ _ H' = H2 at hd
        exact goG 60 []  trivial  (.no (show (s == [(45 : UInt8)]) = false from Bool.eq_false_iff.2 (show ¬ ((s == [(45 : UInt8)]) = true) from (by simpa using hs))) <| .effY (show Does cfg (AOp.call (Opd.c (AV.func (91 : FuncId) [])) (List.map Opd.c [AV.func (199 : FuncId) [AV.ptr 0 0, AV.ptr 3 0, AV.ptr 1 0, AV.ptr 2 0]])) { boxes := [oTaint0 s [], oTaint1 [], oTaint2 [], oTaint3 []], toks := [], loops := [] : Heap } (shutA (AV.int .i64 (ck l))) H2 from hd) <| .yes (show (ck l != (0 : Int)) = true from (by simpa using hc)) <| .fin ((ARes.ret (AV.tuple [AV.sl .full [], AV.int .i64 (ck l)]), H2)) rfl) (by kernel_rfl)

section
variable (s0 : List UInt8)
end

section
variable (s0 : List UInt8)
def oPair0 (_ : List Pair) : List AV := [.str s0]
def oPair1 (_ : List Pair) : List AV := [.func 154 []]
def oPair2 (_ : List Pair) : List AV := [.func 156 []]
def oPair3 (acc : List Pair) : List AV := [rowF encP acc]
theorem trPair (rc : LRec) (h1 : rc.nb = 7) (h2 : rc.nt = 0) (acc : List Pair) (rest : List UInt8) (n : Nat) (hn : n ≤ 1) (h0 : n = 1 → acc ≠ []) (v : AV) (hv : within 7 n v = true) :
    trunc 7 n v ⟨[oPair0 s0 acc, oPair1 acc, oPair2 acc, oPair3 acc, [.str rest], [.str [44]], [.int .i64 0]], tkR encP acc, [rc]⟩ = ⟨[oPair0 s0 acc, oPair1 acc, oPair2 acc, oPair3 acc, [.str rest], [.str [44]], [.int .i64 0]], tkR encP acc, [rc]⟩ := by
  have hb : ∀ (b : Bool) (l : List (List AV)), l.length = 7 → (if b = true then l.take 7 else l) = l := fun b l hl => by
    split
    · exact List.take_of_length_le (by omega)
    · rfl
  unfold trunc
  simp only
  rw [hb _ _ rfl]
  simp only [Heap.mk.injEq, true_and, and_true]
  cases acc with
  | nil => simp [tk_nil]
  | cons x l =>
    rw [tk_cons]
    rcases Nat.lt_or_ge n 1 with h | h
    · have : n = 0 := by omega
      subst this
      have hf : (([oPair0 s0 (x :: l), oPair1 (x :: l), oPair2 (x :: l), oPair3 (x :: l), [.str rest], [.str [44]], [.int .i64 0]] : List (List AV)).all fun x_1 => x_1.all (in2 ([oPair0 s0 (x :: l), oPair1 (x :: l), oPair2 (x :: l), oPair3 (x :: l), [.str rest], [.str [44]], [.int .i64 0]] : List (List AV)).length 0)) = false := rfl
      rw [hf]
      simp
    · have : n = 1 := by omega
      subst this
      split <;> rfl
theorem ylPair (pf : List UInt8 → Option Pair) (rc : LRec) (T0 : Env) (hA : rc.A = a198) (hT0 : rc.T = T0) (hps : rc.ps = [7]) (has : rc.assign = ra198_0) (hbd : rc.body = rb198_0) (hbu : rc.busy = false) (h1 : rc.nb = 7) (h2 : rc.nt = 0) (hT : Has T0 [(1, .ptr 3 0), (2, .ptr 1 0)])
    (hp : ∀ p x, p.length ≤ 1000 → pf p = some x → Gives cfg 154 [.str p] (encP x)) (acc : List Pair) (p rest : List UInt8) (acc' : List Pair) (hl : p.length ≤ 1000) (hacc : acc.length ≤ 100000) (hf : collect pf acc p = some acc') :
    Does cfg (.call (.c (.yield 0)) [.c (.str p)]) (hS (oPair0 s0) oPair1 oPair2 oPair3 (tkR encP) rc acc rest) (.bool true) (hS (oPair0 s0) oPair1 oPair2 oPair3 (tkR encP) rc acc' rest) := by
  unfold collect at hf
  split at hf
  · cases hf
  rename_i hne
  simp only [Option.map_eq_some_iff] at hf
  obtain ⟨x, hx, rfl⟩ := hf
  have hg := hp p x hl hx
  have key : Goes cfg roundA [.c rb198_0] (upd (psetA T0 [7] [.str p]) 4 (.str p)) (hB (oPair0 s0) oPair1 oPair2 oPair3 (tkR encP) rc acc rest) (fun r => r = (.ret (.tuple []), hB (oPair0 s0) oPair1 oPair2 oPair3 (tkR encP) rc (acc ++ [x]) rest)) := by
    have hT' : Has (upd (psetA T0 [7] [.str p]) 4 (.str p)) [(1, .ptr 3 0), (2, .ptr 1 0), (4, .str p)] := ⟨hT.1, hT.2.1, rfl, trivial⟩
    exact goG 60 _  hT'  (.no (show (p == []) = false from Bool.eq_false_iff.2 (show ¬ ((p == []) = true) from (by simpa using hne))) <| .callG ([AV.str p]) (AV.agg [AV.str x.key, AV.str x.val]) (show Gives cfg (154 : FuncId) [AV.str p] (encP x) from hg) ⟨rfl, rfl⟩ ⟨rfl, rfl⟩ <| .append (show appendA (2 : Nat) (32 : Nat) { boxes := [[AV.str s0], [AV.func (154 : Nat) []], [AV.func (156 : Nat) []], [AV.sl (skF acc) (List.map encP acc)], [AV.str rest], [AV.str [(44 : UInt8)]], [AV.int .i64 0]], toks := tkR encP acc, loops := [{ A := rc.A, T := rc.T, ps := rc.ps, assign := rc.assign, body := rc.body, busy := true, nb := rc.nb, nt := rc.nt, nl := rc.nl : LRec }] : Heap } (AV.sl (skF acc) (List.map encP acc)) (AV.sl .full [AV.agg [AV.str x.key, AV.str x.val]]) = some ((rowF encP (acc ++ [x]), { boxes := [[AV.str s0], [AV.func (154 : Nat) []], [AV.func (156 : Nat) []], [AV.sl (skF acc) (List.map encP acc)], [AV.str rest], [AV.str [(44 : UInt8)]], [AV.int .i64 0]], toks := tkR encP (acc ++ [x]), loops := [{ A := rc.A, T := rc.T, ps := rc.ps, assign := rc.assign, body := rc.body, busy := true, nb := rc.nb, nt := rc.nt, nl := rc.nl : LRec }] : Heap })) from row_append_T _ (by simp; omega) (by exact lenP) (by rfl) (by rfl)) <| .fin ((ARes.ret (AV.tuple []), { boxes := [[AV.str s0], [AV.func (154 : Nat) []], [AV.func (156 : Nat) []], [AV.sl (skF (acc ++ [x])) (List.map encP (acc ++ [x]))], [AV.str rest], [AV.str [(44 : UInt8)]], [AV.int .i64 0]], toks := tkR encP (acc ++ [x]), loops := [{ A := rc.A, T := rc.T, ps := rc.ps, assign := rc.assign, body := rc.body, busy := true, nb := rc.nb, nt := rc.nt, nl := rc.nl : LRec }] : Heap })) rfl) (by kernel_rfl)
  obtain ⟨r, hr, rfl⟩ := key
  have hrun : runL cfg roundA [.c rc.assign, .beg 0, .c rc.body] (psetA rc.T rc.ps [.str p]) (hS (oPair0 s0) oPair1 oPair2 oPair3 (tkR encP) rc acc rest) = some (.ret (.tuple []), hB (oPair0 s0) oPair1 oPair2 oPair3 (tkR encP) rc (acc ++ [x]) rest) := by
    rw [hT0, hps, has, hbd]
    rw [show (ra198_0 : ACode) = .region [⟨some 4, .mov (.t 7), none, []⟩] false from rfl, runL_assign, runL_beg (r := rc) rfl hbu]
    exact hr
  have h3 := yl_ret (cfg := cfg) (l := 0) (args := [.str p]) (r := rc) (r' := { rc with busy := true }) rfl (by rw [hps]; rfl) hrun rfl
  have e1 : ({ ({ rc with busy := true } : LRec) with busy := false } : LRec) = rc := by cases rc; simp only at hbu; subst hbu; rfl
  have h4 := does_yield h3 rfl
  refine Eq.mp ?_ h4
  congr 1
  show trunc 7 (tkR encP acc).length (.bool true) ⟨[oPair0 s0 (acc ++ [x]), oPair1 (acc ++ [x]), oPair2 (acc ++ [x]), oPair3 (acc ++ [x]), [.str rest], [.str [44]], [.int .i64 0]], tkR encP (acc ++ [x]), [{ ({ rc with busy := true } : LRec) with busy := false }]⟩ = _
  rw [e1]
  refine trPair s0 rc h1 h2 _ rest _ ?_ (fun _ => by simp) _ rfl
  cases acc with
  | nil => simp [tk_nil]
  | cons y l => simp [tk_cons]
theorem ynPair (pf : List UInt8 → Option Pair) (rc : LRec) (T0 : Env) (hA : rc.A = a198) (hT0 : rc.T = T0) (hps : rc.ps = [7]) (has : rc.assign = ra198_0) (hbd : rc.body = rb198_0) (hbu : rc.busy = false) (h1 : rc.nb = 7) (h2 : rc.nt = 0) (hT : Has T0 [(1, .ptr 3 0), (2, .ptr 1 0)])
    (hp : ∀ p, p.length ≤ 1000 → p ≠ [] → pf p = none → Pans cfg 154 [.str p] (stopV 2)) (acc : List Pair) (p rest : List UInt8) (hl : p.length ≤ 1000) (hf : collect pf acc p = none) :
    DoesP cfg (.call (.c (.yield 0)) [.c (.str p)]) (hS (oPair0 s0) oPair1 oPair2 oPair3 (tkR encP) rc acc rest) (stopV 2) (hB (oPair0 s0) oPair1 oPair2 oPair3 (tkR encP) rc acc rest) := by
  have key : Goes cfg roundA [.c rb198_0] (upd (psetA T0 [7] [.str p]) 4 (.str p)) (hB (oPair0 s0) oPair1 oPair2 oPair3 (tkR encP) rc acc rest) (fun r => r = (.pan (stopV 2), hB (oPair0 s0) oPair1 oPair2 oPair3 (tkR encP) rc acc rest)) := by
    have hT' : Has (upd (psetA T0 [7] [.str p]) 4 (.str p)) [(1, .ptr 3 0), (2, .ptr 1 0), (4, .str p)] := ⟨hT.1, hT.2.1, rfl, trivial⟩
    by_cases hne : p = []
    · subst hne
      have hs : Pans cfg 94 [.int .i64 2] (stopV 2) := stop_pan (by decide)
      exact goG 60 _  hT'  (.tt <| .callP ([AV.int .i64 2]) ({ boxes := [[AV.str s0], [AV.func (154 : Nat) []], [AV.func (156 : Nat) []], [AV.sl (skF acc) (List.map encP acc)], [AV.str rest], [AV.str [(44 : UInt8)]], [AV.int .i64 0]], toks := tkR encP acc, loops := [{ A := rc.A, T := rc.T, ps := rc.ps, assign := rc.assign, body := rc.body, busy := true, nb := rc.nb, nt := rc.nt, nl := rc.nl : LRec }] : Heap }) (show Pans cfg (94 : FuncId) [AV.int .i64 2] (stopV (2 : Int)) from hs) ⟨rfl, rfl⟩ rfl rfl) (by kernel_rfl)
    · have hx : pf p = none := by
        unfold collect at hf
        rw [if_neg hne] at hf
        simpa using hf
      have hg := hp p hl hne hx
      exact goG 60 _  hT'  (.no (show (p == []) = false from Bool.eq_false_iff.2 (show ¬ ((p == []) = true) from (by simpa using hne))) <| .callP ([AV.str p]) ({ boxes := [[AV.str s0], [AV.func (154 : Nat) []], [AV.func (156 : Nat) []], [AV.sl (skF acc) (List.map encP acc)], [AV.str rest], [AV.str [(44 : UInt8)]], [AV.int .i64 0]], toks := tkR encP acc, loops := [{ A := rc.A, T := rc.T, ps := rc.ps, assign := rc.assign, body := rc.body, busy := true, nb := rc.nb, nt := rc.nt, nl := rc.nl : LRec }] : Heap }) (show Pans cfg (154 : FuncId) [AV.str p] (stopV (2 : Int)) from hg) ⟨rfl, rfl⟩ rfl rfl) (by kernel_rfl)
  obtain ⟨r, hr, rfl⟩ := key
  have hrun : runL cfg roundA [.c rc.assign, .beg 0, .c rc.body] (psetA rc.T rc.ps [.str p]) (hS (oPair0 s0) oPair1 oPair2 oPair3 (tkR encP) rc acc rest) = some (.pan (stopV 2), hB (oPair0 s0) oPair1 oPair2 oPair3 (tkR encP) rc acc rest) := by
    rw [hT0, hps, has, hbd]
    rw [show (ra198_0 : ACode) = .region [⟨some 4, .mov (.t 7), none, []⟩] false from rfl, runL_assign, runL_beg (r := rc) rfl hbu]
    exact hr
  have h3 := yl_pan (cfg := cfg) (l := 0) (args := [.str p]) (r := rc) rfl (by rw [hps]; rfl) hrun
  have h4 := does_yieldP h3 rfl
  refine Eq.mp ?_ h4
  congr 1
  refine trPair s0 { rc with busy := true } h1 h2 _ rest _ ?_ (fun h => ?_) _ rfl
  · show (tkR encP acc).length ≤ 1
    cases acc with
    | nil => simp [tk_nil]
    | cons y l => simp [tk_cons]
  · rintro rfl
    change (tkR encP []).length = 1 at h
    simp [tk_nil] at h
theorem inPair (acc : List Pair) (rest : List UInt8) : ([oPair0 s0 acc, oPair1 acc, oPair2 acc, oPair3 acc, [.str rest], [.str [44]], [.int .i64 0]] : List (List AV)).all (fun b => b.all (in2 7 (tkR encP acc).length)) = true := by
  cases acc with
  | nil => rfl
  | cons x l => rw [tk_cons]; rfl
theorem rgPair (pf : List UInt8 → Option Pair) (hp : ∀ p x, p.length ≤ 1000 → pf p = some x → Gives cfg 154 [.str p] (encP x)) (hpn : ∀ p, p.length ≤ 1000 → p ≠ [] → pf p = none → Pans cfg 154 [.str p] (stopV 2))
    (s : List UInt8) (hl : s.length ≤ 1000) (T : Env) (hT : Has T [(0, .ptr 0 0), (1, .ptr 3 0), (2, .ptr 1 0), (3, .ptr 2 0), (6, .func 226 [.ptr 5 0, .ptr 4 0, .ptr 6 0])]) :
    (∀ l, foldE (collect pf) [] (parts 44 s) = some l → ∃ last, runL cfg a198 kr198_0 T ⟨[oPair0 s0 [], oPair1 [], oPair2 [], oPair3 [], [.str s], [.str [44]], [.int .i64 0]], [], []⟩ = runL cfg a198 kr198_0.tail T ⟨[oPair0 s0 l, oPair1 l, oPair2 l, oPair3 l, [.str last], [.str [44]], [.int .i64 0]], tkR encP l, []⟩) ∧
    (foldE (collect pf) [] (parts 44 s) = none → ∃ H', runL cfg a198 kr198_0 T ⟨[oPair0 s0 [], oPair1 [], oPair2 [], oPair3 [], [.str s], [.str [44]], [.int .i64 0]], [], []⟩ = some (.pan (stopV 2), H')) := by
  let rc : LRec := ⟨a198, T, [7], ra198_0, rb198_0, false, 7, 0, 0⟩
  have hT12 : Has T [(1, .ptr 3 0), (2, .ptr 1 0)] := ⟨hT.2.1, hT.2.2.1, trivial⟩
  obtain ⟨r, hr, hs⟩ := seq_call (oPair0 s0) oPair1 oPair2 oPair3 (tkR encP) rc (stopV 2) (fun acc m => acc.length + m ≤ 2000) (collect pf)
    (fun a x a' m h hc => by
      unfold collect at hc
      split at hc
      · cases hc
      · simp only [Option.map_eq_some_iff] at hc
        obtain ⟨y, -, rfl⟩ := hc
        simp only [List.length_append, List.length_cons, List.length_nil]
        omega)
    (fun a p rest a' h1 h2 h3 => ylPair s0 pf rc T rfl rfl rfl rfl rfl rfl rfl rfl hT12 hp a p rest a' h1 (by omega) h3)
    (fun a p rest h1 h2 h3 => ynPair s0 pf rc T rfl rfl rfl rfl rfl rfl rfl rfl hT12 hpn a p rest h1 h3)
    s hl [] (by simp; omega)
  have hfv : ev T (.t 6) = .func 226 [.ptr 5 0, .ptr 4 0, .ptr 6 0] := hT.2.2.2.2.1
  have hcall : callV (lim cfg) (.func 226 [.ptr 5 0, .ptr 4 0, .ptr 6 0]) [.yield 0] (hS (oPair0 s0) oPair1 oPair2 oPair3 (tkR encP) rc [] s) = callE (lim cfg) 226 [.yield 0, .ptr 5 0, .ptr 4 0, .ptr 6 0] (hS (oPair0 s0) oPair1 oPair2 oPair3 (tkR encP) rc [] s) := by
    rw [callV_func]; rfl
  constructor
  · intro l hf
    simp only [SeqR, hf] at hs
    obtain ⟨last, rfl⟩ := hs
    refine ⟨last, ?_⟩
    have h1 : callV (lim cfg) (.func 226 [.ptr 5 0, .ptr 4 0, .ptr 6 0]) [.yield 0] (hS (oPair0 s0) oPair1 oPair2 oPair3 (tkR encP) rc [] s) = some (.val (.tuple []) (hS (oPair0 s0) oPair1 oPair2 oPair3 (tkR encP) rc l last)) := by
      rw [hcall]
      simp only [callE, hr]
      congr 2
      exact trPair s0 rc rfl rfl l last 0 (by omega) (by intro h; cases h) (.tuple []) rfl
    have h2 : dropL 0 (hS (oPair0 s0) oPair1 oPair2 oPair3 (tkR encP) rc l last) = some ⟨[oPair0 s0 l, oPair1 l, oPair2 l, oPair3 l, [.str last], [.str [44]], [.int .i64 0]], tkR encP l, []⟩ := by
      exact dropL_of (r := rc) rfl rfl rfl (inPair s0 l last)
    have h3 := rangeA_val (call := lim cfg) (A := a198) (T := T) (ps := [7]) (a := ra198_0) (b := rb198_0) (H := ⟨[oPair0 s0 [], oPair1 [], oPair2 [], oPair3 [], [.str s], [.str [44]], [.int .i64 0]], [], []⟩) h1 h2
    rw [← hfv] at h3
    exact runL_range rfl h3
  · intro hf
    simp only [SeqR, hf] at hs
    obtain ⟨a', last, rfl⟩ := hs
    have h1 : callV (lim cfg) (.func 226 [.ptr 5 0, .ptr 4 0, .ptr 6 0]) [.yield 0] (hS (oPair0 s0) oPair1 oPair2 oPair3 (tkR encP) rc [] s) = some (.pan (stopV 2) (hB (oPair0 s0) oPair1 oPair2 oPair3 (tkR encP) rc a' last)) := by
      rw [hcall]
      simp only [callE, hr]
      congr 2
      exact trPair s0 { rc with busy := true } rfl rfl a' last 0 (by omega) (by intro h; cases h) (stopV 2) rfl
    have h2 : dropP 0 (hB (oPair0 s0) oPair1 oPair2 oPair3 (tkR encP) rc a' last) = some ⟨[oPair0 s0 a', oPair1 a', oPair2 a', oPair3 a', [.str last], [.str [44]], [.int .i64 0]], tkR encP a', []⟩ := by
      exact dropP_of (Nat.lt_add_one 0) rfl (inPair s0 a' last)
    have h3 := rangeA_pan (call := lim cfg) (A := a198) (T := T) (ps := [7]) (a := ra198_0) (b := rb198_0) (H := ⟨[oPair0 s0 [], oPair1 [], oPair2 [], oPair3 [], [.str s], [.str [44]], [.int .i64 0]], [], []⟩) h1 rfl h2
    rw [← hfv] at h3
    exact ⟨_, runL_rangeP rfl h3⟩
end
theorem seq0Pair (s : List UInt8) : ∃ v0 H0, lim cfg (.fn 150) [.str s, .str [44]] Heap.nil = some (.ret v0, H0) ∧ dataOut H0 v0 = none := by
  have h1 : lim cfg (.fn 195) [.str s, .str [44], .int .i64 0] Heap.nil = some (.ret (.func 226 [.ptr 1 0, .ptr 0 0, .ptr 2 0]), ⟨[[.str s], [.str [44]], [.int .i64 0]], [], []⟩) := by
    rw [l195]
    exact go 60 []  trivial  (.fin ((ARes.ret (AV.func (226 : Nat) [AV.ptr 1 0, AV.ptr 0 0, AV.ptr 2 0]), { boxes := [[AV.str s], [AV.str [(44 : UInt8)]], [AV.int .i64 0]], toks := [], loops := [] : Heap })) rfl) (by kernel_rfl)
  have hd : Does cfg (.call (.c (.func 195 [])) [.c (.str s), .c (.str [44]), .c (.int .i64 0)]) Heap.nil (.func 226 [.ptr 1 0, .ptr 0 0, .ptr 2 0]) ⟨[[.str s], [.str [44]], [.int .i64 0]], [], []⟩ :=
    does_callN h1 rfl h1 rfl rfl
  refine ⟨.func 226 [.ptr 1 0, .ptr 0 0, .ptr 2 0], ⟨[[.str s], [.str [44]], [.int .i64 0]], [], []⟩, ?_, rfl⟩
  rw [l150]
  exact go 60 []  trivial  (.effY (show Does cfg (AOp.call (Opd.c (AV.func (195 : FuncId) [])) [Opd.c (AV.str s), Opd.c (AV.str [(44 : UInt8)]), Opd.c (AV.int .i64 0)]) Heap.nil (AV.func (226 : FuncId) [AV.ptr 1 0, AV.ptr 0 0, AV.ptr 2 0]) { boxes := [[AV.str s], [AV.str [(44 : UInt8)]], [AV.int .i64 0]], toks := [], loops := [] : Heap } from hd) <| .fin ((ARes.ret (AV.func (226 : Nat) [AV.ptr 1 0, AV.ptr 0 0, AV.ptr 2 0]), { boxes := [[AV.str s], [AV.str [(44 : UInt8)]], [AV.int .i64 0]], toks := [], loops := [] : Heap })) rfl) (by kernel_rfl)
theorem seq1Pair (s0 s : List UInt8) : lim cfg (.fn 150) [.str s, .str [44]] ⟨[oPair0 s0 [], oPair1 [], oPair2 [], oPair3 []], [], []⟩ = some (.ret (.func 226 [.ptr 5 0, .ptr 4 0, .ptr 6 0]), ⟨[oPair0 s0 [], oPair1 [], oPair2 [], oPair3 [], [.str s], [.str [44]], [.int .i64 0]], [], []⟩) := by
  have h0 : lim cfg (.fn 195) [.str s, .str [44], .int .i64 0] Heap.nil = some (.ret (.func 226 [.ptr 1 0, .ptr 0 0, .ptr 2 0]), ⟨[[.str s], [.str [44]], [.int .i64 0]], [], []⟩) := by
    rw [l195]
    exact go 60 []  trivial  (.fin ((ARes.ret (AV.func (226 : Nat) [AV.ptr 1 0, AV.ptr 0 0, AV.ptr 2 0]), { boxes := [[AV.str s], [AV.str [(44 : UInt8)]], [AV.int .i64 0]], toks := [], loops := [] : Heap })) rfl) (by kernel_rfl)
  have h1 : lim cfg (.fn 195) [.str s, .str [44], .int .i64 0] ⟨[oPair0 s0 [], oPair1 [], oPair2 [], oPair3 []], [], []⟩ = some (.ret (.func 226 [.ptr 5 0, .ptr 4 0, .ptr 6 0]), ⟨[oPair0 s0 [], oPair1 [], oPair2 [], oPair3 [], [.str s], [.str [44]], [.int .i64 0]], [], []⟩) := by
    rw [l195]
    exact go 60 []  trivial  (.fin ((ARes.ret (AV.func (226 : Nat) [AV.ptr 5 0, AV.ptr 4 0, AV.ptr 6 0]), { boxes := [[AV.str s0], [AV.func (154 : Nat) []], [AV.func (156 : Nat) []], [AV.sl .full []], [AV.str s], [AV.str [(44 : UInt8)]], [AV.int .i64 0]], toks := [], loops := [] : Heap })) rfl) (by kernel_rfl)
  have hd : Does cfg (.call (.c (.func 195 [])) [.c (.str s), .c (.str [44]), .c (.int .i64 0)]) ⟨[oPair0 s0 [], oPair1 [], oPair2 [], oPair3 []], [], []⟩ (.func 226 [.ptr 5 0, .ptr 4 0, .ptr 6 0]) ⟨[oPair0 s0 [], oPair1 [], oPair2 [], oPair3 [], [.str s], [.str [44]], [.int .i64 0]], [], []⟩ :=
    does_callN h0 rfl h1 rfl rfl
  rw [l150]
  exact go 60 []  trivial  (.effY (show Does cfg (AOp.call (Opd.c (AV.func (195 : FuncId) [])) [Opd.c (AV.str s), Opd.c (AV.str [(44 : UInt8)]), Opd.c (AV.int .i64 0)]) { boxes := [oPair0 s0 [], oPair1 [], oPair2 [], oPair3 []], toks := [], loops := [] : Heap } (AV.func (226 : FuncId) [AV.ptr 5 0, AV.ptr 4 0, AV.ptr 6 0]) { boxes := [oPair0 s0 [], oPair1 [], oPair2 [], oPair3 [], [AV.str s], [AV.str [(44 : UInt8)]], [AV.int .i64 0]], toks := [], loops := [] : Heap } from hd) <| .fin ((ARes.ret (AV.func (226 : Nat) [AV.ptr 5 0, AV.ptr 4 0, AV.ptr 6 0]), { boxes := [[AV.str s0], [AV.func (154 : Nat) []], [AV.func (156 : Nat) []], [AV.sl .full []], [AV.str s], [AV.str [(44 : UInt8)]], [AV.int .i64 0]], toks := [], loops := [] : Heap })) rfl) (by kernel_rfl)
theorem tryPair (pf : List UInt8 → Option Pair) (ck : List Pair → Int) (hp : ∀ p x, p.length ≤ 1000 → pf p = some x → Gives cfg 154 [.str p] (encP x)) (hpn : ∀ p, p.length ≤ 1000 → p ≠ [] → pf p = none → Pans cfg 154 [.str p] (stopV 2))
    (hck : ∀ l : List Pair, Gives cfg 156 [.sl .sh (l.map encP)] (.int .i64 (ck l))) (s : List UInt8) (hl : s.length ≤ 1000) :
    match foldE (collect pf) [] (parts 44 s) with
    | none => ∃ H', lim cfg (.fn 91) [.func 198 [.ptr 0 0, .ptr 3 0, .ptr 1 0, .ptr 2 0]] ⟨[oPair0 s [], oPair1 [], oPair2 [], oPair3 []], [], []⟩ = some (.ret (.int .i64 2), H')
    | some l => if ck l = 0 then ∃ last, lim cfg (.fn 91) [.func 198 [.ptr 0 0, .ptr 3 0, .ptr 1 0, .ptr 2 0]] ⟨[oPair0 s [], oPair1 [], oPair2 [], oPair3 []], [], []⟩ = some (.ret (.int .i64 0), ⟨[oPair0 s l, oPair1 l, oPair2 l, oPair3 l, [.str last], [.str [44]], [.int .i64 0]], tkR encP l, []⟩)
      else ∃ H', lim cfg (.fn 91) [.func 198 [.ptr 0 0, .ptr 3 0, .ptr 1 0, .ptr 2 0]] ⟨[oPair0 s [], oPair1 [], oPair2 [], oPair3 []], [], []⟩ = some (.ret (.int .i64 (ck l)), H') := by
  obtain ⟨v0, H0, h0, hn0⟩ := seq0Pair s
  have hd : Does cfg (.call (.c (.func 150 [])) [.c (.str s), .c (.str [44])]) ⟨[oPair0 s [], oPair1 [], oPair2 [], oPair3 []], [], []⟩ (.func 226 [.ptr 5 0, .ptr 4 0, .ptr 6 0]) ⟨[oPair0 s [], oPair1 [], oPair2 [], oPair3 [], [.str s], [.str [44]], [.int .i64 0]], [], []⟩ :=
    does_callN h0 hn0 (seq1Pair s s) rfl rfl
  have clo : ∀ R, (∀ T (hT : Has T [(0, .ptr 0 0), (1, .ptr 3 0), (2, .ptr 1 0), (3, .ptr 2 0), (6, .func 226 [.ptr 5 0, .ptr 4 0, .ptr 6 0])]), Goes cfg a198 kr198_0 T ⟨[oPair0 s [], oPair1 [], oPair2 [], oPair3 [], [.str s], [.str [44]], [.int .i64 0]], [], []⟩ R) →
      ∃ r, lim cfg (.fn 198) [.ptr 0 0, .ptr 3 0, .ptr 1 0, .ptr 2 0] ⟨[oPair0 s [], oPair1 [], oPair2 [], oPair3 []], [], []⟩ = some r ∧ R r := by
    intro R h
    rw [l198]
    have key : Goes cfg a198 [.c c198] (initEnv [.ptr 0 0, .ptr 3 0, .ptr 1 0, .ptr 2 0]) ⟨[oPair0 s [], oPair1 [], oPair2 [], oPair3 []], [], []⟩ R := by
      exact goG 60 []  trivial  (.effY (show Does cfg (AOp.call (Opd.c (AV.func (150 : FuncId) [])) [Opd.c (AV.str s), Opd.c (AV.str [(44 : UInt8)])]) { boxes := [oPair0 s [], oPair1 [], oPair2 [], oPair3 []], toks := [], loops := [] : Heap } (AV.func (226 : FuncId) [AV.ptr 5 0, AV.ptr 4 0, AV.ptr 6 0]) { boxes := [oPair0 s [], oPair1 [], oPair2 [], oPair3 [], [AV.str s], [AV.str [(44 : UInt8)]], [AV.int .i64 0]], toks := [], loops := [] : Heap } from hd) <| .cutQ kr198_0 [(0, AV.ptr 0 0), (1, AV.ptr 3 0), (2, AV.ptr 1 0), (3, AV.ptr 2 0), (6, AV.func (226 : Nat) [AV.ptr 5 0, AV.ptr 4 0, AV.ptr 6 0])] ({ boxes := [[AV.str s], [AV.func (154 : Nat) []], [AV.func (156 : Nat) []], [AV.sl .full []], [AV.str s], [AV.str [(44 : UInt8)]], [AV.int .i64 0]], toks := [], loops := [] : Heap }) (fun T hT => (h T hT))) (by kernel_rfl)
    exact key
  cases hf : foldE (collect pf) [] (parts 44 s) with
  | none =>
    obtain ⟨r, h1, h2⟩ := clo (fun r => r.1 = .pan (stopV 2)) (fun T hT => by
      obtain ⟨H', e⟩ := (rgPair s pf hp hpn s hl T hT).2 hf
      exact ⟨_, e, rfl⟩)
    obtain ⟨x, H'⟩ := r
    simp only at h2
    subst h2
    exact ⟨H', by rw [lim_try rfl, h1]; rfl⟩
  | some l =>
    simp only
    have hg := hck l
    by_cases hc : ck l = 0
    · rw [if_pos hc]
      rw [hc] at hg
      obtain ⟨r, h1, h2⟩ := clo (fun r => ∃ last, r = (.ret (.tuple []), ⟨[oPair0 s l, oPair1 l, oPair2 l, oPair3 l, [.str last], [.str [44]], [.int .i64 0]], tkR encP l, []⟩)) (fun T hT => by
        obtain ⟨last, e⟩ := (rgPair s pf hp hpn s hl T hT).1 l hf
        have key : Goes cfg a198 kr198_0.tail T ⟨[oPair0 s l, oPair1 l, oPair2 l, oPair3 l, [.str last], [.str [44]], [.int .i64 0]], tkR encP l, []⟩ (fun r => r = (.ret (.tuple []), ⟨[oPair0 s l, oPair1 l, oPair2 l, oPair3 l, [.str last], [.str [44]], [.int .i64 0]], tkR encP l, []⟩)) := by
          exact goG 60 _  hT  (.callG ([AV.sl (skF l) (List.map encP l)]) (AV.int .i64 0) (show Gives cfg (156 : FuncId) [AV.sl .sh (List.map encP l)] (AV.int .i64 0) from hg) Shuts.p ⟨rfl, rfl⟩ <| .callG ([AV.int .i64 0]) (AV.tuple []) (show Gives cfg (94 : FuncId) [AV.int .i64 0] (AV.tuple []) from stop_ok) ⟨rfl, rfl⟩ ⟨rfl, rfl⟩ <| .fin ((ARes.ret (AV.tuple []), { boxes := [[AV.str s], [AV.func (154 : Nat) []], [AV.func (156 : Nat) []], [AV.sl (skF l) (List.map encP l)], [AV.str last], [AV.str [(44 : UInt8)]], [AV.int .i64 0]], toks := tkR encP l, loops := [] : Heap })) rfl) (by kernel_rfl)
        obtain ⟨r, k1, k2⟩ := key
        exact ⟨r, e.trans k1, last, k2⟩)
      obtain ⟨last, rfl⟩ := h2
      exact ⟨last, by rw [lim_try rfl, h1]; rfl⟩
    · rw [if_neg hc]
      obtain ⟨r, h1, h2⟩ := clo (fun r => r.1 = .pan (stopV (ck l))) (fun T hT => by
        obtain ⟨last, e⟩ := (rgPair s pf hp hpn s hl T hT).1 l hf
        have hst := stop_pan hc
        have key : Goes cfg a198 kr198_0.tail T ⟨[oPair0 s l, oPair1 l, oPair2 l, oPair3 l, [.str last], [.str [44]], [.int .i64 0]], tkR encP l, []⟩ (fun r => r.1 = .pan (stopV (ck l))) := by
          exact goG 60 _  hT  (.callG ([AV.sl (skF l) (List.map encP l)]) (AV.int .i64 (ck l)) (show Gives cfg (156 : FuncId) [AV.sl .sh (List.map encP l)] (AV.int .i64 (ck l)) from hg) Shuts.p ⟨rfl, rfl⟩ <| .callP ([AV.int .i64 (ck l)]) ({ boxes := [[AV.str s], [AV.func (154 : Nat) []], [AV.func (156 : Nat) []], [AV.sl (skF l) (List.map encP l)], [AV.str last], [AV.str [(44 : UInt8)]], [AV.int .i64 0]], toks := tkR encP l, loops := [] : Heap }) (show Pans cfg (94 : FuncId) [AV.int .i64 (ck l)] (stopV (ck l)) from hst) ⟨rfl, rfl⟩ rfl rfl) (by kernel_rfl)
        obtain ⟨r, k1, k2⟩ := key
        exact ⟨r, e.trans k1, k2⟩)
      obtain ⟨x, H'⟩ := r
      simp only at h2
      subst h2
      exact ⟨H', by rw [lim_try rfl, h1]; rfl⟩
theorem partsPair (pf : List UInt8 → Option Pair) (ck : List Pair → Int) (hp : ∀ p x, p.length ≤ 1000 → pf p = some x → Gives cfg 154 [.str p] (encP x)) (hpn : ∀ p, p.length ≤ 1000 → p ≠ [] → pf p = none → Pans cfg 154 [.str p] (stopV 2))
    (hck : ∀ l : List Pair, Gives cfg 156 [.sl .sh (l.map encP)] (.int .i64 (ck l))) (s : List UInt8) (hl : s.length ≤ 1000) :
    Gives cfg 153 [.str s, .func 154 [], .func 156 []] (.tuple [rowF encP (parsed pf ck s).1, .int .i64 (parsed pf ck s).2]) := by
  refine Gives.run (l153 _ _) ?_
  by_cases hs : s = [45]
  · subst hs
    exact goG 60 []  trivial  (.tt <| .fin ((ARes.ret (AV.tuple [AV.sl .full [], AV.int .i64 0]), { boxes := [[AV.str [(45 : UInt8)]], [AV.func (154 : Nat) []], [AV.func (156 : Nat) []]], toks := [], loops := [] : Heap })) rfl) (by kernel_rfl)
  · have ht := tryPair pf ck hp hpn hck s hl
    simp only [parsed, if_neg hs]
    cases hf : foldE (collect pf) [] (parts 44 s) with
    | none =>
      simp only [hf] at ht ⊢
      obtain ⟨H', ht⟩ := ht
      have hd := does_callE (xs := [.func 198 [.ptr 0 0, .ptr 3 0, .ptr 1 0, .ptr 2 0]]) (caps := []) ht rfl rfl
      generalize trunc _ _ _ H' = H2 at hd
      exact goG 60 []  trivial  (.no (show (s == [(45 : UInt8)]) = false from Bool.eq_false_iff.2 (show ¬ ((s == [(45 : UInt8)]) = true) from (by simpa using hs))) <| .effY (show Does cfg (AOp.call (Opd.c (AV.func (91 : FuncId) [])) (List.map Opd.c [AV.func (198 : FuncId) [AV.ptr 0 0, AV.ptr 3 0, AV.ptr 1 0, AV.ptr 2 0]])) { boxes := [oPair0 s [], oPair1 [], oPair2 [], oPair3 []], toks := [], loops := [] : Heap } (shutA (AV.int .i64 2)) H2 from hd) <| .tt <| .fin ((ARes.ret (AV.tuple [AV.sl .full [], AV.int .i64 2]), H2)) rfl) (by kernel_rfl)
    | some l =>
      simp only [hf] at ht ⊢
      by_cases hc : ck l = 0
      · rw [if_pos hc] at ht
        simp only [if_pos hc]
        obtain ⟨last, ht⟩ := ht
        have hd : Does cfg (.call (.c (.func 91 [])) [.c (.func 198 [.ptr 0 0, .ptr 3 0, .ptr 1 0, .ptr 2 0])]) ⟨[oPair0 s [], oPair1 [], oPair2 [], oPair3 []], [], []⟩ (.int .i64 0) ⟨[oPair0 s l, oPair1 l, oPair2 l, oPair3 l], tkR encP l, []⟩ := by
          have hd := does_callE (xs := [.func 198 [.ptr 0 0, .ptr 3 0, .ptr 1 0, .ptr 2 0]]) (caps := []) ht rfl rfl
          refine Eq.mp ?_ hd
          congr 1
          cases l <;> rfl
        exact goG 60 []  trivial  (.no (show (s == [(45 : UInt8)]) = false from Bool.eq_false_iff.2 (show ¬ ((s == [(45 : UInt8)]) = true) from (by simpa using hs))) <| .effY (show Does cfg (AOp.call (Opd.c (AV.func (91 : FuncId) [])) [Opd.c (AV.func (198 : FuncId) [AV.ptr 0 0, AV.ptr 3 0, AV.ptr 1 0, AV.ptr 2 0])]) { boxes := [oPair0 s [], oPair1 [], oPair2 [], oPair3 []], toks := [], loops := [] : Heap } (AV.int .i64 0) { boxes := [oPair0 s l, oPair1 l, oPair2 l, oPair3 l], toks := tkR encP l, loops := [] : Heap } from hd) <| .ff <| .fin ((ARes.ret (AV.tuple [AV.sl (skF l) (List.map encP l), AV.int .i64 0]), { boxes := [[AV.str s], [AV.func (154 : Nat) []], [AV.func (156 : Nat) []], [AV.sl (skF l) (List.map encP l)]], toks := tkR encP l, loops := [] : Heap })) rfl) (by kernel_rfl)
      · rw [if_neg hc] at ht
        simp only [if_neg hc]
        obtain ⟨H', ht⟩ := ht
        have hd := does_callE (xs := [.func 198 [.ptr 0 0, .ptr 3 0, .ptr 1 0, .ptr 2 0]]) (caps := []) ht rfl rfl
        generalize trunc _ _ _ H' = H2 at hd
        exact goG 60 []  trivial  (.no (show (s == [(45 : UInt8)]) = false from Bool.eq_false_iff.2 (show ¬ ((s == [(45 : UInt8)]) = true) from (by simpa using hs))) <| .effY (show Does cfg (AOp.call (Opd.c (AV.func (91 : FuncId) [])) (List.map Opd.c [AV.func (198 : FuncId) [AV.ptr 0 0, AV.ptr 3 0, AV.ptr 1 0, AV.ptr 2 0]])) { boxes := [oPair0 s [], oPair1 [], oPair2 [], oPair3 []], toks := [], loops := [] : Heap } (shutA (AV.int .i64 (ck l))) H2 from hd) <| .yes (show (ck l != (0 : Int)) = true from (by simpa using hc)) <| .fin ((ARes.ret (AV.tuple [AV.sl .full [], AV.int .i64 (ck l)]), H2)) rfl) (by kernel_rfl)

section
variable (s0 : List UInt8)
end
end Go.Aa.T

set_option linter.unusedVariables false
set_option linter.unusedSimpArgs false
set_option maxRecDepth 100000
namespace Go.Aa.T
open Go.Aa Go.Proofs
theorem in0_data {nb nt : Nat} : ∀ {x : AV}, data0 x = true → in0 nb nt x = true
  | .undef, h => by cases h
  | .bool _, _ => rfl
  | .int .., _ => rfl
  | .flt _, _ => rfl
  | .nan, _ => rfl
  | .str _, _ => rfl
  | .sl .sh _, _ => rfl
  | .sl .full _, _ => rfl
  | .sl (.own _) _, h => by cases h
  | .agg _, h => by cases h
  | .tuple _, h => by cases h
  | .ptr .., h => by cases h
  | .ref _, _ => rfl
  | .nilptr, _ => rfl
  | .func .., h => by cases h
  | .nilFunc, _ => rfl
  | .iface .., h => by cases h
  | .nilIface, _ => rfl
  | .msl .., h => by cases h
  | .yield _, h => by cases h
theorem in2_data0 {nb nt : Nat} {x : AV} (h : data0 x = true) : in2 nb nt x = true := by
  have := in0_data (nb := nb) (nt := nt) h
  cases x <;> first | exact this | cases h
theorem trunc_plain {bs ex : List (List AV)} {ts : List Nat} {b : Bool} (hb : bs.all (·.all data0) = true) : trunc bs.length ts.length (.bool b) ⟨bs ++ ex, ts, []⟩ = ⟨bs, ts, []⟩ := by
  have hin : ∀ nb nt, bs.all (·.all (in2 nb nt)) = true := fun nb nt => by
    rw [List.all_eq_true] at hb ⊢
    intro l hl
    have := hb l hl
    rw [List.all_eq_true] at this ⊢
    exact fun x hx => in2_data0 (this x hx)
  unfold trunc
  simp only [List.take_left', hin, List.all_nil, Bool.true_and, Bool.and_true]
  simp [within, in2, in1, in0]

section
variable {H : Heap} {k : Nat} {p : Taint → Bool}
theorem idxT_loop (hd : ∀ y : Taint, Does cfg (.call (.c (.func 145 [.ptr k 0])) [.c (encT y)]) H (.bool (p y)) H) (l : List Taint) (hn : l.length < 9223372036854775807) : ∀ (post : List Taint) (i : Nat) (hdr : l.drop i = post) (T : Env)
    (hT : Has T [(0, .sl .sh (l.map encT)), (1, .func 145 [.ptr k 0]), (7, .int .i64 l.length), (8, .int .i64 i)]),
    Goes cfg a191 k191_0 T H (fun r => r = (.ret (.int .i64 (fidxB p post i)), H)) := by
  intro post
  induction post with
  | nil =>
    intro i hdr T hT
    have hge := drop_ge hdr
    exact goG 60 _  hT  (.no (show (decide ((↑i : Int) < (↑l.length : Int))) = false from decide_eq_false (show ¬ ((↑i : Int) < (↑l.length : Int)) from (by omega))) <| .fin ((ARes.ret (AV.int .i64 (-1 : Int)), H)) rfl) (by kernel_rfl)
  | cons x post ih =>
    intro i hdr T hT
    have hlt := drop_lt hdr
    have hnx := drop_next hdr
    have hdx := hd x
    cases hp : p x with
    | true =>
      rw [hp] at hdx
      have e : fidxB p (x :: post) i = i := by simp [fidxB, hp]
      rw [e]
      exact goG 60 _  hT  (.yes (show (decide ((↑i : Int) < (↑l.length : Int))) = true from decide_eq_true (show (↑i : Int) < (↑l.length : Int) from (by omega))) <| .idx (show idxA 3 (AV.sl .sh (List.map encT l)) (AV.int .i64 (↑i : Int)) = some (AV.ref (encT x).cells) from idx_row hdr (by rfl)) <| .load (show loadA true 3 H (AV.ref [AV.str x.key, AV.str x.val, AV.bool x.hard]) = some (AV.agg [AV.str x.key, AV.str x.val, AV.bool x.hard]) from rfl) <| .effY (show Does cfg (AOp.call (Opd.c (AV.func (145 : FuncId) [AV.ptr k (0 : Nat)])) [Opd.c (encT x)]) H (AV.bool true) H from hdx) <| .tt <| .fin ((ARes.ret (AV.int .i64 (↑i : Int)), H)) rfl) (by kernel_rfl)
    | false =>
      rw [hp] at hdx
      have e : fidxB p (x :: post) i = fidxB p post (i + 1) := by simp [fidxB, hp]
      rw [e]
      exact goG 60 _  hT  (.yes (show (decide ((↑i : Int) < (↑l.length : Int))) = true from decide_eq_true (show (↑i : Int) < (↑l.length : Int) from (by omega))) <| .idx (show idxA 3 (AV.sl .sh (List.map encT l)) (AV.int .i64 (↑i : Int)) = some (AV.ref (encT x).cells) from idx_row hdr (by rfl)) <| .load (show loadA true 3 H (AV.ref [AV.str x.key, AV.str x.val, AV.bool x.hard]) = some (AV.agg [AV.str x.key, AV.str x.val, AV.bool x.hard]) from rfl) <| .effY (show Does cfg (AOp.call (Opd.c (AV.func (145 : FuncId) [AV.ptr k (0 : Nat)])) [Opd.c (encT x)]) H (AV.bool false) H from hdx) <| .ff <| .bin (show binA .add (AV.int .i64 (↑i : Int)) (AV.int .i64 1) = some (AV.int .i64 (↑(i + (1 : Nat)) : Int)) from inc_i (by omega)) <| .cutQ k191_0 [(0, AV.sl .sh (List.map encT l)), (1, AV.func (145 : Nat) [AV.ptr k (0 : Nat)]), (7, AV.int .i64 (↑l.length : Int)), (8, AV.int .i64 (↑(i + (1 : Nat)) : Int))] (H) (fun T hT => (ih (i + (1 : Nat)) hnx T hT))) (by kernel_rfl)
theorem idxT (hd : ∀ y : Taint, Does cfg (.call (.c (.func 145 [.ptr k 0])) [.c (encT y)]) H (.bool (p y)) H) (l : List Taint) (hn : l.length < 9223372036854775807) :
    lim cfg (.fn 191) [.sl .sh (l.map encT), .func 145 [.ptr k 0]] H = some (.ret (.int .i64 (fidxB p l 0)), H) := by
  rw [l191]
  have h := idxT_loop hd l hn l 0 rfl
  have key : Goes cfg a191 [.c c191] (initEnv [.sl .sh (l.map encT), .func 145 [.ptr k 0]]) H (fun r => r = (.ret (.int .i64 (fidxB p l 0)), H)) := by
    exact goG 60 []  trivial  (.len (show lenA false (AV.sl .sh (List.map encT l)) = some (AV.int .i64 (↑l.length : Int)) from len_map _) <| .cutQ k191_0 [(0, AV.sl .sh (List.map encT l)), (1, AV.func (145 : Nat) [AV.ptr k (0 : Nat)]), (7, AV.int .i64 (↑l.length : Int)), (8, AV.int .i64 0)] (H) (fun T hT => (h T hT))) (by kernel_rfl)
  obtain ⟨r, h, rfl⟩ := key
  exact h
theorem hasT (hd : ∀ y : Taint, Does cfg (.call (.c (.func 145 [.ptr k 0])) [.c (encT y)]) H (.bool (p y)) H) (l : List Taint) (hn : l.length < 9223372036854775807) (htr : trunc H.boxes.length H.toks.length (.int .i64 (fidxB p l 0)) H = H) :
    lim cfg (.fn 144) [.sl .sh (l.map encT), .func 145 [.ptr k 0]] H = some (.ret (.bool (l.any p)), H) := by
  rw [l144]
  have h0 := does_callE (xs := [.sl .sh (l.map encT), .func 145 [.ptr k 0]]) (caps := []) (idxT hd l hn) rfl rfl
  rw [show shutA (.int .i64 (fidxB p l 0)) = .int .i64 (fidxB p l 0) from rfl, htr] at h0
  have hf := fidxB_ge p l 0
  have key : Goes cfg a144 [.c c144] (initEnv [.sl .sh (l.map encT), .func 145 [.ptr k 0]]) H (fun r => r = (.ret (.bool (l.any p)), H)) := by
    exact goG 60 []  trivial  (.effY (show Does cfg (AOp.call (Opd.c (AV.func (191 : FuncId) [])) (List.map Opd.c [AV.sl .sh (List.map encT l), AV.func (145 : FuncId) [AV.ptr k (0 : Nat)]])) H (AV.int .i64 (fidxB p l (0 : Nat))) H from h0) <| .fin ((ARes.ret (AV.bool (decide ((0 : Int) ≤ fidxB p l (0 : Nat)))), H)) (by simp [← hf])) (by kernel_rfl)
  obtain ⟨r, h, rfl⟩ := key
  exact h
end
theorem one64 (x y : Taint) (bs : List (List AV)) (hb : bs.all (·.all data0) = true) : Does cfg (.call (.c (.func 145 [.ptr bs.length 0])) [.c (encT y)]) ⟨bs ++ [x.cells], [], []⟩ (.bool (same x y)) ⟨bs ++ [x.cells], [], []⟩ := by
  have key : Goes cfg a145 [.c c145] (initEnv [encT y, .ptr bs.length 0]) ⟨bs ++ [x.cells], [], []⟩ (fun r => r = (.ret (.bool (same x y)), ⟨(bs ++ [x.cells]) ++ [y.cells], [], []⟩)) := by
    exact goG 60 []  trivial  (.load (show loadA false 1 { boxes := bs ++ [[AV.str x.key, AV.str x.val, AV.bool x.hard]] ++ [[AV.str y.key, AV.str y.val, AV.bool y.hard]], toks := [], loops := [] : Heap } (AV.ptr (bs ++ [[AV.str x.key, AV.str x.val, AV.bool x.hard]]).length (0 : Nat)) = some (AV.str y.key) from load_box (cs := [AV.str y.key, AV.str y.val, AV.bool y.hard]) (by simp) rfl) <| .load (show loadA false 1 { boxes := bs ++ [[AV.str x.key, AV.str x.val, AV.bool x.hard]] ++ [[AV.str y.key, AV.str y.val, AV.bool y.hard]], toks := [], loops := [] : Heap } (AV.ptr bs.length (0 : Nat)) = some (AV.str x.key) from load_box (cs := [AV.str x.key, AV.str x.val, AV.bool x.hard]) (by simp) rfl) <| .split ((y.key == x.key) = true) (fun h1 => .yes (show (y.key == x.key) = true from h1) <| .load (show loadA false 1 { boxes := bs ++ [[AV.str x.key, AV.str x.val, AV.bool x.hard]] ++ [[AV.str y.key, AV.str y.val, AV.bool y.hard]], toks := [], loops := [] : Heap } (AV.ptr (bs ++ [[AV.str x.key, AV.str x.val, AV.bool x.hard]]).length (1 : Nat)) = some (AV.str y.val) from load_box (cs := [AV.str y.key, AV.str y.val, AV.bool y.hard]) (by simp) rfl) <| .load (show loadA false 1 { boxes := bs ++ [[AV.str x.key, AV.str x.val, AV.bool x.hard]] ++ [[AV.str y.key, AV.str y.val, AV.bool y.hard]], toks := [], loops := [] : Heap } (AV.ptr bs.length (1 : Nat)) = some (AV.str x.val) from load_box (cs := [AV.str x.key, AV.str x.val, AV.bool x.hard]) (by simp) rfl) <| .fin ((ARes.ret (AV.bool (y.val == x.val)), { boxes := bs ++ [[AV.str x.key, AV.str x.val, AV.bool x.hard]] ++ [[AV.str y.key, AV.str y.val, AV.bool y.hard]], toks := [], loops := [] : Heap })) (by grind [same, Taint.cells])) (fun h1 => .no (show (y.key == x.key) = false from Bool.eq_false_iff.2 (show ¬ ((y.key == x.key) = true) from h1)) <| .fin ((ARes.ret (AV.bool false), { boxes := bs ++ [[AV.str x.key, AV.str x.val, AV.bool x.hard]] ++ [[AV.str y.key, AV.str y.val, AV.bool y.hard]], toks := [], loops := [] : Heap })) (by simp_all [same, Taint.cells]))) (by kernel_rfl)
  obtain ⟨r, h, rfl⟩ := key
  have h2 : lim cfg (.fn 145) ([encT y] ++ [.ptr bs.length 0]) ⟨bs ++ [x.cells], [], []⟩ = some (.ret (.bool (same x y)), ⟨(bs ++ [x.cells]) ++ [y.cells], [], []⟩) := by
    rw [l145]; exact h
  have hd := does_callE h2 rfl rfl
  rwa [show shutA (.bool (same x y)) = .bool (same x y) from rfl, trunc_plain (bs := bs ++ [x.cells]) (ex := [y.cells]) (ts := []) (by simp only [List.all_append, hb]; rfl)] at hd
theorem trunc_plainI {bs : List (List AV)} {ts : List Nat} {n : Int} (hb : bs.all (·.all data0) = true) : trunc bs.length ts.length (.int .i64 n) ⟨bs, ts, []⟩ = ⟨bs, ts, []⟩ := by
  have h := trunc_plain (ex := []) (ts := ts) (b := true) hb
  rw [List.append_nil] at h
  exact h
theorem has63 (x : Taint) (l : List Taint) (hn : l.length < 9223372036854775807) (bs : List (List AV)) (hb : bs.all (·.all data0) = true) :
    Does cfg (.call (.c (.func 144 [])) [.c (.sl .sh (l.map encT)), .c (.func 145 [.ptr bs.length 0])]) ⟨bs ++ [x.cells], [], []⟩ (.bool (l.any (same x))) ⟨bs ++ [x.cells], [], []⟩ := by
  have hb2 : (bs ++ [x.cells]).all (·.all data0) = true := by simp only [List.all_append, hb]; rfl
  have h := hasT (H := ⟨bs ++ [x.cells], [], []⟩) (k := bs.length) (p := same x) (fun y => one64 x y bs hb) l hn (trunc_plainI hb2)
  have hd := does_callE (xs := [.sl .sh (l.map encT), .func 145 [.ptr bs.length 0]]) (caps := []) h rfl rfl
  have e := trunc_plain (bs := bs ++ [x.cells]) (ex := []) (ts := []) (b := l.any (same x)) hb2
  rw [List.append_nil] at e
  rwa [show shutA (.bool (l.any (same x))) = .bool (l.any (same x)) from rfl, e] at hd
theorem ckT2_loop (l : List Taint) (hn : l.length ≤ 8) : ∀ (post : List Taint) (i : Nat) (bs : List (List AV)) (hb : bs.all (·.all data0) = true) (hd : l.drop i = post) (T : Env) (hT : Has T [(0, .sl .sh (l.map encT)), (8, .sl .sh (l.map encT)), (9, .int .i64 l.length), (10, .int .i64 i)]),
    Goes cfg a84 k84_0 T ⟨bs, [], []⟩ (IsRet (.int .i64 (ckTl l i post))) := by
  intro post
  induction post with
  | nil =>
    intro i bs hb hd T hT
    have hge := drop_ge hd
    exact goG 60 _  hT  (.no (show (decide ((↑i : Int) < (↑l.length : Int))) = false from decide_eq_false (show ¬ ((↑i : Int) < (↑l.length : Int)) from (by omega))) <| .fin ((ARes.ret (AV.int .i64 0), { boxes := bs, toks := [], loops := [] : Heap })) rfl) (by kernel_rfl)
  | cons x post ih =>
    intro i bs hb hd T hT
    have hlt := drop_lt hd
    have hnx := drop_next hd
    have hc := has63 x (l.take i) (by simp; omega) bs hb
    have hb2 : (bs ++ [x.cells]).all (·.all data0) = true := by simp only [List.all_append, hb]; rfl
    have ih2 := ih (i + 1) (bs ++ [[.str x.key, .str x.val, .bool x.hard]]) hb2 hnx
    exact goG 90 _  hT  (.yes (show (decide ((↑i : Int) < (↑l.length : Int))) = true from decide_eq_true (show (↑i : Int) < (↑l.length : Int) from (by omega))) <| .idx (show idxA 3 (AV.sl .sh (List.map encT l)) (AV.int .i64 (↑i : Int)) = some (AV.ref (encT x).cells) from idx_row hd (by rfl)) <| .load (show loadA true 3 { boxes := bs, toks := [], loops := [] : Heap } (AV.ref [AV.str x.key, AV.str x.val, AV.bool x.hard]) = some (AV.agg [AV.str x.key, AV.str x.val, AV.bool x.hard]) from rfl) <| .store (show storeA 3 { boxes := bs ++ [[AV.str [], AV.str [], AV.bool false]], toks := [], loops := [] : Heap } (AV.ptr bs.length (0 : Nat)) (AV.agg [AV.str x.key, AV.str x.val, AV.bool x.hard]) = some ({ boxes := bs ++ [[AV.str x.key, AV.str x.val, AV.bool x.hard]], toks := [], loops := [] : Heap }) from store_box2 (cs := [AV.str [], AV.str [], AV.bool false]) (cs' := [AV.str x.key, AV.str x.val, AV.bool x.hard]) (by simp) rfl (by simp [List.set_append])) <| .load (show loadA false 1 { boxes := bs ++ [[AV.str x.key, AV.str x.val, AV.bool x.hard]], toks := [], loops := [] : Heap } (AV.ptr bs.length (0 : Nat)) = some (AV.str x.key) from load_box (cs := [AV.str x.key, AV.str x.val, AV.bool x.hard]) (by simp) rfl) <| .callG ([AV.str x.key]) (AV.bool (isName x.key)) (show Gives cfg (143 : FuncId) [AV.str x.key] (AV.bool (isName x.key)) from res_name _) ⟨rfl, rfl⟩ ⟨rfl, rfl⟩ <| .split (isName x.key = true) (fun h1 => .no (show (!isName x.key) = false from by have hh : isName x.key = true := h1; simp [hh]) <| .load (show loadA false 1 { boxes := bs ++ [[AV.str x.key, AV.str x.val, AV.bool x.hard]], toks := [], loops := [] : Heap } (AV.ptr bs.length (1 : Nat)) = some (AV.str x.val) from load_box (cs := [AV.str x.key, AV.str x.val, AV.bool x.hard]) (by simp) rfl) <| .callG ([AV.str x.val]) (AV.bool (isName x.val)) (show Gives cfg (143 : FuncId) [AV.str x.val] (AV.bool (isName x.val)) from res_name _) ⟨rfl, rfl⟩ ⟨rfl, rfl⟩ <| .split (isName x.val = true) (fun h2 => .no (show (!isName x.val) = false from by have hh : isName x.val = true := h2; simp [hh]) <| .slice (show sliceA (3 : Nat) (AV.sl .sh (List.map encT l)) none (some (AV.int .i64 (↑i : Int))) none = some (AV.sl .sh (List.map encT (List.take i l))) from slice_to (by omega) (by rfl) (by exact cellT)) <| .effY (show Does cfg (AOp.call (Opd.c (AV.func (144 : FuncId) [])) [Opd.c (AV.sl .sh (List.map encT (List.take i l))), Opd.c (AV.func (145 : FuncId) [AV.ptr bs.length (0 : Nat)])]) { boxes := bs ++ [x.cells], toks := [], loops := [] : Heap } (AV.bool ((List.take i l).any (same x))) { boxes := bs ++ [x.cells], toks := [], loops := [] : Heap } from hc) <| .split ((List.take i l).any (same x) = true) (fun h3 => .yes (show ((List.take i l).any (same x)) = true from h3) <| .fin ((ARes.ret (AV.int .i64 6), { boxes := bs ++ [[AV.str x.key, AV.str x.val, AV.bool x.hard]], toks := [], loops := [] : Heap })) (by simp only [IsRet]; grind [ckTl])) (fun h3 => .no (show ((List.take i l).any (same x)) = false from Bool.eq_false_iff.2 (show ¬ ((List.take i l).any (same x) = true) from h3)) <| .bin (show binA .add (AV.int .i64 (↑i : Int)) (AV.int .i64 1) = some (AV.int .i64 (↑(i + (1 : Nat)) : Int)) from inc_i (by omega)) <| .cutQ k84_0 [(0, AV.sl .sh (List.map encT l)), (8, AV.sl .sh (List.map encT l)), (9, AV.int .i64 (↑l.length : Int)), (10, AV.int .i64 (↑(i + (1 : Nat)) : Int))] ({ boxes := bs ++ [[AV.str x.key, AV.str x.val, AV.bool x.hard]], toks := [], loops := [] : Heap }) (fun T hT => (ih2 T hT).to (by grind [ckTl])))) (fun h2 => .yes (show (!isName x.val) = true from by have hh : ¬ (isName x.val = true) := h2; simp [hh]) <| .fin ((ARes.ret (AV.int .i64 3), { boxes := bs ++ [[AV.str x.key, AV.str x.val, AV.bool x.hard]], toks := [], loops := [] : Heap })) (by simp only [IsRet]; grind [ckTl]))) (fun h1 => .yes (show (!isName x.key) = true from by have hh : ¬ (isName x.key = true) := h1; simp [hh]) <| .tt <| .fin ((ARes.ret (AV.int .i64 3), { boxes := bs ++ [[AV.str x.key, AV.str x.val, AV.bool x.hard]], toks := [], loops := [] : Heap })) (by simp only [IsRet]; grind [ckTl]))) (by kernel_rfl)
theorem ckT2 (l : List Taint) : Gives cfg 84 [.sl .sh (l.map encT)] (.int .i64 (ckT l)) := by
  refine Gives.run (l84 _ _) ?_
  have h := fun hn => ckT2_loop l hn l 0 [] rfl rfl
  exact goG 60 []  trivial  (.len (show lenA false (AV.sl .sh (List.map encT l)) = some (AV.int .i64 (↑l.length : Int)) from len_map _) <| .split ((8 : Int) < (↑l.length : Int)) (fun h1 => .yes (show (decide ((8 : Int) < (↑l.length : Int))) = true from decide_eq_true (show (8 : Int) < (↑l.length : Int) from h1)) <| .fin ((ARes.ret (AV.int .i64 4), { boxes := [], toks := [], loops := [] : Heap })) (by simp only [IsRet]; grind [ckT])) (fun h1 => .no (show (decide ((8 : Int) < (↑l.length : Int))) = false from decide_eq_false (show ¬ ((8 : Int) < (↑l.length : Int)) from h1)) <| .len (show lenA false (AV.sl .sh (List.map encT l)) = some (AV.int .i64 (↑l.length : Int)) from len_map _) <| .cutQ k84_0 [(0, AV.sl .sh (List.map encT l)), (8, AV.sl .sh (List.map encT l)), (9, AV.int .i64 (↑l.length : Int)), (10, AV.int .i64 0)] ({ boxes := [], toks := [], loops := [] : Heap }) (fun T hT => (h (by omega) T hT).to (by grind [ckT])))) (by kernel_rfl)


end Go.Aa.T

set_option linter.unusedVariables false
set_option linter.unusedSimpArgs false
set_option maxRecDepth 100000
namespace Go.Aa.T
open Go.Aa Go.Proofs
theorem contains_yes (a : List UInt8) (c : UInt8) (h : c ∈ a) : Gives cfg 155 [.str a, .str [c]] (.bool true) := by
  obtain ⟨x, y, hc⟩ : ∃ x y, cutAt c a = some (x, y) := by
    cases hc : cutAt c a with
    | none => exact absurd h (cutAt_none hc)
    | some p => exact ⟨p.1, p.2, rfl⟩
  obtain ⟨rfl, hx⟩ := cutAt_some hc
  have hi : Gives cfg 194 [.str (x ++ c :: y), .str [c]] (.int .i64 (x.length : Nat)) := by
    have := index1 194 (x ++ c :: y) c rfl rfl
    rwa [ib_at hx] at this
  refine Gives.run (l155 _ _) ?_
  exact goG 60 []  trivial  (.callG ([AV.str (x ++ c :: y), AV.str [c]]) (AV.int .i64 (↑x.length : Int)) (show Gives cfg (194 : FuncId) [AV.str (x ++ c :: y), AV.str [c]] (AV.int .i64 (↑x.length : Int)) from hi) ⟨rfl, rfl⟩ ⟨rfl, rfl⟩ <| .fin ((ARes.ret (AV.bool (decide ((0 : Int) ≤ (↑x.length : Int)))), { boxes := [], toks := [], loops := [] : Heap })) rfl) (by kernel_rfl)
theorem suffix_no (a : List UInt8) (c : UInt8) (h : a.getLast? ≠ some c) (hl : a.length ≤ 1000) : Gives cfg 159 [.str a, .str [c]] (.tuple [.str a, .bool false]) := by
  have h1 : Gives cfg 229 [.str a, .str [c]] (.bool false) := by
    refine Gives.run (l229 _ _) ?_
    by_cases hn : a.length = 0
    · have : a = [] := List.length_eq_zero_iff.1 hn
      subst this
      exact goG 60 []  trivial  (.len (show lenA true (AV.str []) = some (AV.int .i64 (↑[].length : Int)) from len_str _) <| .len (show lenA true (AV.str [c]) = some (AV.int .i64 (↑[c].length : Int)) from len_str _) <| .ff <| .fin ((ARes.ret (AV.bool false), { boxes := [], toks := [], loops := [] : Heap })) rfl) (by kernel_rfl)
    · obtain ⟨n, en⟩ : ∃ n, a.length = n + 1 := ⟨a.length - 1, by omega⟩
      have hsub : binA .sub (.int .i64 (a.length : Nat)) (.int .i64 1) = some (.int .i64 (n : Nat)) := by rw [en]; exact dec_i (by omega)
      have hne : ¬ a.drop n = [c] := fun e => h (by
        have : a = a.take n ++ [c] := by rw [← e, List.take_append_drop]
        rw [this]; simp)
      exact goG 60 []  trivial  (.len (show lenA true (AV.str a) = some (AV.int .i64 (↑a.length : Int)) from len_str _) <| .len (show lenA true (AV.str [c]) = some (AV.int .i64 (↑[c].length : Int)) from len_str _) <| .yes (show (decide ((↑[c].length : Int) ≤ (↑a.length : Int))) = true from decide_eq_true (show (↑[c].length : Int) ≤ (↑a.length : Int) from (by simp; omega))) <| .len (show lenA true (AV.str a) = some (AV.int .i64 (↑a.length : Int)) from len_str _) <| .len (show lenA true (AV.str [c]) = some (AV.int .i64 (↑[c].length : Int)) from len_str _) <| .bin (show binA .sub (AV.int .i64 (↑a.length : Int)) (AV.int .i64 (↑[c].length : Int)) = some (AV.int .i64 (↑n : Int)) from hsub) <| .slice (show sliceA (0 : Nat) (AV.str a) (some (AV.int .i64 (↑n : Int))) none none = some (AV.str (List.drop n a)) from sstr_from (by omega)) <| .fin ((ARes.ret (AV.bool (List.drop n a == [c])), { boxes := [], toks := [], loops := [] : Heap })) (by simp [IsRet, hne])) (by kernel_rfl)
  have h2 : Gives cfg 200 [.str a, .str [c]] (.tuple [.str a, .bool false]) := by
    refine Gives.run (l200 _ _) ?_
    exact goG 60 []  trivial  (.callG ([AV.str a, AV.str [c]]) (AV.bool false) (show Gives cfg (229 : FuncId) [AV.str a, AV.str [c]] (AV.bool false) from h1) ⟨rfl, rfl⟩ ⟨rfl, rfl⟩ <| .tt <| .fin ((ARes.ret (AV.tuple [AV.str a, AV.bool false]), { boxes := [], toks := [], loops := [] : Heap })) rfl) (by kernel_rfl)
  refine Gives.run (l159 _ _) ?_
  exact goG 60 []  trivial  (.callG ([AV.str a, AV.str [c]]) (AV.tuple [AV.str a, AV.bool false]) (show Gives cfg (200 : FuncId) [AV.str a, AV.str [c]] (AV.tuple [AV.str a, AV.bool false]) from h2) ⟨rfl, rfl⟩ ⟨rfl, rfl⟩ <| .fin ((ARes.ret (AV.tuple [AV.str a, AV.bool false]), { boxes := [], toks := [], loops := [] : Heap })) rfl) (by kernel_rfl)

def partP (w : List UInt8) : Option Pair := match cutAt 58 w with
  | none => none
  | some (a, b) => if 58 ∈ b then none else some ⟨a, b⟩
def partT (w : List UInt8) : Option Taint := match cutAt 58 w with
  | none => none
  | some (a, b) => if 58 ∈ b then none else some (if b.getLast? = some 33 then ⟨a, b.dropLast, true⟩ else ⟨a, b, false⟩)
theorem stop2 : Pans cfg 94 [.int .i64 2] (stopV 2) := stop_pan (by decide)
theorem cut_len {w a b : List UInt8} {c : UInt8} (h : cutAt c w = some (a, b)) : w.length = a.length + 1 + b.length := by
  rw [(cutAt_some h).1]; simp; omega
theorem partP_run (w : List UInt8) (hl : w.length ≤ 1000) : (∀ x, partP w = some x → Gives cfg 154 [.str w] (encP x)) ∧ (partP w = none → Pans cfg 154 [.str w] (stopV 2)) := by
  cases hc : cutAt 58 w with
  | none =>
    have h := cut_miss w 58 (cutAt_none hc)
    refine ⟨fun x hx => by simp [partP, hc] at hx, fun _ => ?_⟩
    refine Pans.run (l154 _ _) ?_
    exact goG 60 []  trivial  (.callG ([AV.str w, AV.str [(58 : UInt8)]]) (AV.tuple [AV.str w, AV.str [], AV.bool false]) (show Gives cfg (151 : FuncId) [AV.str w, AV.str [(58 : UInt8)]] (AV.tuple [AV.str w, AV.str [], AV.bool false]) from h) ⟨rfl, rfl⟩ ⟨rfl, rfl⟩ <| .tt <| .tt <| .callP ([AV.int .i64 2]) ({ boxes := [[AV.str [], AV.str []]], toks := [], loops := [] : Heap }) (show Pans cfg (94 : FuncId) [AV.int .i64 2] (stopV (2 : Int)) from stop2) ⟨rfl, rfl⟩ rfl rfl) (by kernel_rfl)
  | some p =>
    obtain ⟨a, b⟩ := p
    obtain ⟨rfl, hn⟩ := cutAt_some hc
    have hlen := cut_len hc
    have h := cut_hit a b 58 hn (by omega)
    by_cases hb : 58 ∈ b
    · have h2 := contains_yes b 58 hb
      refine ⟨fun x hx => by simp [partP, hc, hb] at hx, fun _ => ?_⟩
      refine Pans.run (l154 _ _) ?_
      exact goG 60 []  trivial  (.callG ([AV.str (a ++ (58 : UInt8) :: b), AV.str [(58 : UInt8)]]) (AV.tuple [AV.str a, AV.str b, AV.bool true]) (show Gives cfg (151 : FuncId) [AV.str (a ++ (58 : UInt8) :: b), AV.str [(58 : UInt8)]] (AV.tuple [AV.str a, AV.str b, AV.bool true]) from h) ⟨rfl, rfl⟩ ⟨rfl, rfl⟩ <| .ff <| .callG ([AV.str b, AV.str [(58 : UInt8)]]) (AV.bool true) (show Gives cfg (155 : FuncId) [AV.str b, AV.str [(58 : UInt8)]] (AV.bool true) from h2) ⟨rfl, rfl⟩ ⟨rfl, rfl⟩ <| .tt <| .callP ([AV.int .i64 2]) ({ boxes := [[AV.str [], AV.str []]], toks := [], loops := [] : Heap }) (show Pans cfg (94 : FuncId) [AV.int .i64 2] (stopV (2 : Int)) from stop2) ⟨rfl, rfl⟩ rfl rfl) (by kernel_rfl)
    · have h2 := contains_no b 58 hb
      refine ⟨fun x hx => ?_, fun hx => by simp [partP, hc, hb] at hx⟩
      have e : x = ⟨a, b⟩ := by simpa [partP, hc, hb] using hx.symm
      subst e
      refine Gives.run (l154 _ _) ?_
      exact goG 60 []  trivial  (.callG ([AV.str (a ++ (58 : UInt8) :: b), AV.str [(58 : UInt8)]]) (AV.tuple [AV.str a, AV.str b, AV.bool true]) (show Gives cfg (151 : FuncId) [AV.str (a ++ (58 : UInt8) :: b), AV.str [(58 : UInt8)]] (AV.tuple [AV.str a, AV.str b, AV.bool true]) from h) ⟨rfl, rfl⟩ ⟨rfl, rfl⟩ <| .ff <| .callG ([AV.str b, AV.str [(58 : UInt8)]]) (AV.bool false) (show Gives cfg (155 : FuncId) [AV.str b, AV.str [(58 : UInt8)]] (AV.bool false) from h2) ⟨rfl, rfl⟩ ⟨rfl, rfl⟩ <| .ff <| .fin ((ARes.ret (AV.agg [AV.str a, AV.str b]), { boxes := [[AV.str a, AV.str b]], toks := [], loops := [] : Heap })) rfl) (by kernel_rfl)
theorem partT_run (w : List UInt8) (hl : w.length ≤ 1000) : (∀ x, partT w = some x → Gives cfg 158 [.str w] (encT x)) ∧ (partT w = none → Pans cfg 158 [.str w] (stopV 2)) := by
  cases hc : cutAt 58 w with
  | none =>
    have h := cut_miss w 58 (cutAt_none hc)
    refine ⟨fun x hx => by simp [partT, hc] at hx, fun _ => ?_⟩
    refine Pans.run (l158 _ _) ?_
    exact goG 60 []  trivial  (.callG ([AV.str w, AV.str [(58 : UInt8)]]) (AV.tuple [AV.str w, AV.str [], AV.bool false]) (show Gives cfg (151 : FuncId) [AV.str w, AV.str [(58 : UInt8)]] (AV.tuple [AV.str w, AV.str [], AV.bool false]) from h) ⟨rfl, rfl⟩ ⟨rfl, rfl⟩ <| .tt <| .tt <| .callP ([AV.int .i64 2]) ({ boxes := [[AV.str [], AV.str [], AV.bool false]], toks := [], loops := [] : Heap }) (show Pans cfg (94 : FuncId) [AV.int .i64 2] (stopV (2 : Int)) from stop2) ⟨rfl, rfl⟩ rfl rfl) (by kernel_rfl)
  | some p =>
    obtain ⟨a, b⟩ := p
    obtain ⟨rfl, hn⟩ := cutAt_some hc
    have hlen := cut_len hc
    have h := cut_hit a b 58 hn (by omega)
    by_cases hb : 58 ∈ b
    · have h2 := contains_yes b 58 hb
      refine ⟨fun x hx => by simp [partT, hc, hb] at hx, fun _ => ?_⟩
      refine Pans.run (l158 _ _) ?_
      exact goG 60 []  trivial  (.callG ([AV.str (a ++ (58 : UInt8) :: b), AV.str [(58 : UInt8)]]) (AV.tuple [AV.str a, AV.str b, AV.bool true]) (show Gives cfg (151 : FuncId) [AV.str (a ++ (58 : UInt8) :: b), AV.str [(58 : UInt8)]] (AV.tuple [AV.str a, AV.str b, AV.bool true]) from h) ⟨rfl, rfl⟩ ⟨rfl, rfl⟩ <| .ff <| .callG ([AV.str b, AV.str [(58 : UInt8)]]) (AV.bool true) (show Gives cfg (155 : FuncId) [AV.str b, AV.str [(58 : UInt8)]] (AV.bool true) from h2) ⟨rfl, rfl⟩ ⟨rfl, rfl⟩ <| .tt <| .callP ([AV.int .i64 2]) ({ boxes := [[AV.str [], AV.str [], AV.bool false]], toks := [], loops := [] : Heap }) (show Pans cfg (94 : FuncId) [AV.int .i64 2] (stopV (2 : Int)) from stop2) ⟨rfl, rfl⟩ rfl rfl) (by kernel_rfl)
    · have h2 := contains_no b 58 hb
      refine ⟨fun x hx => ?_, fun hx => by simp [partT, hc, hb] at hx⟩
      by_cases hg : b.getLast? = some 33
      · have e : x = ⟨a, b.dropLast, true⟩ := by simpa [partT, hc, hb, hg] using hx.symm
        subst e
        obtain ⟨d, rfl⟩ : ∃ d, b = d ++ [33] := by
          obtain ⟨ys, e⟩ := List.getLast?_eq_some_iff.1 hg
          exact ⟨ys, e⟩
        have hs := suffix_hit d 33 (by rw [hlen] at hl; simp only [List.length_append, List.length_cons, List.length_nil] at hl; omega)
        have ed : (d ++ [33]).dropLast = d := by simp
        rw [ed]
        refine Gives.run (l158 _ _) ?_
        exact goG 60 []  trivial  (.callG ([AV.str (a ++ (58 : UInt8) :: (d ++ [(33 : UInt8)])), AV.str [(58 : UInt8)]]) (AV.tuple [AV.str a, AV.str (d ++ [(33 : UInt8)]), AV.bool true]) (show Gives cfg (151 : FuncId) [AV.str (a ++ (58 : UInt8) :: (d ++ [(33 : UInt8)])), AV.str [(58 : UInt8)]] (AV.tuple [AV.str a, AV.str (d ++ [(33 : UInt8)]), AV.bool true]) from h) ⟨rfl, rfl⟩ ⟨rfl, rfl⟩ <| .ff <| .callG ([AV.str (d ++ [(33 : UInt8)]), AV.str [(58 : UInt8)]]) (AV.bool false) (show Gives cfg (155 : FuncId) [AV.str (d ++ [(33 : UInt8)]), AV.str [(58 : UInt8)]] (AV.bool false) from h2) ⟨rfl, rfl⟩ ⟨rfl, rfl⟩ <| .ff <| .callG ([AV.str (d ++ [(33 : UInt8)]), AV.str [(33 : UInt8)]]) (AV.tuple [AV.str d, AV.bool true]) (show Gives cfg (159 : FuncId) [AV.str (d ++ [(33 : UInt8)]), AV.str [(33 : UInt8)]] (AV.tuple [AV.str d, AV.bool true]) from hs) ⟨rfl, rfl⟩ ⟨rfl, rfl⟩ <| .fin ((ARes.ret (AV.agg [AV.str a, AV.str d, AV.bool true]), { boxes := [[AV.str a, AV.str d, AV.bool true]], toks := [], loops := [] : Heap })) rfl) (by kernel_rfl)
      · have e : x = ⟨a, b, false⟩ := by simpa [partT, hc, hb, hg] using hx.symm
        subst e
        have hs := suffix_no b 33 hg (by omega)
        refine Gives.run (l158 _ _) ?_
        exact goG 60 []  trivial  (.callG ([AV.str (a ++ (58 : UInt8) :: b), AV.str [(58 : UInt8)]]) (AV.tuple [AV.str a, AV.str b, AV.bool true]) (show Gives cfg (151 : FuncId) [AV.str (a ++ (58 : UInt8) :: b), AV.str [(58 : UInt8)]] (AV.tuple [AV.str a, AV.str b, AV.bool true]) from h) ⟨rfl, rfl⟩ ⟨rfl, rfl⟩ <| .ff <| .callG ([AV.str b, AV.str [(58 : UInt8)]]) (AV.bool false) (show Gives cfg (155 : FuncId) [AV.str b, AV.str [(58 : UInt8)]] (AV.bool false) from h2) ⟨rfl, rfl⟩ ⟨rfl, rfl⟩ <| .ff <| .callG ([AV.str b, AV.str [(33 : UInt8)]]) (AV.tuple [AV.str b, AV.bool false]) (show Gives cfg (159 : FuncId) [AV.str b, AV.str [(33 : UInt8)]] (AV.tuple [AV.str b, AV.bool false]) from hs) ⟨rfl, rfl⟩ ⟨rfl, rfl⟩ <| .fin ((ARes.ret (AV.agg [AV.str a, AV.str b, AV.bool false]), { boxes := [[AV.str a, AV.str b, AV.bool false]], toks := [], loops := [] : Heap })) rfl) (by kernel_rfl)

theorem parseT (s : List UInt8) (hl : s.length ≤ 1000) : Gives cfg 100 [.str s] (.tuple [.sl .sh ((parsed partT ckT s).1.map encT), .int .i64 (parsed partT ckT s).2]) := by
  have h := partsTaint partT ckT (fun p x h1 h2 => (partT_run p h1).1 x h2) (fun p h1 _ h2 => (partT_run p h1).2 h2) ckT2 s hl
  refine Gives.run (l100 _ _) ?_
  exact goG 60 []  trivial  (.callG ([AV.str s, AV.func (158 : Nat) [], AV.func (84 : Nat) []]) (AV.tuple [AV.sl .sh (List.map encT (parsed partT ckT s).fst), AV.int .i64 (parsed partT ckT s).snd]) (show Gives cfg (157 : FuncId) [AV.str s, AV.func (158 : FuncId) [], AV.func (84 : FuncId) []] (AV.tuple [rowF encT (parsed partT ckT s).fst, AV.int .i64 (parsed partT ckT s).snd]) from h) ⟨rfl, rfl⟩ Res.p <| .fin ((ARes.ret (AV.tuple [AV.sl .sh (List.map encT (parsed partT ckT s).fst), AV.int .i64 (parsed partT ckT s).snd]), { boxes := [], toks := [], loops := [] : Heap })) rfl) (by kernel_rfl)
theorem ckS90 (l : List Pair) : Gives cfg 156 [.sl .sh (l.map encP)] (.int .i64 (ckS l)) := by
  refine Gives.run (l156 _ _) ?_
  exact goG 60 []  trivial  (.callG ([AV.sl .sh (List.map encP l)]) (AV.int .i64 (ckS l)) (show Gives cfg (83 : FuncId) [AV.sl .sh (List.map encP l)] (AV.int .i64 (ckS l)) from ckS_any _) ⟨rfl, rfl⟩ ⟨rfl, rfl⟩ <| .fin ((ARes.ret (AV.int .i64 (ckS l)), { boxes := [], toks := [], loops := [] : Heap })) rfl) (by kernel_rfl)
theorem parseP (s : List UInt8) (hl : s.length ≤ 1000) : Gives cfg 98 [.str s] (.tuple [.sl .sh ((parsed partP ckS s).1.map encP), .int .i64 (parsed partP ckS s).2]) := by
  have h := partsPair partP ckS (fun p x h1 h2 => (partP_run p h1).1 x h2) (fun p h1 _ h2 => (partP_run p h1).2 h2) ckS90 s hl
  refine Gives.run (l98 _ _) ?_
  exact goG 60 []  trivial  (.callG ([AV.str s, AV.func (154 : Nat) [], AV.func (156 : Nat) []]) (AV.tuple [AV.sl .sh (List.map encP (parsed partP ckS s).fst), AV.int .i64 (parsed partP ckS s).snd]) (show Gives cfg (153 : FuncId) [AV.str s, AV.func (154 : FuncId) [], AV.func (156 : FuncId) []] (AV.tuple [rowF encP (parsed partP ckS s).fst, AV.int .i64 (parsed partP ckS s).snd]) from h) ⟨rfl, rfl⟩ Res.p <| .fin ((ARes.ret (AV.tuple [AV.sl .sh (List.map encP (parsed partP ckS s).fst), AV.int .i64 (parsed partP ckS s).snd]), { boxes := [], toks := [], loops := [] : Heap })) rfl) (by kernel_rfl)

end Go.Aa.T

set_option linter.unusedVariables false
set_option linter.unusedSimpArgs false
set_option maxRecDepth 100000
namespace Go.Aa.T
open Go.Aa Go.Proofs
theorem cutAt_hit {c : UInt8} {b : List UInt8} : ∀ {a : List UInt8}, c ∉ a → cutAt c (a ++ c :: b) = some (a, b)
  | [], _ => by simp [cutAt]
  | x :: a, h => by
    simp only [List.mem_cons, not_or] at h
    have hx : ¬ x = c := fun e => h.1 e.symm
    simp only [List.cons_append, cutAt, if_neg hx, cutAt_hit h.2, Option.map_some]
theorem tail_cons (y : List UInt8) (r : List (List UInt8)) : Lib.joinTail [44] (y :: r) = 44 :: (y ++ Lib.joinTail [44] r) := by simp [Lib.joinTail]
theorem parts_tail : ∀ (r : List (List UInt8)) (x : List UInt8), (44 : UInt8) ∉ x → (∀ y ∈ r, (44 : UInt8) ∉ y) → parts 44 (x ++ Lib.joinTail [44] r) = x :: r
  | [], x, hx, _ => by simp only [Lib.joinTail, List.map_nil, List.flatten_nil, List.append_nil]; exact parts_none hx
  | y :: r, x, hx, hr => by
    rw [tail_cons, parts_some hx, parts_tail r y (hr y (by simp)) (fun z hz => hr z (by simp [hz]))]
theorem parts_join {x : List UInt8} {r : List (List UInt8)} (h : ∀ y ∈ x :: r, (44 : UInt8) ∉ y) : parts 44 (Lib.join (x :: r) [44]) = x :: r := by
  rw [Lib.join_cons]
  exact parts_tail r x (h x (by simp)) (fun y hy => h y (by simp [hy]))
theorem parts_ne (c : UInt8) : ∀ s : List UInt8, parts c s ≠ []
  | [] => by simp [parts]
  | b :: r => by
    unfold parts
    split
    · simp
    · split <;> simp
section
variable {X : Type} {pf : List UInt8 → Option X} {text : X → List UInt8} {ck : List X → Int}
theorem collect_text (acc l : List X) (h : ∀ x ∈ l, text x ≠ [] ∧ pf (text x) = some x) : foldE (collect pf) acc (l.map text) = some (acc ++ l) := by
  induction l generalizing acc with
  | nil => simp [foldE]
  | cons x l ih =>
    obtain ⟨h1, h2⟩ := h x (by simp)
    simp only [List.map_cons, foldE, collect, if_neg h1, h2, Option.map_some]
    rw [ih _ (fun y hy => h y (by simp [hy]))]
    simp
theorem told_read (l : List X) (hck : ck l = 0) (h : ∀ x ∈ l, text x ≠ [] ∧ (44 : UInt8) ∉ text x ∧ text x ≠ [45] ∧ pf (text x) = some x) : parsed pf ck (textOf text l) = (l, 0) := by
  cases l with
  | nil => rfl
  | cons x l =>
    have e : textOf text (x :: l) = Lib.join ((x :: l).map text) [44] := rfl
    rw [e]
    have hp : parts 44 (Lib.join ((x :: l).map text) [44]) = (x :: l).map text := parts_join (fun y hy => by
      have hy' : y ∈ (x :: l).map text := hy
      obtain ⟨z, hz, rfl⟩ := List.mem_map.1 hy'
      exact (h z hz).2.1)
    have hne : ¬ Lib.join ((x :: l).map text) [44] = [45] := fun e => by
      rw [e] at hp
      have e2 : parts 44 [45] = [[45]] := rfl
      rw [e2] at hp
      simp only [List.map_cons, List.cons.injEq] at hp
      exact (h x (by simp)).2.2.1 hp.1.symm
    unfold parsed
    rw [if_neg hne, hp, collect_text [] (x :: l) (fun y hy => ⟨(h y hy).1, (h y hy).2.2.2⟩)]
    simp [hck]
end

theorem ckTl_good (l : List Taint) : ∀ (post : List Taint) (i : Nat), ckTl l i post = 0 → ∀ x ∈ post, goodT x = true
  | [], _, _ => by simp
  | x :: post, i, h => by
    unfold ckTl at h
    split at h
    · rename_i hg
      split at h
      · cases h
      · intro y hy
        rcases List.mem_cons.1 hy with rfl | hy
        · exact hg
        · exact ckTl_good l post _ h y hy
    · cases h
theorem ckT_good {l : List Taint} (h : ckT l = 0) : ∀ x ∈ l, goodT x = true := by
  unfold ckT at h
  split at h
  · exact ckTl_good l l 0 h
  · cases h
theorem ckSl_good (l : List Pair) : ∀ (post : List Pair) (i : Nat), ckSl l i post = 0 → ∀ x ∈ post, goodP x = true
  | [], _, _ => by simp
  | x :: post, i, h => by
    unfold ckSl at h
    split at h
    · rename_i hg
      split at h
      · cases h
      · intro y hy
        rcases List.mem_cons.1 hy with rfl | hy
        · exact hg
        · exact ckSl_good l post _ h y hy
    · cases h
theorem ckS_good {l : List Pair} (h : ckS l = 0) : ∀ x ∈ l, goodP x = true := by
  unfold ckS at h
  split at h
  · exact ckSl_good l l 0 h
  · cases h
theorem two58 {a b : List UInt8} (h : (a ++ 58 :: b : List UInt8) = [45]) : False := by
  cases a with
  | nil => simp at h
  | cons x a => cases a <;> simp at h
theorem tText_read {l : List Taint} (h : ckT l = 0) : parsed partT ckT (textOf tText l) = (l, 0) := by
  refine told_read l h fun x hx => ?_
  have hg := ckT_good h x hx
  obtain ⟨h1, h2⟩ := tText_ok x hg
  simp only [goodT, Bool.and_eq_true] at hg
  have k58 := name_no hg.1 (c := 58) rfl
  have v58 := name_no hg.2 (c := 58) rfl
  have v33 := name_no hg.2 (c := 33) rfl
  cases hh : x.hard with
  | true =>
    have e : tText x = x.key ++ 58 :: (x.val ++ [33]) := by simp [tText, hh]
    refine ⟨h1, h2, fun e2 => two58 (e ▸ e2), ?_⟩
    rw [e]
    unfold partT
    rw [cutAt_hit k58]
    simp only
    rw [if_neg (by simp [v58]), if_pos (by simp)]
    simp [← hh]
  | false =>
    have e : tText x = x.key ++ 58 :: x.val := by simp [tText, hh]
    refine ⟨h1, h2, fun e2 => two58 (e ▸ e2), ?_⟩
    rw [e]
    unfold partT
    rw [cutAt_hit k58]
    simp only
    rw [if_neg v58, if_neg (fun hl => v33 (List.mem_of_getLast? hl))]
    simp [← hh]
theorem pText_read {l : List Pair} (h : ckS l = 0) : parsed partP ckS (textOf pText l) = (l, 0) := by
  refine told_read l h fun x hx => ?_
  have hg := ckS_good h x hx
  obtain ⟨h1, h2⟩ := pText_ok x hg
  simp only [goodP, Bool.and_eq_true] at hg
  have e : pText x = x.key ++ 58 :: x.val := by simp [pText]
  refine ⟨h1, h2, fun e2 => two58 (e ▸ e2), ?_⟩
  rw [e]
  unfold partP
  rw [cutAt_hit (name_no hg.1 rfl)]
  simp only
  rw [if_neg (name_no hg.2 rfl)]
theorem count_app (a b : List UInt8) (c : UInt8) : Lib.countByte (a ++ b) c = Lib.countByte a c + Lib.countByte b c := List.count_append
theorem count_one (c d : UInt8) (a : List UInt8) : Lib.countByte (d :: a) c = Lib.countByte a c + if d == c then 1 else 0 := List.count_cons
end Go.Aa.T

set_option linter.unusedVariables false
set_option linter.unusedSimpArgs false
set_option maxRecDepth 100000
namespace Go.Aa.T
open Go.Aa Go.Proofs

def strs (l : List (List UInt8)) : List AV := l.map AV.str
theorem strs_el (l : List (List UInt8)) : (strs l).all (elOk 1) = true := by
  induction l with
  | nil => rfl
  | cons x l ih => simp only [strs, List.map_cons, List.all_cons, Bool.and_eq_true]; exact ⟨rfl, ih⟩
theorem strs_data (l : List (List UInt8)) : dataOk (strs l) = true := by
  induction l with
  | nil => rfl
  | cons x l ih => simp only [dataOk, strs, List.map_cons, List.all_cons, Bool.and_eq_true]; exact ⟨rfl, ih⟩
theorem strs_cells (l : List (List UInt8)) : rowCells (strs l) = strs l := by
  induction l with
  | nil => rfl
  | cons x l ih =>
    simp only [rowCells, strs, List.map_cons, List.flatMap_cons] at ih ⊢
    rw [ih]; rfl
end Go.Aa.T

set_option linter.unusedVariables false
set_option linter.unusedSimpArgs false
set_option maxRecDepth 100000
namespace Go.Aa.T
open Go.Aa Go.Proofs
theorem parts_len {c : UInt8} : ∀ (s : List UInt8), (parts c s).length ≤ s.length + 1 ∧ ∀ p ∈ parts c s, p.length ≤ s.length
  | [] => by simp [parts]
  | b :: r => by
    obtain ⟨h1, h2⟩ := parts_len r
    unfold parts
    split
    · refine ⟨by simp; omega, fun p hp => ?_⟩
      simp only [List.mem_cons] at hp
      rcases hp with rfl | hp
      · simp
      · have := h2 p hp; simp; omega
    · cases hp : parts c r with
      | nil => exact absurd hp (parts_ne _ _)
      | cons x xs =>
        rw [hp] at h1 h2
        simp only [List.length_cons] at h1
        refine ⟨by simp; omega, fun p hq => ?_⟩
        simp only [List.mem_cons] at hq
        rcases hq with rfl | hq
        · have := h2 x (by simp); simp; omega
        · have := h2 p (by simp [hq]); simp; omega

end Go.Aa.T

set_option linter.unusedVariables false
set_option linter.unusedSimpArgs false
set_option maxRecDepth 100000
namespace Go.Aa.T
open Go.Aa Go.Proofs


end Go.Aa.T

set_option linter.unusedVariables false
set_option linter.unusedSimpArgs false
set_option maxRecDepth 100000
namespace Go.Aa.T
open Go.Aa Go.Proofs

end Go.Aa.T

set_option linter.unusedVariables false
set_option linter.unusedSimpArgs false
set_option maxRecDepth 100000
namespace Go.Aa.T
open Go.Aa Go.Proofs
structure Amount where
  name : List UInt8
  n : Int
def encA (x : Amount) : AV := .agg [.str x.name, .int .i64 x.n]
instance (x : Amount) : Dat (encA x) := ⟨rfl, rfl⟩
theorem lenA2 {l : List Amount} : lenOk 2 (l.map encA) = true := lenOk_map fun _ => rfl
def ordV (s : List Amount) (i : Nat) (x : Amount) : Bool := match i with
  | 0 => false
  | j + 1 => match s[j]? with
    | some p => Op.bytesLess x.name p.name || x.name == p.name
    | none => false
def ckVl (s : List Amount) : Nat → List Amount → Int
  | _, [] => 0
  | i, x :: post => if isName x.name then (if x.n ≤ 0 then 1 else if ordV s i x then 13 else ckVl s (i + 1) post) else 3
def ckV (s : List Amount) : Int := if s.length ≤ 8 then ckVl s 0 s else 4
theorem ckV_ref_loop (l : List Amount) (hn : l.length ≤ 8) : ∀ (post : List Amount) (i : Nat) (hd : l.drop i = post) (T : Env) (hT : Has T [(0, .sl .sh (l.map encA)), (3, .int .i64 i)]),
    Goes cfg a77 k77_0 T Heap.nil (IsRet (.int .i64 (ckVl l i post))) := by
  intro post
  induction post with
  | nil =>
    intro i hd T hT
    have hge := drop_ge hd
    exact goG 60 _  hT  (.len (show lenA false (AV.sl .sh (List.map encA l)) = some (AV.int .i64 (↑l.length : Int)) from len_map _) <| .no (show (decide ((↑i : Int) < (↑l.length : Int))) = false from decide_eq_false (show ¬ ((↑i : Int) < (↑l.length : Int)) from (by omega))) <| .fin ((ARes.ret (AV.int .i64 0), { boxes := [], toks := [], loops := [] : Heap })) rfl) (by kernel_rfl)
  | cons x post ih =>
    intro i hd T hT
    have hlt := drop_lt hd
    have hnx := drop_next hd
    cases i with
    | zero => exact goG 60 _  hT  (.len (show lenA false (AV.sl .sh (List.map encA l)) = some (AV.int .i64 (↑l.length : Int)) from len_map _) <| .yes (show (decide ((↑(0 : Nat) : Int) < (↑l.length : Int))) = true from decide_eq_true (show (↑(0 : Nat) : Int) < (↑l.length : Int) from (by omega))) <| .idx (show idxA 2 (AV.sl .sh (List.map encA l)) (AV.int .i64 (↑(0 : Nat) : Int)) = some (AV.ref (encA x).cells) from idx_row hd (by rfl)) <| .callG ([AV.str x.name]) (AV.bool (isName x.name)) (show Gives cfg (76 : FuncId) [AV.str x.name] (AV.bool (isName x.name)) from name_any _) ⟨rfl, rfl⟩ ⟨rfl, rfl⟩ <| .split (isName x.name = true) (fun h1 => .no (show (!isName x.name) = false from by have hh : isName x.name = true := h1; simp [hh]) <| .idx (show idxA 2 (AV.sl .sh (List.map encA l)) (AV.int .i64 (↑(0 : Nat) : Int)) = some (AV.ref (encA x).cells) from idx_row hd (by rfl)) <| .split (x.n ≤ (0 : Int)) (fun h2 => .yes (show (decide (x.n ≤ (0 : Int))) = true from decide_eq_true (show x.n ≤ (0 : Int) from h2)) <| .fin ((ARes.ret (AV.int .i64 1), { boxes := [], toks := [], loops := [] : Heap })) (by simp only [IsRet]; grind [ckVl, ordV])) (fun h2 => .no (show (decide (x.n ≤ (0 : Int))) = false from decide_eq_false (show ¬ (x.n ≤ (0 : Int)) from h2)) <| .ff <| .ff <| .bin (show binA .add (AV.int .i64 (↑(0 : Nat) : Int)) (AV.int .i64 1) = some (AV.int .i64 (↑((0 : Nat) + (1 : Nat)) : Int)) from inc_i (by omega)) <| .cutQ k77_0 [(0, AV.sl .sh (List.map encA l)), (3, AV.int .i64 (↑((0 : Nat) + (1 : Nat)) : Int))] ({ boxes := [], toks := [], loops := [] : Heap }) (fun T hT => (ih ((0 : Nat) + (1 : Nat)) hnx T hT).to (by grind [ckVl, ordV])))) (fun h1 => .yes (show (!isName x.name) = true from by have hh : ¬ (isName x.name = true) := h1; simp [hh]) <| .fin ((ARes.ret (AV.int .i64 3), { boxes := [], toks := [], loops := [] : Heap })) (by simp only [IsRet]; grind [ckVl, ordV]))) (by kernel_rfl)
    | succ j =>
      obtain ⟨p, hp⟩ : ∃ p, l[j]? = some p := ⟨l[j], List.getElem?_eq_getElem (by omega)⟩
      exact goG 60 _  hT  (.len (show lenA false (AV.sl .sh (List.map encA l)) = some (AV.int .i64 (↑l.length : Int)) from len_map _) <| .yes (show (decide ((↑(j + (1 : Nat)) : Int) < (↑l.length : Int))) = true from decide_eq_true (show (↑(j + (1 : Nat)) : Int) < (↑l.length : Int) from (by omega))) <| .idx (show idxA 2 (AV.sl .sh (List.map encA l)) (AV.int .i64 (↑(j + (1 : Nat)) : Int)) = some (AV.ref (encA x).cells) from idx_row hd (by rfl)) <| .callG ([AV.str x.name]) (AV.bool (isName x.name)) (show Gives cfg (76 : FuncId) [AV.str x.name] (AV.bool (isName x.name)) from name_any _) ⟨rfl, rfl⟩ ⟨rfl, rfl⟩ <| .split (isName x.name = true) (fun h1 => .no (show (!isName x.name) = false from by have hh : isName x.name = true := h1; simp [hh]) <| .idx (show idxA 2 (AV.sl .sh (List.map encA l)) (AV.int .i64 (↑(j + (1 : Nat)) : Int)) = some (AV.ref (encA x).cells) from idx_row hd (by rfl)) <| .split (x.n ≤ (0 : Int)) (fun h2 => .yes (show (decide (x.n ≤ (0 : Int))) = true from decide_eq_true (show x.n ≤ (0 : Int) from h2)) <| .fin ((ARes.ret (AV.int .i64 1), { boxes := [], toks := [], loops := [] : Heap })) (by simp only [IsRet]; grind [ckVl, ordV])) (fun h2 => .no (show (decide (x.n ≤ (0 : Int))) = false from decide_eq_false (show ¬ (x.n ≤ (0 : Int)) from h2)) <| .yes (show (decide ((0 : Int) < (↑(j + (1 : Nat)) : Int))) = true from decide_eq_true (show (0 : Int) < (↑(j + (1 : Nat)) : Int) from (by omega))) <| .idx (show idxA 2 (AV.sl .sh (List.map encA l)) (AV.int .i64 (↑(j + (1 : Nat)) : Int)) = some (AV.ref (encA x).cells) from idx_row hd (by rfl)) <| .bin (show binA .sub (AV.int .i64 (↑(j + (1 : Nat)) : Int)) (AV.int .i64 1) = some (AV.int .i64 (↑j : Int)) from dec_i (by omega)) <| .idx (show idxA 2 (AV.sl .sh (List.map encA l)) (AV.int .i64 (↑j : Int)) = some (AV.ref (encA p).cells) from idx_get hp (by rfl)) <| .split ((Op.bytesLess x.name p.name || x.name == p.name) = true) (fun h3 => .yes (show (Op.bytesLess x.name p.name || x.name == p.name) = true from h3) <| .fin ((ARes.ret (AV.int .i64 13), { boxes := [], toks := [], loops := [] : Heap })) (by simp only [IsRet]; grind [ckVl, ordV])) (fun h3 => .no (show (Op.bytesLess x.name p.name || x.name == p.name) = false from Bool.eq_false_iff.2 (show ¬ ((Op.bytesLess x.name p.name || x.name == p.name) = true) from h3)) <| .bin (show binA .add (AV.int .i64 (↑(j + (1 : Nat)) : Int)) (AV.int .i64 1) = some (AV.int .i64 (↑(j + (1 : Nat) + (1 : Nat)) : Int)) from inc_i (by omega)) <| .cutQ k77_0 [(0, AV.sl .sh (List.map encA l)), (3, AV.int .i64 (↑(j + (1 : Nat) + (1 : Nat)) : Int))] ({ boxes := [], toks := [], loops := [] : Heap }) (fun T hT => (ih (j + (1 : Nat) + (1 : Nat)) hnx T hT).to (by grind [ckVl, ordV]))))) (fun h1 => .yes (show (!isName x.name) = true from by have hh : ¬ (isName x.name = true) := h1; simp [hh]) <| .fin ((ARes.ret (AV.int .i64 3), { boxes := [], toks := [], loops := [] : Heap })) (by simp only [IsRet]; grind [ckVl, ordV]))) (by kernel_rfl)
theorem ckV_ref (l : List Amount) : Gives cfg 77 [.sl .sh (l.map encA)] (.int .i64 (ckV l)) := by
  refine Gives.run (l77 _ _) ?_
  have h := fun hn => ckV_ref_loop l hn l 0 rfl
  exact goG 60 []  trivial  (.len (show lenA false (AV.sl .sh (List.map encA l)) = some (AV.int .i64 (↑l.length : Int)) from len_map _) <| .split ((8 : Int) < (↑l.length : Int)) (fun h1 => .yes (show (decide ((8 : Int) < (↑l.length : Int))) = true from decide_eq_true (show (8 : Int) < (↑l.length : Int) from h1)) <| .fin ((ARes.ret (AV.int .i64 4), { boxes := [], toks := [], loops := [] : Heap })) (by simp only [IsRet]; grind [ckV])) (fun h1 => .no (show (decide ((8 : Int) < (↑l.length : Int))) = false from decide_eq_false (show ¬ ((8 : Int) < (↑l.length : Int)) from h1)) <| .cutQ k77_0 [(0, AV.sl .sh (List.map encA l)), (3, AV.int .i64 0)] ({ boxes := [], toks := [], loops := [] : Heap }) (fun T hT => (h (by omega) T hT).to (by grind [ckV])))) (by kernel_rfl)
theorem ckV_loop (l : List Amount) (hn : l.length ≤ 8) : ∀ (post : List Amount) (i : Nat) (bs : List (List AV)) (hd : l.drop i = post) (T : Env) (hT : Has T [(0, .sl .sh (l.map encA)), (8, .sl .sh (l.map encA)), (9, .int .i64 l.length), (10, .int .i64 i)]),
    Goes cfg a82 k82_0 T ⟨bs, [], []⟩ (IsRet (.int .i64 (ckVl l i post))) := by
  intro post
  induction post with
  | nil =>
    intro i bs hd T hT
    have hge := drop_ge hd
    exact goG 60 _  hT  (.no (show (decide ((↑i : Int) < (↑l.length : Int))) = false from decide_eq_false (show ¬ ((↑i : Int) < (↑l.length : Int)) from (by omega))) <| .fin ((ARes.ret (AV.int .i64 0), { boxes := bs, toks := [], loops := [] : Heap })) rfl) (by kernel_rfl)
  | cons x post ih =>
    intro i bs hd T hT
    have hlt := drop_lt hd
    have hnx := drop_next hd
    cases i with
    | zero => exact goG 60 _  hT  (.yes (show (decide ((↑(0 : Nat) : Int) < (↑l.length : Int))) = true from decide_eq_true (show (↑(0 : Nat) : Int) < (↑l.length : Int) from (by omega))) <| .idx (show idxA 2 (AV.sl .sh (List.map encA l)) (AV.int .i64 (↑(0 : Nat) : Int)) = some (AV.ref (encA x).cells) from idx_row hd (by rfl)) <| .load (show loadA true 2 { boxes := bs, toks := [], loops := [] : Heap } (AV.ref [AV.str x.name, AV.int .i64 x.n]) = some (AV.agg [AV.str x.name, AV.int .i64 x.n]) from rfl) <| .store (show storeA 2 { boxes := bs ++ [[AV.str [], AV.int .i64 0]], toks := [], loops := [] : Heap } (AV.ptr bs.length (0 : Nat)) (AV.agg [AV.str x.name, AV.int .i64 x.n]) = some ({ boxes := bs ++ [[AV.str x.name, AV.int .i64 x.n]], toks := [], loops := [] : Heap }) from store_box2 (cs := [AV.str [], AV.int .i64 0]) (cs' := [AV.str x.name, AV.int .i64 x.n]) (by simp) rfl (by simp [List.set_append])) <| .load (show loadA false 1 { boxes := bs ++ [[AV.str x.name, AV.int .i64 x.n]], toks := [], loops := [] : Heap } (AV.ptr bs.length (0 : Nat)) = some (AV.str x.name) from load_box (cs := [AV.str x.name, AV.int .i64 x.n]) (by simp) rfl) <| .callG ([AV.str x.name]) (AV.bool (isName x.name)) (show Gives cfg (143 : FuncId) [AV.str x.name] (AV.bool (isName x.name)) from res_name _) ⟨rfl, rfl⟩ ⟨rfl, rfl⟩ <| .split (isName x.name = true) (fun h1 => .no (show (!isName x.name) = false from by have hh : isName x.name = true := h1; simp [hh]) <| .load (show loadA false 1 { boxes := bs ++ [[AV.str x.name, AV.int .i64 x.n]], toks := [], loops := [] : Heap } (AV.ptr bs.length (1 : Nat)) = some (AV.int .i64 x.n) from load_box (cs := [AV.str x.name, AV.int .i64 x.n]) (by simp) rfl) <| .split (x.n ≤ (0 : Int)) (fun h2 => .yes (show (decide (x.n ≤ (0 : Int))) = true from decide_eq_true (show x.n ≤ (0 : Int) from h2)) <| .fin ((ARes.ret (AV.int .i64 1), { boxes := bs ++ [[AV.str x.name, AV.int .i64 x.n]], toks := [], loops := [] : Heap })) (by simp only [IsRet]; grind [ckVl, ordV])) (fun h2 => .no (show (decide (x.n ≤ (0 : Int))) = false from decide_eq_false (show ¬ (x.n ≤ (0 : Int)) from h2)) <| .ff <| .ff <| .bin (show binA .add (AV.int .i64 (↑(0 : Nat) : Int)) (AV.int .i64 1) = some (AV.int .i64 (↑((0 : Nat) + (1 : Nat)) : Int)) from inc_i (by omega)) <| .cutQ k82_0 [(0, AV.sl .sh (List.map encA l)), (8, AV.sl .sh (List.map encA l)), (9, AV.int .i64 (↑l.length : Int)), (10, AV.int .i64 (↑((0 : Nat) + (1 : Nat)) : Int))] ({ boxes := bs ++ [[AV.str x.name, AV.int .i64 x.n]], toks := [], loops := [] : Heap }) (fun T hT => (ih ((0 : Nat) + (1 : Nat)) (bs ++ [[AV.str x.name, AV.int .i64 x.n]]) hnx T hT).to (by grind [ckVl, ordV])))) (fun h1 => .yes (show (!isName x.name) = true from by have hh : ¬ (isName x.name = true) := h1; simp [hh]) <| .fin ((ARes.ret (AV.int .i64 3), { boxes := bs ++ [[AV.str x.name, AV.int .i64 x.n]], toks := [], loops := [] : Heap })) (by simp only [IsRet]; grind [ckVl, ordV]))) (by kernel_rfl)
    | succ j =>
      obtain ⟨p, hp⟩ : ∃ p, l[j]? = some p := ⟨l[j], List.getElem?_eq_getElem (by omega)⟩
      exact goG 60 _  hT  (.yes (show (decide ((↑(j + (1 : Nat)) : Int) < (↑l.length : Int))) = true from decide_eq_true (show (↑(j + (1 : Nat)) : Int) < (↑l.length : Int) from (by omega))) <| .idx (show idxA 2 (AV.sl .sh (List.map encA l)) (AV.int .i64 (↑(j + (1 : Nat)) : Int)) = some (AV.ref (encA x).cells) from idx_row hd (by rfl)) <| .load (show loadA true 2 { boxes := bs, toks := [], loops := [] : Heap } (AV.ref [AV.str x.name, AV.int .i64 x.n]) = some (AV.agg [AV.str x.name, AV.int .i64 x.n]) from rfl) <| .store (show storeA 2 { boxes := bs ++ [[AV.str [], AV.int .i64 0]], toks := [], loops := [] : Heap } (AV.ptr bs.length (0 : Nat)) (AV.agg [AV.str x.name, AV.int .i64 x.n]) = some ({ boxes := bs ++ [[AV.str x.name, AV.int .i64 x.n]], toks := [], loops := [] : Heap }) from store_box2 (cs := [AV.str [], AV.int .i64 0]) (cs' := [AV.str x.name, AV.int .i64 x.n]) (by simp) rfl (by simp [List.set_append])) <| .load (show loadA false 1 { boxes := bs ++ [[AV.str x.name, AV.int .i64 x.n]], toks := [], loops := [] : Heap } (AV.ptr bs.length (0 : Nat)) = some (AV.str x.name) from load_box (cs := [AV.str x.name, AV.int .i64 x.n]) (by simp) rfl) <| .callG ([AV.str x.name]) (AV.bool (isName x.name)) (show Gives cfg (143 : FuncId) [AV.str x.name] (AV.bool (isName x.name)) from res_name _) ⟨rfl, rfl⟩ ⟨rfl, rfl⟩ <| .split (isName x.name = true) (fun h1 => .no (show (!isName x.name) = false from by have hh : isName x.name = true := h1; simp [hh]) <| .load (show loadA false 1 { boxes := bs ++ [[AV.str x.name, AV.int .i64 x.n]], toks := [], loops := [] : Heap } (AV.ptr bs.length (1 : Nat)) = some (AV.int .i64 x.n) from load_box (cs := [AV.str x.name, AV.int .i64 x.n]) (by simp) rfl) <| .split (x.n ≤ (0 : Int)) (fun h2 => .yes (show (decide (x.n ≤ (0 : Int))) = true from decide_eq_true (show x.n ≤ (0 : Int) from h2)) <| .fin ((ARes.ret (AV.int .i64 1), { boxes := bs ++ [[AV.str x.name, AV.int .i64 x.n]], toks := [], loops := [] : Heap })) (by simp only [IsRet]; grind [ckVl, ordV])) (fun h2 => .no (show (decide (x.n ≤ (0 : Int))) = false from decide_eq_false (show ¬ (x.n ≤ (0 : Int)) from h2)) <| .yes (show (decide ((0 : Int) < (↑(j + (1 : Nat)) : Int))) = true from decide_eq_true (show (0 : Int) < (↑(j + (1 : Nat)) : Int) from (by omega))) <| .load (show loadA false 1 { boxes := bs ++ [[AV.str x.name, AV.int .i64 x.n]], toks := [], loops := [] : Heap } (AV.ptr bs.length (0 : Nat)) = some (AV.str x.name) from load_box (cs := [AV.str x.name, AV.int .i64 x.n]) (by simp) rfl) <| .bin (show binA .sub (AV.int .i64 (↑(j + (1 : Nat)) : Int)) (AV.int .i64 1) = some (AV.int .i64 (↑j : Int)) from dec_i (by omega)) <| .idx (show idxA 2 (AV.sl .sh (List.map encA l)) (AV.int .i64 (↑j : Int)) = some (AV.ref (encA p).cells) from idx_get hp (by rfl)) <| .load (show loadA false 1 { boxes := bs ++ [[AV.str x.name, AV.int .i64 x.n]], toks := [], loops := [] : Heap } (AV.ref [AV.str p.name]) = some (AV.str p.name) from rfl) <| .split ((Op.bytesLess x.name p.name || x.name == p.name) = true) (fun h3 => .yes (show (Op.bytesLess x.name p.name || x.name == p.name) = true from h3) <| .fin ((ARes.ret (AV.int .i64 13), { boxes := bs ++ [[AV.str x.name, AV.int .i64 x.n]], toks := [], loops := [] : Heap })) (by simp only [IsRet]; grind [ckVl, ordV])) (fun h3 => .no (show (Op.bytesLess x.name p.name || x.name == p.name) = false from Bool.eq_false_iff.2 (show ¬ ((Op.bytesLess x.name p.name || x.name == p.name) = true) from h3)) <| .bin (show binA .add (AV.int .i64 (↑(j + (1 : Nat)) : Int)) (AV.int .i64 1) = some (AV.int .i64 (↑(j + (1 : Nat) + (1 : Nat)) : Int)) from inc_i (by omega)) <| .cutQ k82_0 [(0, AV.sl .sh (List.map encA l)), (8, AV.sl .sh (List.map encA l)), (9, AV.int .i64 (↑l.length : Int)), (10, AV.int .i64 (↑(j + (1 : Nat) + (1 : Nat)) : Int))] ({ boxes := bs ++ [[AV.str x.name, AV.int .i64 x.n]], toks := [], loops := [] : Heap }) (fun T hT => (ih (j + (1 : Nat) + (1 : Nat)) (bs ++ [[AV.str x.name, AV.int .i64 x.n]]) hnx T hT).to (by grind [ckVl, ordV]))))) (fun h1 => .yes (show (!isName x.name) = true from by have hh : ¬ (isName x.name = true) := h1; simp [hh]) <| .fin ((ARes.ret (AV.int .i64 3), { boxes := bs ++ [[AV.str x.name, AV.int .i64 x.n]], toks := [], loops := [] : Heap })) (by simp only [IsRet]; grind [ckVl, ordV]))) (by kernel_rfl)
theorem ckV_any (l : List Amount) : Gives cfg 82 [.sl .sh (l.map encA)] (.int .i64 (ckV l)) := by
  refine Gives.run (l82 _ _) ?_
  have h := fun hn => ckV_loop l hn l 0 [] rfl
  exact goG 60 []  trivial  (.len (show lenA false (AV.sl .sh (List.map encA l)) = some (AV.int .i64 (↑l.length : Int)) from len_map _) <| .split ((8 : Int) < (↑l.length : Int)) (fun h1 => .yes (show (decide ((8 : Int) < (↑l.length : Int))) = true from decide_eq_true (show (8 : Int) < (↑l.length : Int) from h1)) <| .fin ((ARes.ret (AV.int .i64 4), { boxes := [], toks := [], loops := [] : Heap })) (by simp only [IsRet]; grind [ckV])) (fun h1 => .no (show (decide ((8 : Int) < (↑l.length : Int))) = false from decide_eq_false (show ¬ ((8 : Int) < (↑l.length : Int)) from h1)) <| .len (show lenA false (AV.sl .sh (List.map encA l)) = some (AV.int .i64 (↑l.length : Int)) from len_map _) <| .cutQ k82_0 [(0, AV.sl .sh (List.map encA l)), (8, AV.sl .sh (List.map encA l)), (9, AV.int .i64 (↑l.length : Int)), (10, AV.int .i64 0)] ({ boxes := [], toks := [], loops := [] : Heap }) (fun T hT => (h (by omega) T hT).to (by grind [ckV])))) (by kernel_rfl)
end Go.Aa.T

set_option linter.unusedVariables false
set_option linter.unusedSimpArgs false
set_option maxRecDepth 100000
namespace Go.Aa.T
open Go.Aa Go.Proofs
def encI (x : Int) : AV := .int .i64 x
def firstE : List Int → Int
  | [] => 0
  | x :: r => if x = 0 then firstE r else x
theorem first_loop (l : List Int) (hn : l.length ≤ 100) : ∀ (post : List Int) (i : Nat) (hd : l.drop i = post) (T : Env) (hT : Has T [(5, .sl .sh (l.map encI)), (6, .int .i64 l.length), (7, .int .i64 i)]),
    Goes cfg a80 k80_0 T Heap.nil (IsRet (.int .i64 (firstE post))) := by
  intro post
  induction post with
  | nil =>
    intro i hd T hT
    have hge := drop_ge hd
    exact goG 60 _  hT  (.no (show (decide ((↑i : Int) < (↑l.length : Int))) = false from decide_eq_false (show ¬ ((↑i : Int) < (↑l.length : Int)) from (by omega))) <| .fin ((ARes.ret (AV.int .i64 0), { boxes := [], toks := [], loops := [] : Heap })) rfl) (by kernel_rfl)
  | cons x post ih =>
    intro i hd T hT
    have hlt := drop_lt hd
    have hnx := drop_next hd
    have hidx : idxA 1 (.sl .sh (l.map encI)) (.int .i64 (i : Nat)) = some (.ref [.int .i64 x]) := idx_row (f := encI) hd rfl
    by_cases h0 : x = 0
    · have e : firstE (x :: post) = firstE post := by simp [firstE, h0]
      rw [e]
      have ih' := ih (i + 1) hnx
      exact goG 60 _  hT  (.yes (show (decide ((↑i : Int) < (↑l.length : Int))) = true from decide_eq_true (show (↑i : Int) < (↑l.length : Int) from (by omega))) <| .idx (show idxA 1 (AV.sl .sh (List.map encI l)) (AV.int .i64 (↑i : Int)) = some (AV.ref [AV.int .i64 x]) from hidx) <| .no (show (x != (0 : Int)) = false from Bool.eq_false_iff.2 (show ¬ ((x != (0 : Int)) = true) from (by simpa using h0))) <| .bin (show binA .add (AV.int .i64 (↑i : Int)) (AV.int .i64 1) = some (AV.int .i64 (↑(i + (1 : Nat)) : Int)) from inc_i (by omega)) <| .cutQ k80_0 [(5, AV.sl .sh (List.map encI l)), (6, AV.int .i64 (↑l.length : Int)), (7, AV.int .i64 (↑(i + (1 : Nat)) : Int))] ({ boxes := [], toks := [], loops := [] : Heap }) (fun T hT => (ih' T hT))) (by kernel_rfl)
    · have e : firstE (x :: post) = x := by simp [firstE, h0]
      rw [e]
      exact goG 60 _  hT  (.yes (show (decide ((↑i : Int) < (↑l.length : Int))) = true from decide_eq_true (show (↑i : Int) < (↑l.length : Int) from (by omega))) <| .idx (show idxA 1 (AV.sl .sh (List.map encI l)) (AV.int .i64 (↑i : Int)) = some (AV.ref [AV.int .i64 x]) from hidx) <| .yes (show (x != (0 : Int)) = true from (by simpa using h0)) <| .fin ((ARes.ret (AV.int .i64 x), { boxes := [], toks := [], loops := [] : Heap })) rfl) (by kernel_rfl)
theorem first_any (l : List Int) (hn : l.length ≤ 100) : Gives cfg 80 [.sl .sh (l.map encI)] (.int .i64 (firstE l)) := by
  refine Gives.run (l80 _ _) ?_
  have h := first_loop l hn l 0 rfl
  exact goG 60 []  trivial  (.len (show lenA false (AV.sl .sh (List.map encI l)) = some (AV.int .i64 (↑l.length : Int)) from len_map _) <| .cutQ k80_0 [(5, AV.sl .sh (List.map encI l)), (6, AV.int .i64 (↑l.length : Int)), (7, AV.int .i64 0)] ({ boxes := [], toks := [], loops := [] : Heap }) (fun T hT => (h T hT))) (by kernel_rfl)
theorem named_any (s : List UInt8) : Gives cfg 81 [.str s] (.int .i64 (if isName s then 0 else 3)) := by
  refine Gives.run (l81 _ _) ?_
  exact goG 60 []  trivial  (.callG ([AV.str s]) (AV.bool (isName s)) (show Gives cfg (143 : FuncId) [AV.str s] (AV.bool (isName s)) from res_name _) ⟨rfl, rfl⟩ ⟨rfl, rfl⟩ <| .split (isName s = true) (fun h1 => .no (show (!isName s) = false from by have hh : isName s = true := h1; simp [hh]) <| .fin ((ARes.ret (AV.int .i64 0), { boxes := [], toks := [], loops := [] : Heap })) (by simp only [IsRet]; grind)) (fun h1 => .yes (show (!isName s) = true from by have hh : ¬ (isName s = true) := h1; simp [hh]) <| .fin ((ARes.ret (AV.int .i64 3), { boxes := [], toks := [], loops := [] : Heap })) (by simp only [IsRet]; grind))) (by kernel_rfl)
end Go.Aa.T

set_option linter.unusedVariables false
set_option linter.unusedSimpArgs false
set_option maxRecDepth 100000
namespace Go.Aa.T
open Go.Aa Go.Proofs
structure Node where
  name : List UInt8
  cap : List Amount
  labels : List Pair
  taints : List Taint
  cordon : Bool
def encN (n : Node) : AV := .agg [.str n.name, .sl .sh (n.cap.map encA), .sl .sh (n.labels.map encP), .sl .sh (n.taints.map encT), .bool n.cordon]
def ckN (n : Node) : Int := firstE [if isName n.name then 0 else 3, ckV n.cap, ckS n.labels, ckT n.taints]
theorem first4 (a b c d : Int) : Gives cfg 80 [.sl .sh [.int .i64 a, .int .i64 b, .int .i64 c, .int .i64 d]] (.int .i64 (firstE [a, b, c, d])) := first_any [a, b, c, d] (by simp)
theorem ckN_any (n : Node) : Gives cfg 34 [encN n] (.int .i64 (ckN n)) := by
  refine Gives.run (l34 _ _) ?_
  exact goG 60 []  trivial  (.callG ([AV.str n.name]) (AV.int .i64 (if isName n.name = true then (0 : Int) else (3 : Int))) (show Gives cfg (81 : FuncId) [AV.str n.name] (AV.int .i64 (if isName n.name = true then (0 : Int) else (3 : Int))) from named_any _) ⟨rfl, rfl⟩ ⟨rfl, rfl⟩ <| .callG ([AV.sl .sh (List.map encA n.cap)]) (AV.int .i64 (ckV n.cap)) (show Gives cfg (82 : FuncId) [AV.sl .sh (List.map encA n.cap)] (AV.int .i64 (ckV n.cap)) from ckV_any _) ⟨rfl, rfl⟩ ⟨rfl, rfl⟩ <| .callG ([AV.sl .sh (List.map encP n.labels)]) (AV.int .i64 (ckS n.labels)) (show Gives cfg (83 : FuncId) [AV.sl .sh (List.map encP n.labels)] (AV.int .i64 (ckS n.labels)) from ckS_any _) ⟨rfl, rfl⟩ ⟨rfl, rfl⟩ <| .callG ([AV.sl .sh (List.map encT n.taints)]) (AV.int .i64 (ckT n.taints)) (show Gives cfg (84 : FuncId) [AV.sl .sh (List.map encT n.taints)] (AV.int .i64 (ckT n.taints)) from ckT2 _) ⟨rfl, rfl⟩ ⟨rfl, rfl⟩ <| .callG ([AV.sl .full [AV.int .i64 (if isName n.name = true then (0 : Int) else (3 : Int)), AV.int .i64 (ckV n.cap), AV.int .i64 (ckS n.labels), AV.int .i64 (ckT n.taints)]]) (AV.int .i64 (firstE [if isName n.name = true then (0 : Int) else (3 : Int), ckV n.cap, ckS n.labels, ckT n.taints])) (show Gives cfg (80 : FuncId) [AV.sl .sh [AV.int .i64 (if isName n.name = true then (0 : Int) else (3 : Int)), AV.int .i64 (ckV n.cap), AV.int .i64 (ckS n.labels), AV.int .i64 (ckT n.taints)]] (AV.int .i64 (firstE [if isName n.name = true then (0 : Int) else (3 : Int), ckV n.cap, ckS n.labels, ckT n.taints])) from first4 _ _ _ _) ⟨rfl, rfl⟩ ⟨rfl, rfl⟩ <| .fin ((ARes.ret (AV.int .i64 (firstE [if isName n.name = true then (0 : Int) else (3 : Int), ckV n.cap, ckS n.labels, ckT n.taints])), { boxes := [[AV.str n.name, AV.sl .sh (List.map encA n.cap), AV.sl .sh (List.map encP n.labels), AV.sl .sh (List.map encT n.taints), AV.bool n.cordon]], toks := [], loops := [] : Heap })) rfl) (by kernel_rfl)
end Go.Aa.T

set_option linter.unusedVariables false
set_option linter.unusedSimpArgs false
namespace Go.Aa.T
open Go.Aa
def isDig (c : UInt8) : Bool := decide (48 ≤ c.toNat) && decide (c.toNat ≤ 57)
def dval (c : UInt8) : Nat := c.toNat - 48
def valN (acc : Nat) (s : List UInt8) : Nat := s.foldl (fun a c => a * 10 + dval c) acc
def digB (s : List UInt8) : Bool := !s.isEmpty && s.all isDig && (decide (s.head? ≠ some 48) || decide (s.length = 1))
theorem valN_cons (a : Nat) (c : UInt8) (r : List UInt8) : valN a (c :: r) = valN (a * 10 + dval c) r := List.foldl_cons ..
theorem valN_nil (a : Nat) : valN a [] = a := List.foldl_nil ..
theorem valN_app (a : Nat) (s t : List UInt8) : valN a (s ++ t) = valN (valN a s) t := by
  induction s generalizing a with
  | nil => rw [List.nil_append, valN_nil]
  | cons c s ih => rw [List.cons_append, valN_cons, valN_cons]; exact ih (a * 10 + dval c)
theorem valN_ge (s : List UInt8) : ∀ a, a ≤ valN a s := by
  induction s with
  | nil => intro a; exact Nat.le_refl _
  | cons c s ih =>
    intro a
    have h := ih (a * 10 + dval c)
    rw [valN_cons]
    generalize dval c = d at h ⊢
    exact Nat.le_trans (by omega) h
theorem dig_nat {d : Nat} (h : d < 10) : isDig (UInt8.ofNat (48 + d)) = true ∧ dval (UInt8.ofNat (48 + d)) = d := by
  have key : ∀ d, d < 10 → isDig (UInt8.ofNat (48 + d)) = true ∧ dval (UInt8.ofNat (48 + d)) = d := by decide
  exact key d h
theorem dec_split (u : Nat) (h : ¬ u < 10) : Lib.decDigits u = Lib.decDigits (u / 10) ++ [UInt8.ofNat (48 + u % 10)] := by
  rw [Lib.decDigits, dif_neg h]
theorem dec_one (u : Nat) (h : u < 10) : Lib.decDigits u = [UInt8.ofNat (48 + u)] := by
  rw [Lib.decDigits, dif_pos h]
theorem dec_val (u : Nat) : valN 0 (Lib.decDigits u) = u := by
  induction u using Nat.strongRecOn with
  | ind u ih =>
    by_cases h : u < 10
    · rw [dec_one u h]
      show 0 * 10 + dval (UInt8.ofNat (48 + u)) = u
      rw [(dig_nat h).2]
      omega
    · rw [dec_split u h, valN_app, ih (u / 10) (by omega)]
      show u / 10 * 10 + dval (UInt8.ofNat (48 + u % 10)) = u
      rw [(dig_nat (show u % 10 < 10 by omega)).2]
      omega
theorem dec_all (u : Nat) : (Lib.decDigits u).all isDig = true := by
  induction u using Nat.strongRecOn with
  | ind u ih =>
    by_cases h : u < 10
    · rw [dec_one u h, List.all_cons, (dig_nat h).1]; rfl
    · rw [dec_split u h, List.all_append, ih (u / 10) (by omega), List.all_cons, (dig_nat (show u % 10 < 10 by omega)).1]; rfl
theorem dec_ne (u : Nat) : Lib.decDigits u ≠ [] := by
  intro h
  have h1 := dec_val u
  by_cases hu : u < 10
  · rw [dec_one u hu] at h; cases h
  · rw [dec_split u hu] at h; simp at h
theorem dec_head (u : Nat) (h : u ≠ 0) : (Lib.decDigits u).head? ≠ some 48 := by
  induction u using Nat.strongRecOn with
  | ind u ih =>
    by_cases hu : u < 10
    · rw [dec_one u hu]
      simp only [List.head?_cons, ne_eq, Option.some.injEq]
      intro e
      have h1 := (dig_nat hu).2
      rw [e] at h1
      have : dval 48 = 0 := rfl
      omega
    · have hq := ih (u / 10) (by omega) (by omega)
      rw [dec_split u hu]
      cases hd : Lib.decDigits (u / 10) with
      | nil => exact absurd hd (dec_ne _)
      | cons x xs => rw [hd] at hq; simpa using hq
theorem dec_dig (u : Nat) : digB (Lib.decDigits u) = true := by
  have h1 := dec_all u
  have h2 := dec_ne u
  simp only [digB, Bool.and_eq_true, Bool.not_eq_true', List.isEmpty_eq_false_iff, Bool.or_eq_true, decide_eq_true_eq]
  refine ⟨⟨h2, h1⟩, ?_⟩
  by_cases h : u = 0
  · subst h
    exact .inr (by rw [dec_one 0 (by omega)]; rfl)
  · exact .inl (dec_head u h)
theorem pu_dig (M : Nat) (hM : M ≤ 18446744073709551615) : ∀ (s : List UInt8) (acc : Nat), s.all isDig = true → acc ≤ M → Lib.parseUintM M acc s = if valN acc s ≤ M then .ok (valN acc s) else .range := by
  intro s
  induction s with
  | nil => intro acc _ ha; rw [valN_nil, if_pos ha]; rfl
  | cons c r ih =>
    intro acc h ha
    simp only [List.all_cons, Bool.and_eq_true] at h
    have hc : 48 ≤ c.toNat ∧ c.toNat ≤ 57 := by simpa [isDig] using h.1
    have hg := valN_ge r (acc * 10 + dval c)
    have hd : dval c = c.toNat - 48 := rfl
    rw [valN_cons, Lib.parseUintM, if_pos hc, ← hd]
    have ih' := ih (acc * 10 + dval c) h.2
    generalize dval c = d at hg ih' ⊢
    generalize valN (acc * 10 + d) r = v at hg ih' ⊢
    by_cases h1 : 1844674407370955162 ≤ acc
    · rw [if_pos h1, if_neg (by omega)]
    · rw [if_neg h1]
      by_cases h2 : M < acc * 10 + d
      · rw [if_pos h2, if_neg (by omega)]
      · rw [if_neg h2, ih' (by omega)]
theorem pi_dig {s : List UInt8} (h0 : s ≠ []) (h : s.all isDig = true) : Lib.parseIntB 64 s = if valN 0 s < 9223372036854775808 then .ok (valN 0 s : Int) else .range := by
  cases s with
  | nil => exact absurd rfl h0
  | cons c r =>
    have hc : 48 ≤ c.toNat ∧ c.toNat ≤ 57 := by
      simp only [List.all_cons, Bool.and_eq_true] at h
      simpa [isDig] using h.1
    have n1 : ¬ (c.toNat = 43 ∨ c.toNat = 45) := by omega
    have n2 : ¬ c.toNat = 45 := by omega
    unfold Lib.parseIntB
    simp only [if_neg n1]
    have hp : Lib.parseUintB 64 (c :: r) = if valN 0 (c :: r) ≤ 18446744073709551615 then .ok (valN 0 (c :: r)) else .range := by
      unfold Lib.parseUintB
      rw [if_neg (by simp)]
      exact pu_dig 18446744073709551615 (Nat.le_refl _) (c :: r) 0 h (Nat.zero_le _)
    rw [hp]
    generalize valN 0 (c :: r) = v
    by_cases h1 : v ≤ 18446744073709551615
    · rw [if_pos h1]
      simp only [n2, not_false_eq_true, true_and, false_and, if_false, show (2 : Nat) ^ (64 - 1) = 9223372036854775808 from rfl]
      by_cases h2 : 9223372036854775808 ≤ v
      · rw [if_pos h2, if_neg (by omega)]
      · rw [if_neg h2, if_pos (by omega)]
    · rw [if_neg h1, if_neg (by omega)]
theorem itoa_nat {n : Nat} (h : n ≤ 9223372036854775807) : itoaF (n : Int) = Lib.decDigits n := by
  rw [itoaF_eq (by omega) (by omega)]
  unfold Lib.itoa
  rw [if_neg (by omega)]
  rfl
end Go.Aa.T

set_option linter.unusedVariables false
set_option linter.unusedSimpArgs false
set_option maxRecDepth 100000
namespace Go.Aa.T
open Go.Aa Go.Proofs
theorem tail_consC (c : UInt8) (y : List UInt8) (r : List (List UInt8)) : Lib.joinTail [c] (y :: r) = c :: (y ++ Lib.joinTail [c] r) := by simp [Lib.joinTail]
theorem parts_tailC (c : UInt8) : ∀ (r : List (List UInt8)) (x : List UInt8), c ∉ x → (∀ y ∈ r, c ∉ y) → parts c (x ++ Lib.joinTail [c] r) = x :: r
  | [], x, hx, _ => by simp only [Lib.joinTail, List.map_nil, List.flatten_nil, List.append_nil]; exact parts_none hx
  | y :: r, x, hx, hr => by
    rw [tail_consC, parts_some hx, parts_tailC c r y (hr y (by simp)) (fun z hz => hr z (by simp [hz]))]
theorem parts_joinC (c : UInt8) {x : List UInt8} {r : List (List UInt8)} (h : ∀ y ∈ x :: r, c ∉ y) : parts c (Lib.join (x :: r) [c]) = x :: r := by
  rw [Lib.join_cons]
  exact parts_tailC c r x (h x (by simp)) (fun y hy => h y (by simp [hy]))
theorem join_no {c d : UInt8} (hcd : c ≠ d) : ∀ (l : List (List UInt8)), (∀ y ∈ l, c ∉ y) → c ∉ Lib.join l [d] := by
  intro l h
  cases l with
  | nil => simp [Lib.join_nil]
  | cons x r =>
    rw [Lib.join_cons, List.mem_append]
    have ht : ∀ (q : List (List UInt8)), (∀ y ∈ q, c ∉ y) → c ∉ Lib.joinTail [d] q := by
      intro q
      induction q with
      | nil => intro _; simp [Lib.joinTail]
      | cons y q ih =>
        intro hq
        rw [tail_consC]
        simp only [List.mem_cons, List.mem_append, not_or]
        exact ⟨hcd, hq y (by simp), ih fun z hz => hq z (by simp [hz])⟩
    exact fun e => e.elim (h x (by simp)) (ht r fun z hz => h z (by simp [hz]))
theorem textOf_no {X : Type} (f : X → List UInt8) (l : List X) {c : UInt8} (h44 : c ≠ 44) (h45 : c ≠ 45) (h : ∀ x ∈ l, c ∉ f x) : c ∉ textOf f l := by
  unfold textOf
  split
  · simp [h45]
  · exact join_no h44 _ fun y hy => by
      obtain ⟨x, hx, rfl⟩ := List.mem_map.1 hy
      exact h x hx

def aText (x : Amount) : List UInt8 := x.name ++ [61] ++ itoaF x.n
def goodA (x : Amount) : Bool := isName x.name && decide (0 < x.n)
theorem ckVl_good (l : List Amount) : ∀ (post : List Amount) (i : Nat), ckVl l i post = 0 → ∀ x ∈ post, goodA x = true
  | [], _, _ => by simp
  | x :: post, i, h => by
    unfold ckVl at h
    split at h
    · rename_i hg
      split at h
      · cases h
      · rename_i hn
        split at h
        · cases h
        · intro y hy
          rcases List.mem_cons.1 hy with rfl | hy
          · simp only [goodA, Bool.and_eq_true, decide_eq_true_eq]; exact ⟨hg, by omega⟩
          · exact ckVl_good l post _ h y hy
    · cases h
theorem ckV_good {l : List Amount} (h : ckV l = 0) : ∀ x ∈ l, goodA x = true := by
  unfold ckV at h
  split at h
  · exact ckVl_good l l 0 h
  · cases h
theorem ckV_len {l : List Amount} (h : ckV l = 0) : l.length ≤ 8 := by
  unfold ckV at h
  split at h
  · assumption
  · cases h
def smallA (l : List Amount) : Prop := ∀ x ∈ l, x.n ≤ 9223372036854775807
def partA (w : List UInt8) : Option Amount := match cutAt 61 w with
  | some (k, v) => if digB v = true then some ⟨k, (valN 0 v : Int)⟩ else none
  | none => none
theorem dig_no {s : List UInt8} (h : s.all isDig = true) {c : UInt8} (hc : isDig c = false) : c ∉ s := fun hm => by
  have := List.all_eq_true.1 h c hm
  rw [hc] at this; cases this
theorem aText_form (x : Amount) (hg : goodA x = true) (hn : x.n ≤ 9223372036854775807) : ∃ v, digB v = true ∧ v.all isDig = true ∧ (valN 0 v : Int) = x.n ∧ itoaF x.n = v ∧ (61 : UInt8) ∉ x.name ∧ (44 : UInt8) ∉ x.name ∧ (32 : UInt8) ∉ x.name := by
  simp only [goodA, Bool.and_eq_true, decide_eq_true_eq] at hg
  obtain ⟨k, hk⟩ := Int.eq_ofNat_of_zero_le (show 0 ≤ x.n by omega)
  have hk : x.n = (k : Int) := hk
  refine ⟨Lib.decDigits k, dec_dig k, dec_all k, by rw [dec_val, hk], by rw [hk, itoa_nat (by omega)], name_no hg.1 rfl, name_no hg.1 rfl, name_no hg.1 rfl⟩
theorem aText_ok (x : Amount) (hg : goodA x = true) (hn : x.n ≤ 9223372036854775807) : aText x ≠ [] ∧ (44 : UInt8) ∉ aText x ∧ (32 : UInt8) ∉ aText x ∧ aText x ≠ [45] ∧ partA (aText x) = some x := by
  obtain ⟨v, h1, h2, h3, h4, h5, h6, h7⟩ := aText_form x hg hn
  have e : aText x = x.name ++ 61 :: v := by simp [aText, h4]
  rw [e]
  refine ⟨by simp, ?_, ?_, ?_, ?_⟩
  · simp only [List.mem_append, List.mem_cons, not_or]; exact ⟨h6, by decide, dig_no h2 rfl⟩
  · simp only [List.mem_append, List.mem_cons, not_or]; exact ⟨h7, by decide, dig_no h2 rfl⟩
  · intro e2
    have : (61 : UInt8) ∈ ([45] : List UInt8) := e2 ▸ (by simp)
    revert this; decide
  · unfold partA
    rw [cutAt_hit h5]
    simp only
    rw [if_pos h1, h3]

theorem pair_no {c : UInt8} {a b : List UInt8} {s : UInt8} (ha : c ∉ a) (hs : c ≠ s) (hb : c ∉ b) : c ∉ a ++ [s] ++ b := by
  simp [ha, hs, hb]
theorem aText_32 {l : List Amount} (h : ckV l = 0) (hs : smallA l) : (32 : UInt8) ∉ textOf aText l :=
  textOf_no _ _ (by decide) (by decide) fun x hx => (aText_ok x (ckV_good h x hx) (hs x hx)).2.2.1
theorem pText_32 {l : List Pair} (h : ckS l = 0) : (32 : UInt8) ∉ textOf pText l :=
  textOf_no _ _ (by decide) (by decide) fun x hx => by
    have hg := ckS_good h x hx
    simp only [goodP, Bool.and_eq_true] at hg
    exact pair_no (name_no hg.1 rfl) (by decide) (name_no hg.2 rfl)
theorem tText_32 {l : List Taint} (h : ckT l = 0) : (32 : UInt8) ∉ textOf tText l :=
  textOf_no _ _ (by decide) (by decide) fun x hx => by
    have hg := ckT_good h x hx
    simp only [goodT, Bool.and_eq_true] at hg
    have h1 := pair_no (name_no hg.1 rfl) (show (32 : UInt8) ≠ 58 by decide) (name_no hg.2 rfl)
    unfold tText
    split
    · simp only [List.mem_append, not_or] at h1 ⊢
      exact ⟨h1, by decide⟩
    · exact h1
end Go.Aa.T
