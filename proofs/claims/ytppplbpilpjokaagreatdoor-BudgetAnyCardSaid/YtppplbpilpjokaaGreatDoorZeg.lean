/-
  WHAT THE LAW LEANS ON, part 7 of 9: a machine of values and its soundness; the functions of the law upon it; what they come to.
-/
import Derived.Test.YtppplbpilpjokaaGreatDoorZef
import Derived.Sort.Walk0

set_option linter.unusedVariables false
set_option linter.unusedSimpArgs false
set_option maxRecDepth 100000
namespace Go.Aa.T
open Go.Aa Go.Proofs

def alnum : List UInt8 := [97, 98, 99, 100, 101, 102, 103, 104, 105, 106, 107, 108, 109, 110, 111, 112, 113, 114, 115, 116, 117, 118, 119, 120, 121, 122, 48, 49, 50, 51, 52, 53, 54, 55, 56, 57]
theorem alnum_ch (c : UInt8) : alnum.contains c = nameCh c := by
  have : ∀ n : Fin 256, alnum.contains (UInt8.ofNat n.val) = nameCh (UInt8.ofNat n.val) := by decide +kernel
  have h := this ⟨c.toNat, c.toNat_lt⟩
  simpa using h
theorem dropWhile_nil {p : UInt8 → Bool} : ∀ {l : List UInt8}, l.dropWhile p = [] ↔ l.all p = true
  | [] => by simp
  | c :: l => by
    by_cases h : p c = true
    · simp [List.dropWhile_cons, h, dropWhile_nil]
    · simp [List.dropWhile_cons, h]
theorem trim_nil (s : List UInt8) : Lib.trimS s alnum = [] ↔ s.all nameCh = true := by
  have hp : (fun c => alnum.contains c) = nameCh := funext alnum_ch
  unfold Lib.trimS Lib.trimLeftS Lib.trimRightS
  rw [hp, dropWhile_nil, List.all_reverse]
  constructor
  · intro h
    have e := List.takeWhile_append_dropWhile (p := nameCh) (l := s.reverse)
    have : s.reverse.all nameCh = true := by
      rw [← e, List.all_append, h, Bool.and_true]
      exact List.all_takeWhile
    rwa [List.all_reverse] at this
  · intro h
    have : s.reverse.dropWhile nameCh = [] := dropWhile_nil.2 (by rwa [List.all_reverse])
    rw [this]; rfl
theorem trim_any (s : List UInt8) (h : s.length ≤ 9223372036854775807) : Gives cfg 190 [.str s, .str alnum] (.str (Lib.trimS s alnum)) := by
  refine Gives.of (H' := Heap.nil) ?_
  rw [lim_ext (g := trimE) rfl rfl]
  have : trimE [.str s, .str alnum] Heap.nil = some (.str (Lib.trimS s alnum), Heap.nil) := if_pos ⟨h, by decide, by decide⟩
  rw [this]; rfl
theorem res_name (s : List UInt8) : Gives cfg 143 [.str s] (.bool (isName s)) := by
  refine Gives.run (l143 _ _) ?_
  have ht := trim_nil s
  exact goG 60 []  trivial  (.len (show lenA true (AV.str s) = some (AV.int IntKind.i64 (↑s.length : Int)) from len_str _) <| .split ((1 : Int) ≤ (↑s.length : Int)) (fun h1 => .yes (show (decide ((1 : Int) ≤ (↑s.length : Int))) = true from decide_eq_true (show (1 : Int) ≤ (↑s.length : Int) from h1)) <| .len (show lenA true (AV.str s) = some (AV.int IntKind.i64 (↑s.length : Int)) from len_str _) <| .split ((↑s.length : Int) ≤ (12 : Int)) (fun h2 => .yes (show (decide ((↑s.length : Int) ≤ (12 : Int))) = true from decide_eq_true (show (↑s.length : Int) ≤ (12 : Int) from h2)) <| .callG ([AV.str s, AV.str [(97 : UInt8), (98 : UInt8), (99 : UInt8), (100 : UInt8), (101 : UInt8), (102 : UInt8), (103 : UInt8), (104 : UInt8), (105 : UInt8), (106 : UInt8), (107 : UInt8), (108 : UInt8), (109 : UInt8), (110 : UInt8), (111 : UInt8), (112 : UInt8), (113 : UInt8), (114 : UInt8), (115 : UInt8), (116 : UInt8), (117 : UInt8), (118 : UInt8), (119 : UInt8), (120 : UInt8), (121 : UInt8), (122 : UInt8), (48 : UInt8), (49 : UInt8), (50 : UInt8), (51 : UInt8), (52 : UInt8), (53 : UInt8), (54 : UInt8), (55 : UInt8), (56 : UInt8), (57 : UInt8)]]) (AV.str (Lib.trimS s alnum)) (show Gives cfg (190 : FuncId) [AV.str s, AV.str alnum] (AV.str (Lib.trimS s alnum)) from trim_any _ (by omega)) ⟨rfl, rfl⟩ ⟨rfl, rfl⟩ <| .fin ((ARes.ret (AV.bool (Lib.trimS s alnum == [])), { boxes := [], toks := [], loops := [] : Heap })) (by simp only [IsRet]; grind [isName])) (fun h2 => .no (show (decide ((↑s.length : Int) ≤ (12 : Int))) = false from decide_eq_false (show ¬ ((↑s.length : Int) ≤ (12 : Int)) from h2)) <| .fin ((ARes.ret (AV.bool false), { boxes := [], toks := [], loops := [] : Heap })) (by simp only [IsRet]; grind [isName]))) (fun h1 => .no (show (decide ((1 : Int) ≤ (↑s.length : Int))) = false from decide_eq_false (show ¬ ((1 : Int) ≤ (↑s.length : Int)) from h1)) <| .ff <| .fin ((ARes.ret (AV.bool false), { boxes := [], toks := [], loops := [] : Heap })) (by simp only [IsRet]; grind [isName]))) (by kernel_rfl)
end Go.Aa.T

set_option linter.unusedVariables false
set_option linter.unusedSimpArgs false
set_option maxRecDepth 100000
namespace Go.Aa.T
open Go.Aa Go.Proofs
structure Pair where
  key : List UInt8
  val : List UInt8
structure Term where
  op : Int
  key : List UInt8
  val : List UInt8
def Pair.cells (t : Pair) : List AV := [.str t.key, .str t.val]
def Term.cells (t : Term) : List AV := [.int .i64 t.op, .str t.key, .str t.val]
def encP (t : Pair) : AV := .agg t.cells
def encM (t : Term) : AV := .agg t.cells

def fewP (l : List Pair) : Bool := decide (l.length ≤ 20) && few (fun t => (t.key, t.val)) l
def fewM (l : List Term) : Bool := decide (l.length ≤ 20) && few (fun t => (t.key, t.val)) l
theorem fewP_len {l : List Pair} (h : fewP l = true) : l.length ≤ 20 := by
  simp only [fewP, Bool.and_eq_true, decide_eq_true_eq] at h; exact h.1
theorem fewM_len {l : List Term} (h : fewM l = true) : l.length ≤ 20 := by
  simp only [fewM, Bool.and_eq_true, decide_eq_true_eq] at h; exact h.1
theorem fewP_loop (l : List Pair) (hn : l.length ≤ 20) : ∀ (post : List Pair) (i : Nat) (hd : l.drop i = post) (T : Env) (hT : Has T [(0, .sl .sh (l.map encP)), (3, .int .i64 i)]),
    Goes cfg a60 k60_0 T Heap.nil (IsRet (.bool (few (fun t => (t.key, t.val)) post))) := by
  intro post
  induction post with
  | nil =>
    intro i hd T hT
    have hge := drop_ge hd
    exact goG 60 _  hT  (.len (show lenA false (AV.sl SK.sh (List.map encP l)) = some (AV.int IntKind.i64 (↑l.length : Int)) from len_map _) <| .no (show (decide ((↑i : Int) < (↑l.length : Int))) = false from decide_eq_false (show ¬ ((↑i : Int) < (↑l.length : Int)) from (by omega))) <| .fin ((ARes.ret (AV.bool true), { boxes := [], toks := [], loops := [] : Heap })) rfl) (by kernel_rfl)
  | cons x post ih =>
    intro i hd T hT
    have hlt := drop_lt hd
    have hnx := drop_next hd
    exact goG 60 _  hT  (.len (show lenA false (AV.sl SK.sh (List.map encP l)) = some (AV.int IntKind.i64 (↑l.length : Int)) from len_map _) <| .yes (show (decide ((↑i : Int) < (↑l.length : Int))) = true from decide_eq_true (show (↑i : Int) < (↑l.length : Int) from (by omega))) <| .idx (show idxA (2 : Nat) (AV.sl SK.sh (List.map encP l)) (AV.int IntKind.i64 (↑i : Int)) = some (AV.ref (encP x).cells) from idx_row hd (by rfl)) <| .len (show lenA true (AV.str x.key) = some (AV.int IntKind.i64 (↑x.key.length : Int)) from len_str _) <| .split ((50 : Int) < (↑x.key.length : Int)) (fun h1 => .yes (show (decide ((50 : Int) < (↑x.key.length : Int))) = true from decide_eq_true (show (50 : Int) < (↑x.key.length : Int) from h1)) <| .tt <| .fin ((ARes.ret (AV.bool false), { boxes := [], toks := [], loops := [] : Heap })) (by simp only [IsRet]; grind [few])) (fun h1 => .no (show (decide ((50 : Int) < (↑x.key.length : Int))) = false from decide_eq_false (show ¬ ((50 : Int) < (↑x.key.length : Int)) from h1)) <| .idx (show idxA (2 : Nat) (AV.sl SK.sh (List.map encP l)) (AV.int IntKind.i64 (↑i : Int)) = some (AV.ref (encP x).cells) from idx_row hd (by rfl)) <| .len (show lenA true (AV.str x.val) = some (AV.int IntKind.i64 (↑x.val.length : Int)) from len_str _) <| .split ((50 : Int) < (↑x.val.length : Int)) (fun h2 => .yes (show (decide ((50 : Int) < (↑x.val.length : Int))) = true from decide_eq_true (show (50 : Int) < (↑x.val.length : Int) from h2)) <| .fin ((ARes.ret (AV.bool false), { boxes := [], toks := [], loops := [] : Heap })) (by simp only [IsRet]; grind [few])) (fun h2 => .no (show (decide ((50 : Int) < (↑x.val.length : Int))) = false from decide_eq_false (show ¬ ((50 : Int) < (↑x.val.length : Int)) from h2)) <| .bin (show binA BinOp.add (AV.int IntKind.i64 (↑i : Int)) (AV.int IntKind.i64 (1 : Int)) = some (AV.int IntKind.i64 (↑(i + (1 : Nat)) : Int)) from inc_i (by omega)) <| .cutQ k60_0 [(0, AV.sl SK.sh (List.map encP l)), (3, AV.int IntKind.i64 (↑(i + (1 : Nat)) : Int))] ({ boxes := [], toks := [], loops := [] : Heap }) (fun T hT => (ih (i + (1 : Nat)) hnx T hT).to (by grind [few]))))) (by kernel_rfl)
theorem fewM_loop (l : List Term) (hn : l.length ≤ 20) : ∀ (post : List Term) (i : Nat) (hd : l.drop i = post) (T : Env) (hT : Has T [(0, .sl .sh (l.map encM)), (3, .int .i64 i)]),
    Goes cfg a58 k58_0 T Heap.nil (IsRet (.bool (few (fun t => (t.key, t.val)) post))) := by
  intro post
  induction post with
  | nil =>
    intro i hd T hT
    have hge := drop_ge hd
    exact goG 60 _  hT  (.len (show lenA false (AV.sl SK.sh (List.map encM l)) = some (AV.int IntKind.i64 (↑l.length : Int)) from len_map _) <| .no (show (decide ((↑i : Int) < (↑l.length : Int))) = false from decide_eq_false (show ¬ ((↑i : Int) < (↑l.length : Int)) from (by omega))) <| .fin ((ARes.ret (AV.bool true), { boxes := [], toks := [], loops := [] : Heap })) rfl) (by kernel_rfl)
  | cons x post ih =>
    intro i hd T hT
    have hlt := drop_lt hd
    have hnx := drop_next hd
    exact goG 60 _  hT  (.len (show lenA false (AV.sl SK.sh (List.map encM l)) = some (AV.int IntKind.i64 (↑l.length : Int)) from len_map _) <| .yes (show (decide ((↑i : Int) < (↑l.length : Int))) = true from decide_eq_true (show (↑i : Int) < (↑l.length : Int) from (by omega))) <| .idx (show idxA (3 : Nat) (AV.sl SK.sh (List.map encM l)) (AV.int IntKind.i64 (↑i : Int)) = some (AV.ref (encM x).cells) from idx_row hd (by rfl)) <| .len (show lenA true (AV.str x.key) = some (AV.int IntKind.i64 (↑x.key.length : Int)) from len_str _) <| .split ((50 : Int) < (↑x.key.length : Int)) (fun h1 => .yes (show (decide ((50 : Int) < (↑x.key.length : Int))) = true from decide_eq_true (show (50 : Int) < (↑x.key.length : Int) from h1)) <| .tt <| .fin ((ARes.ret (AV.bool false), { boxes := [], toks := [], loops := [] : Heap })) (by simp only [IsRet]; grind [few])) (fun h1 => .no (show (decide ((50 : Int) < (↑x.key.length : Int))) = false from decide_eq_false (show ¬ ((50 : Int) < (↑x.key.length : Int)) from h1)) <| .idx (show idxA (3 : Nat) (AV.sl SK.sh (List.map encM l)) (AV.int IntKind.i64 (↑i : Int)) = some (AV.ref (encM x).cells) from idx_row hd (by rfl)) <| .len (show lenA true (AV.str x.val) = some (AV.int IntKind.i64 (↑x.val.length : Int)) from len_str _) <| .split ((50 : Int) < (↑x.val.length : Int)) (fun h2 => .yes (show (decide ((50 : Int) < (↑x.val.length : Int))) = true from decide_eq_true (show (50 : Int) < (↑x.val.length : Int) from h2)) <| .fin ((ARes.ret (AV.bool false), { boxes := [], toks := [], loops := [] : Heap })) (by simp only [IsRet]; grind [few])) (fun h2 => .no (show (decide ((50 : Int) < (↑x.val.length : Int))) = false from decide_eq_false (show ¬ ((50 : Int) < (↑x.val.length : Int)) from h2)) <| .bin (show binA BinOp.add (AV.int IntKind.i64 (↑i : Int)) (AV.int IntKind.i64 (1 : Int)) = some (AV.int IntKind.i64 (↑(i + (1 : Nat)) : Int)) from inc_i (by omega)) <| .cutQ k58_0 [(0, AV.sl SK.sh (List.map encM l)), (3, AV.int IntKind.i64 (↑(i + (1 : Nat)) : Int))] ({ boxes := [], toks := [], loops := [] : Heap }) (fun T hT => (ih (i + (1 : Nat)) hnx T hT).to (by grind [few]))))) (by kernel_rfl)
theorem fewP_any (l : List Pair) : Gives cfg 60 [.sl .sh (l.map encP)] (.bool (fewP l)) := by
  refine Gives.run (l60 _ _) ?_
  have h := fun hn => fewP_loop l hn l 0 rfl
  exact goG 60 []  trivial  (.len (show lenA false (AV.sl SK.sh (List.map encP l)) = some (AV.int IntKind.i64 (↑l.length : Int)) from len_map _) <| .split ((20 : Int) < (↑l.length : Int)) (fun h1 => .yes (show (decide ((20 : Int) < (↑l.length : Int))) = true from decide_eq_true (show (20 : Int) < (↑l.length : Int) from h1)) <| .fin ((ARes.ret (AV.bool false), { boxes := [], toks := [], loops := [] : Heap })) (by simp only [IsRet]; grind [fewP])) (fun h1 => .no (show (decide ((20 : Int) < (↑l.length : Int))) = false from decide_eq_false (show ¬ ((20 : Int) < (↑l.length : Int)) from h1)) <| .cutQ k60_0 [(0, AV.sl SK.sh (List.map encP l)), (3, AV.int IntKind.i64 (0 : Int))] ({ boxes := [], toks := [], loops := [] : Heap }) (fun T hT => (h (by omega) T hT).to (by grind [fewP])))) (by kernel_rfl)
theorem fewM_any (l : List Term) : Gives cfg 58 [.sl .sh (l.map encM)] (.bool (fewM l)) := by
  refine Gives.run (l58 _ _) ?_
  have h := fun hn => fewM_loop l hn l 0 rfl
  exact goG 60 []  trivial  (.len (show lenA false (AV.sl SK.sh (List.map encM l)) = some (AV.int IntKind.i64 (↑l.length : Int)) from len_map _) <| .split ((20 : Int) < (↑l.length : Int)) (fun h1 => .yes (show (decide ((20 : Int) < (↑l.length : Int))) = true from decide_eq_true (show (20 : Int) < (↑l.length : Int) from h1)) <| .fin ((ARes.ret (AV.bool false), { boxes := [], toks := [], loops := [] : Heap })) (by simp only [IsRet]; grind [fewM])) (fun h1 => .no (show (decide ((20 : Int) < (↑l.length : Int))) = false from decide_eq_false (show ¬ ((20 : Int) < (↑l.length : Int)) from h1)) <| .cutQ k58_0 [(0, AV.sl SK.sh (List.map encM l)), (3, AV.int IntKind.i64 (0 : Int))] ({ boxes := [], toks := [], loops := [] : Heap }) (fun T hT => (h (by omega) T hT).to (by grind [fewM])))) (by kernel_rfl)

theorem ofP_loop (l : List Pair) (hn : l.length ≤ 20) : ∀ (post : List Pair) (i : Nat) (acc : List AV) (hd : l.drop i = post) (ha : acc.length = i) (hl : lenOk 2 acc = true) (T : Env) (hT : Has T [(0, .sl .sh (l.map encP)), (3, rowS Heap.nil acc), (4, .int .i64 i)]),
    Goes cfg a74 k74_0 T (rowH Heap.nil acc) (IsRet (rowS Heap.nil (acc ++ post.map encP))) := by
  intro post
  induction post with
  | nil =>
    intro i acc hd ha hl T hT
    have hge := drop_ge hd
    exact goG 60 _  hT  (.len (show lenA false (AV.sl SK.sh (List.map encP l)) = some (AV.int IntKind.i64 (↑l.length : Int)) from len_map _) <| .no (show (decide ((↑i : Int) < (↑l.length : Int))) = false from decide_eq_false (show ¬ ((↑i : Int) < (↑l.length : Int)) from (by omega))) <| .fin ((ARes.ret (setD (setD (setD (setD (setD (setD (updL T [((0 : Nat), AV.sl SK.sh (List.map encP l)), ((3 : Nat), rowS Heap.nil acc), ((4 : Nat), AV.int IntKind.i64 (↑i : Int))]) { dst := some (5 : Nat), op := AOp.mov (Opd.t (4 : Nat)), guard := none, deps := [] : AOper }.dst (ev (updL T [((0 : Nat), AV.sl SK.sh (List.map encP l)), ((3 : Nat), rowS Heap.nil acc), ((4 : Nat), AV.int IntKind.i64 (↑i : Int))]) (Opd.t (4 : Nat)))) { dst := some (6 : Nat), op := AOp.mov (Opd.t (0 : Nat)), guard := none, deps := [] : AOper }.dst (ev (setD (updL T [((0 : Nat), AV.sl SK.sh (List.map encP l)), ((3 : Nat), rowS Heap.nil acc), ((4 : Nat), AV.int IntKind.i64 (↑i : Int))]) { dst := some (5 : Nat), op := AOp.mov (Opd.t (4 : Nat)), guard := none, deps := [] : AOper }.dst (ev (updL T [((0 : Nat), AV.sl SK.sh (List.map encP l)), ((3 : Nat), rowS Heap.nil acc), ((4 : Nat), AV.int IntKind.i64 (↑i : Int))]) (Opd.t (4 : Nat)))) (Opd.t (0 : Nat)))) { dst := some (7 : Nat), op := AOp.len false (Opd.t (6 : Nat)), guard := none, deps := [] : AOper }.dst (AV.int IntKind.i64 (↑l.length : Int))) { dst := some (8 : Nat), op := AOp.bin BinOp.lss (Opd.t (5 : Nat)) (Opd.t (7 : Nat)), guard := none, deps := [] : AOper }.dst (AV.bool (decide ((↑i : Int) < (↑l.length : Int))))) { dst := some (25 : Nat), op := AOp.mov (Opd.t (3 : Nat)), guard := none, deps := [] : AOper }.dst (ev (setD (setD (setD (setD (updL T [((0 : Nat), AV.sl SK.sh (List.map encP l)), ((3 : Nat), rowS Heap.nil acc), ((4 : Nat), AV.int IntKind.i64 (↑i : Int))]) { dst := some (5 : Nat), op := AOp.mov (Opd.t (4 : Nat)), guard := none, deps := [] : AOper }.dst (ev (updL T [((0 : Nat), AV.sl SK.sh (List.map encP l)), ((3 : Nat), rowS Heap.nil acc), ((4 : Nat), AV.int IntKind.i64 (↑i : Int))]) (Opd.t (4 : Nat)))) { dst := some (6 : Nat), op := AOp.mov (Opd.t (0 : Nat)), guard := none, deps := [] : AOper }.dst (ev (setD (updL T [((0 : Nat), AV.sl SK.sh (List.map encP l)), ((3 : Nat), rowS Heap.nil acc), ((4 : Nat), AV.int IntKind.i64 (↑i : Int))]) { dst := some (5 : Nat), op := AOp.mov (Opd.t (4 : Nat)), guard := none, deps := [] : AOper }.dst (ev (updL T [((0 : Nat), AV.sl SK.sh (List.map encP l)), ((3 : Nat), rowS Heap.nil acc), ((4 : Nat), AV.int IntKind.i64 (↑i : Int))]) (Opd.t (4 : Nat)))) (Opd.t (0 : Nat)))) { dst := some (7 : Nat), op := AOp.len false (Opd.t (6 : Nat)), guard := none, deps := [] : AOper }.dst (AV.int IntKind.i64 (↑l.length : Int))) { dst := some (8 : Nat), op := AOp.bin BinOp.lss (Opd.t (5 : Nat)) (Opd.t (7 : Nat)), guard := none, deps := [] : AOper }.dst (AV.bool (decide ((↑i : Int) < (↑l.length : Int))))) (Opd.t (3 : Nat)))) { dst := some (2 : Nat), op := AOp.mov (Opd.t (25 : Nat)), guard := none, deps := [] : AOper }.dst (ev (setD (setD (setD (setD (setD (updL T [((0 : Nat), AV.sl SK.sh (List.map encP l)), ((3 : Nat), rowS Heap.nil acc), ((4 : Nat), AV.int IntKind.i64 (↑i : Int))]) { dst := some (5 : Nat), op := AOp.mov (Opd.t (4 : Nat)), guard := none, deps := [] : AOper }.dst (ev (updL T [((0 : Nat), AV.sl SK.sh (List.map encP l)), ((3 : Nat), rowS Heap.nil acc), ((4 : Nat), AV.int IntKind.i64 (↑i : Int))]) (Opd.t (4 : Nat)))) { dst := some (6 : Nat), op := AOp.mov (Opd.t (0 : Nat)), guard := none, deps := [] : AOper }.dst (ev (setD (updL T [((0 : Nat), AV.sl SK.sh (List.map encP l)), ((3 : Nat), rowS Heap.nil acc), ((4 : Nat), AV.int IntKind.i64 (↑i : Int))]) { dst := some (5 : Nat), op := AOp.mov (Opd.t (4 : Nat)), guard := none, deps := [] : AOper }.dst (ev (updL T [((0 : Nat), AV.sl SK.sh (List.map encP l)), ((3 : Nat), rowS Heap.nil acc), ((4 : Nat), AV.int IntKind.i64 (↑i : Int))]) (Opd.t (4 : Nat)))) (Opd.t (0 : Nat)))) { dst := some (7 : Nat), op := AOp.len false (Opd.t (6 : Nat)), guard := none, deps := [] : AOper }.dst (AV.int IntKind.i64 (↑l.length : Int))) { dst := some (8 : Nat), op := AOp.bin BinOp.lss (Opd.t (5 : Nat)) (Opd.t (7 : Nat)), guard := none, deps := [] : AOper }.dst (AV.bool (decide ((↑i : Int) < (↑l.length : Int))))) { dst := some (25 : Nat), op := AOp.mov (Opd.t (3 : Nat)), guard := none, deps := [] : AOper }.dst (ev (setD (setD (setD (setD (updL T [((0 : Nat), AV.sl SK.sh (List.map encP l)), ((3 : Nat), rowS Heap.nil acc), ((4 : Nat), AV.int IntKind.i64 (↑i : Int))]) { dst := some (5 : Nat), op := AOp.mov (Opd.t (4 : Nat)), guard := none, deps := [] : AOper }.dst (ev (updL T [((0 : Nat), AV.sl SK.sh (List.map encP l)), ((3 : Nat), rowS Heap.nil acc), ((4 : Nat), AV.int IntKind.i64 (↑i : Int))]) (Opd.t (4 : Nat)))) { dst := some (6 : Nat), op := AOp.mov (Opd.t (0 : Nat)), guard := none, deps := [] : AOper }.dst (ev (setD (updL T [((0 : Nat), AV.sl SK.sh (List.map encP l)), ((3 : Nat), rowS Heap.nil acc), ((4 : Nat), AV.int IntKind.i64 (↑i : Int))]) { dst := some (5 : Nat), op := AOp.mov (Opd.t (4 : Nat)), guard := none, deps := [] : AOper }.dst (ev (updL T [((0 : Nat), AV.sl SK.sh (List.map encP l)), ((3 : Nat), rowS Heap.nil acc), ((4 : Nat), AV.int IntKind.i64 (↑i : Int))]) (Opd.t (4 : Nat)))) (Opd.t (0 : Nat)))) { dst := some (7 : Nat), op := AOp.len false (Opd.t (6 : Nat)), guard := none, deps := [] : AOper }.dst (AV.int IntKind.i64 (↑l.length : Int))) { dst := some (8 : Nat), op := AOp.bin BinOp.lss (Opd.t (5 : Nat)) (Opd.t (7 : Nat)), guard := none, deps := [] : AOper }.dst (AV.bool (decide ((↑i : Int) < (↑l.length : Int))))) (Opd.t (3 : Nat)))) (Opd.t (25 : Nat))) (2 : Nat)), rowH Heap.nil acc)) (by simp only [IsRet, List.map_nil, List.append_nil]; rfl)) (by kernel_rfl)
  | cons x post ih =>
    intro i acc hd ha hl T hT
    have hlt := drop_lt hd
    have hnx := drop_next hd
    exact goG 60 _  hT  (.len (show lenA false (AV.sl SK.sh (List.map encP l)) = some (AV.int IntKind.i64 (↑l.length : Int)) from len_map _) <| .yes (show (decide ((↑i : Int) < (↑l.length : Int))) = true from decide_eq_true (show (↑i : Int) < (↑l.length : Int) from (by simp; omega))) <| .idx (show idxA (2 : Nat) (AV.sl SK.sh (List.map encP l)) (AV.int IntKind.i64 (↑i : Int)) = some (AV.ref (encP x).cells) from idx_row hd (by rfl)) <| .load (show loadA false (1 : Nat) (rowH Heap.nil acc) (AV.ref [AV.str x.key]) = some (AV.str x.key) from rfl) <| .idx (show idxA (2 : Nat) (AV.sl SK.sh (List.map encP l)) (AV.int IntKind.i64 (↑i : Int)) = some (AV.ref (encP x).cells) from idx_row hd (by rfl)) <| .load (show loadA false (1 : Nat) (rowH Heap.nil acc) (AV.ref [AV.str x.val]) = some (AV.str x.val) from rfl) <| .append (show appendA (2 : Nat) (32 : Nat) (rowH Heap.nil acc) (rowS Heap.nil acc) (AV.sl SK.full [AV.agg [AV.str x.key, AV.str x.val]]) = some ((rowS Heap.nil (acc ++ [AV.agg [AV.str x.key, AV.str x.val]]), rowH Heap.nil (acc ++ [AV.agg [AV.str x.key, AV.str x.val]]))) from row_append (by omega) hl (by rfl) (by rfl)) <| .bin (show binA BinOp.add (AV.int IntKind.i64 (↑i : Int)) (AV.int IntKind.i64 (1 : Int)) = some (AV.int IntKind.i64 (↑(i + (1 : Nat)) : Int)) from inc_i (by omega)) <| .cutQ k74_0 [(0, AV.sl SK.sh (List.map encP l)), (3, rowS Heap.nil (acc ++ [AV.agg [AV.str x.key, AV.str x.val]])), (4, AV.int IntKind.i64 (↑(i + (1 : Nat)) : Int))] (rowH Heap.nil (acc ++ [AV.agg [AV.str x.key, AV.str x.val]])) (fun T hT => (ih (i + (1 : Nat)) (acc ++ [AV.agg [AV.str x.key, AV.str x.val]]) hnx (by simp; omega) (by exact lenOk_snoc (by assumption) rfl) T hT).to (by simp [encP, Pair.cells]))) (by kernel_rfl)
theorem ofM_loop (l : List Term) (hn : l.length ≤ 20) : ∀ (post : List Term) (i : Nat) (acc : List AV) (hd : l.drop i = post) (ha : acc.length = i) (hl : lenOk 3 acc = true) (T : Env) (hT : Has T [(0, .sl .sh (l.map encM)), (3, rowS Heap.nil acc), (4, .int .i64 i)]),
    Goes cfg a120 k120_0 T (rowH Heap.nil acc) (IsRet (rowS Heap.nil (acc ++ post.map encM))) := by
  intro post
  induction post with
  | nil =>
    intro i acc hd ha hl T hT
    have hge := drop_ge hd
    exact goG 60 _  hT  (.len (show lenA false (AV.sl SK.sh (List.map encM l)) = some (AV.int IntKind.i64 (↑l.length : Int)) from len_map _) <| .no (show (decide ((↑i : Int) < (↑l.length : Int))) = false from decide_eq_false (show ¬ ((↑i : Int) < (↑l.length : Int)) from (by omega))) <| .fin ((ARes.ret (setD (setD (setD (setD (setD (setD (updL T [((0 : Nat), AV.sl SK.sh (List.map encM l)), ((3 : Nat), rowS Heap.nil acc), ((4 : Nat), AV.int IntKind.i64 (↑i : Int))]) { dst := some (5 : Nat), op := AOp.mov (Opd.t (4 : Nat)), guard := none, deps := [] : AOper }.dst (ev (updL T [((0 : Nat), AV.sl SK.sh (List.map encM l)), ((3 : Nat), rowS Heap.nil acc), ((4 : Nat), AV.int IntKind.i64 (↑i : Int))]) (Opd.t (4 : Nat)))) { dst := some (6 : Nat), op := AOp.mov (Opd.t (0 : Nat)), guard := none, deps := [] : AOper }.dst (ev (setD (updL T [((0 : Nat), AV.sl SK.sh (List.map encM l)), ((3 : Nat), rowS Heap.nil acc), ((4 : Nat), AV.int IntKind.i64 (↑i : Int))]) { dst := some (5 : Nat), op := AOp.mov (Opd.t (4 : Nat)), guard := none, deps := [] : AOper }.dst (ev (updL T [((0 : Nat), AV.sl SK.sh (List.map encM l)), ((3 : Nat), rowS Heap.nil acc), ((4 : Nat), AV.int IntKind.i64 (↑i : Int))]) (Opd.t (4 : Nat)))) (Opd.t (0 : Nat)))) { dst := some (7 : Nat), op := AOp.len false (Opd.t (6 : Nat)), guard := none, deps := [] : AOper }.dst (AV.int IntKind.i64 (↑l.length : Int))) { dst := some (8 : Nat), op := AOp.bin BinOp.lss (Opd.t (5 : Nat)) (Opd.t (7 : Nat)), guard := none, deps := [] : AOper }.dst (AV.bool (decide ((↑i : Int) < (↑l.length : Int))))) { dst := some (30 : Nat), op := AOp.mov (Opd.t (3 : Nat)), guard := none, deps := [] : AOper }.dst (ev (setD (setD (setD (setD (updL T [((0 : Nat), AV.sl SK.sh (List.map encM l)), ((3 : Nat), rowS Heap.nil acc), ((4 : Nat), AV.int IntKind.i64 (↑i : Int))]) { dst := some (5 : Nat), op := AOp.mov (Opd.t (4 : Nat)), guard := none, deps := [] : AOper }.dst (ev (updL T [((0 : Nat), AV.sl SK.sh (List.map encM l)), ((3 : Nat), rowS Heap.nil acc), ((4 : Nat), AV.int IntKind.i64 (↑i : Int))]) (Opd.t (4 : Nat)))) { dst := some (6 : Nat), op := AOp.mov (Opd.t (0 : Nat)), guard := none, deps := [] : AOper }.dst (ev (setD (updL T [((0 : Nat), AV.sl SK.sh (List.map encM l)), ((3 : Nat), rowS Heap.nil acc), ((4 : Nat), AV.int IntKind.i64 (↑i : Int))]) { dst := some (5 : Nat), op := AOp.mov (Opd.t (4 : Nat)), guard := none, deps := [] : AOper }.dst (ev (updL T [((0 : Nat), AV.sl SK.sh (List.map encM l)), ((3 : Nat), rowS Heap.nil acc), ((4 : Nat), AV.int IntKind.i64 (↑i : Int))]) (Opd.t (4 : Nat)))) (Opd.t (0 : Nat)))) { dst := some (7 : Nat), op := AOp.len false (Opd.t (6 : Nat)), guard := none, deps := [] : AOper }.dst (AV.int IntKind.i64 (↑l.length : Int))) { dst := some (8 : Nat), op := AOp.bin BinOp.lss (Opd.t (5 : Nat)) (Opd.t (7 : Nat)), guard := none, deps := [] : AOper }.dst (AV.bool (decide ((↑i : Int) < (↑l.length : Int))))) (Opd.t (3 : Nat)))) { dst := some (2 : Nat), op := AOp.mov (Opd.t (30 : Nat)), guard := none, deps := [] : AOper }.dst (ev (setD (setD (setD (setD (setD (updL T [((0 : Nat), AV.sl SK.sh (List.map encM l)), ((3 : Nat), rowS Heap.nil acc), ((4 : Nat), AV.int IntKind.i64 (↑i : Int))]) { dst := some (5 : Nat), op := AOp.mov (Opd.t (4 : Nat)), guard := none, deps := [] : AOper }.dst (ev (updL T [((0 : Nat), AV.sl SK.sh (List.map encM l)), ((3 : Nat), rowS Heap.nil acc), ((4 : Nat), AV.int IntKind.i64 (↑i : Int))]) (Opd.t (4 : Nat)))) { dst := some (6 : Nat), op := AOp.mov (Opd.t (0 : Nat)), guard := none, deps := [] : AOper }.dst (ev (setD (updL T [((0 : Nat), AV.sl SK.sh (List.map encM l)), ((3 : Nat), rowS Heap.nil acc), ((4 : Nat), AV.int IntKind.i64 (↑i : Int))]) { dst := some (5 : Nat), op := AOp.mov (Opd.t (4 : Nat)), guard := none, deps := [] : AOper }.dst (ev (updL T [((0 : Nat), AV.sl SK.sh (List.map encM l)), ((3 : Nat), rowS Heap.nil acc), ((4 : Nat), AV.int IntKind.i64 (↑i : Int))]) (Opd.t (4 : Nat)))) (Opd.t (0 : Nat)))) { dst := some (7 : Nat), op := AOp.len false (Opd.t (6 : Nat)), guard := none, deps := [] : AOper }.dst (AV.int IntKind.i64 (↑l.length : Int))) { dst := some (8 : Nat), op := AOp.bin BinOp.lss (Opd.t (5 : Nat)) (Opd.t (7 : Nat)), guard := none, deps := [] : AOper }.dst (AV.bool (decide ((↑i : Int) < (↑l.length : Int))))) { dst := some (30 : Nat), op := AOp.mov (Opd.t (3 : Nat)), guard := none, deps := [] : AOper }.dst (ev (setD (setD (setD (setD (updL T [((0 : Nat), AV.sl SK.sh (List.map encM l)), ((3 : Nat), rowS Heap.nil acc), ((4 : Nat), AV.int IntKind.i64 (↑i : Int))]) { dst := some (5 : Nat), op := AOp.mov (Opd.t (4 : Nat)), guard := none, deps := [] : AOper }.dst (ev (updL T [((0 : Nat), AV.sl SK.sh (List.map encM l)), ((3 : Nat), rowS Heap.nil acc), ((4 : Nat), AV.int IntKind.i64 (↑i : Int))]) (Opd.t (4 : Nat)))) { dst := some (6 : Nat), op := AOp.mov (Opd.t (0 : Nat)), guard := none, deps := [] : AOper }.dst (ev (setD (updL T [((0 : Nat), AV.sl SK.sh (List.map encM l)), ((3 : Nat), rowS Heap.nil acc), ((4 : Nat), AV.int IntKind.i64 (↑i : Int))]) { dst := some (5 : Nat), op := AOp.mov (Opd.t (4 : Nat)), guard := none, deps := [] : AOper }.dst (ev (updL T [((0 : Nat), AV.sl SK.sh (List.map encM l)), ((3 : Nat), rowS Heap.nil acc), ((4 : Nat), AV.int IntKind.i64 (↑i : Int))]) (Opd.t (4 : Nat)))) (Opd.t (0 : Nat)))) { dst := some (7 : Nat), op := AOp.len false (Opd.t (6 : Nat)), guard := none, deps := [] : AOper }.dst (AV.int IntKind.i64 (↑l.length : Int))) { dst := some (8 : Nat), op := AOp.bin BinOp.lss (Opd.t (5 : Nat)) (Opd.t (7 : Nat)), guard := none, deps := [] : AOper }.dst (AV.bool (decide ((↑i : Int) < (↑l.length : Int))))) (Opd.t (3 : Nat)))) (Opd.t (30 : Nat))) (2 : Nat)), rowH Heap.nil acc)) (by simp only [IsRet, List.map_nil, List.append_nil]; rfl)) (by kernel_rfl)
  | cons x post ih =>
    intro i acc hd ha hl T hT
    have hlt := drop_lt hd
    have hnx := drop_next hd
    exact goG 60 _  hT  (.len (show lenA false (AV.sl SK.sh (List.map encM l)) = some (AV.int IntKind.i64 (↑l.length : Int)) from len_map _) <| .yes (show (decide ((↑i : Int) < (↑l.length : Int))) = true from decide_eq_true (show (↑i : Int) < (↑l.length : Int) from (by simp; omega))) <| .idx (show idxA (3 : Nat) (AV.sl SK.sh (List.map encM l)) (AV.int IntKind.i64 (↑i : Int)) = some (AV.ref (encM x).cells) from idx_row hd (by rfl)) <| .load (show loadA false (1 : Nat) (rowH Heap.nil acc) (AV.ref [AV.int IntKind.i64 x.op]) = some (AV.int IntKind.i64 x.op) from rfl) <| .idx (show idxA (3 : Nat) (AV.sl SK.sh (List.map encM l)) (AV.int IntKind.i64 (↑i : Int)) = some (AV.ref (encM x).cells) from idx_row hd (by rfl)) <| .load (show loadA false (1 : Nat) (rowH Heap.nil acc) (AV.ref [AV.str x.key]) = some (AV.str x.key) from rfl) <| .idx (show idxA (3 : Nat) (AV.sl SK.sh (List.map encM l)) (AV.int IntKind.i64 (↑i : Int)) = some (AV.ref (encM x).cells) from idx_row hd (by rfl)) <| .load (show loadA false (1 : Nat) (rowH Heap.nil acc) (AV.ref [AV.str x.val]) = some (AV.str x.val) from rfl) <| .append (show appendA (3 : Nat) (40 : Nat) (rowH Heap.nil acc) (rowS Heap.nil acc) (AV.sl SK.full [AV.agg [AV.int IntKind.i64 x.op, AV.str x.key, AV.str x.val]]) = some ((rowS Heap.nil (acc ++ [AV.agg [AV.int IntKind.i64 x.op, AV.str x.key, AV.str x.val]]), rowH Heap.nil (acc ++ [AV.agg [AV.int IntKind.i64 x.op, AV.str x.key, AV.str x.val]]))) from row_append (by omega) hl (by rfl) (by rfl)) <| .bin (show binA BinOp.add (AV.int IntKind.i64 (↑i : Int)) (AV.int IntKind.i64 (1 : Int)) = some (AV.int IntKind.i64 (↑(i + (1 : Nat)) : Int)) from inc_i (by omega)) <| .cutQ k120_0 [(0, AV.sl SK.sh (List.map encM l)), (3, rowS Heap.nil (acc ++ [AV.agg [AV.int IntKind.i64 x.op, AV.str x.key, AV.str x.val]])), (4, AV.int IntKind.i64 (↑(i + (1 : Nat)) : Int))] (rowH Heap.nil (acc ++ [AV.agg [AV.int IntKind.i64 x.op, AV.str x.key, AV.str x.val]])) (fun T hT => (ih (i + (1 : Nat)) (acc ++ [AV.agg [AV.int IntKind.i64 x.op, AV.str x.key, AV.str x.val]]) hnx (by simp; omega) (by exact lenOk_snoc (by assumption) rfl) T hT).to (by simp [encM, Term.cells]))) (by kernel_rfl)
theorem ofP_any (l : List Pair) (hn : l.length ≤ 20) : Gives cfg 74 [.sl .sh (l.map encP)] (rowS Heap.nil (l.map encP)) := by
  refine Gives.run (l74 _ _) ?_
  have h := ofP_loop l hn l 0 [] rfl rfl rfl
  exact goG 60 []  trivial  (.cutQ k74_0 [(0, AV.sl SK.sh (List.map encP l)), (3, AV.sl SK.full []), (4, AV.int IntKind.i64 (0 : Int))] ({ boxes := [], toks := [], loops := [] : Heap }) (fun T hT => (h T hT))) (by kernel_rfl)
theorem ofM_any (l : List Term) (hn : l.length ≤ 20) : Gives cfg 120 [.sl .sh (l.map encM)] (rowS Heap.nil (l.map encM)) := by
  refine Gives.run (l120 _ _) ?_
  have h := ofM_loop l hn l 0 [] rfl rfl rfl
  exact goG 60 []  trivial  (.cutQ k120_0 [(0, AV.sl SK.sh (List.map encM l)), (3, AV.sl SK.full []), (4, AV.int IntKind.i64 (0 : Int))] ({ boxes := [], toks := [], loops := [] : Heap }) (fun T hT => (h T hT))) (by kernel_rfl)

def ordB (s : List Pair) (i : Nat) (x : Pair) : Bool := match i with
  | 0 => false
  | j + 1 => match s[j]? with
    | some p => Op.bytesLess x.key p.key || x.key == p.key
    | none => false
def ckSl (s : List Pair) : Nat → List Pair → Int
  | _, [] => 0
  | i, x :: post => if isName x.key && isName x.val then (if ordB s i x then 13 else ckSl s (i + 1) post) else 3
def ckS (s : List Pair) : Int := if s.length ≤ 8 then ckSl s 0 s else 4
theorem dec_i {i : Nat} (h : i < 9223372036854775807) : binA .sub (.int .i64 ((i + 1 : Nat) : Int)) (.int .i64 1) = some (.int .i64 (i : Int)) := by
  rw [subI (by omega) (by omega)]; congr 2; omega
theorem ckS_ref_loop (l : List Pair) (hn : l.length ≤ 8) : ∀ (post : List Pair) (i : Nat) (hd : l.drop i = post) (T : Env) (hT : Has T [(0, .sl .sh (l.map encP)), (3, .int .i64 i)]),
    Goes cfg a78 k78_0 T Heap.nil (IsRet (.int .i64 (ckSl l i post))) := by
  intro post
  induction post with
  | nil =>
    intro i hd T hT
    have hge := drop_ge hd
    exact goG 60 _  hT  (.len (show lenA false (AV.sl SK.sh (List.map encP l)) = some (AV.int IntKind.i64 (↑l.length : Int)) from len_map _) <| .no (show (decide ((↑i : Int) < (↑l.length : Int))) = false from decide_eq_false (show ¬ ((↑i : Int) < (↑l.length : Int)) from (by omega))) <| .fin ((ARes.ret (AV.int IntKind.i64 (0 : Int)), { boxes := [], toks := [], loops := [] : Heap })) rfl) (by kernel_rfl)
  | cons x post ih =>
    intro i hd T hT
    have hlt := drop_lt hd
    have hnx := drop_next hd
    cases i with
    | zero => exact goG 60 _  hT  (.len (show lenA false (AV.sl SK.sh (List.map encP l)) = some (AV.int IntKind.i64 (↑l.length : Int)) from len_map _) <| .yes (show (decide ((↑(0 : Nat) : Int) < (↑l.length : Int))) = true from decide_eq_true (show (↑(0 : Nat) : Int) < (↑l.length : Int) from (by omega))) <| .idx (show idxA (2 : Nat) (AV.sl SK.sh (List.map encP l)) (AV.int IntKind.i64 (↑(0 : Nat) : Int)) = some (AV.ref (encP x).cells) from idx_row hd (by rfl)) <| .callG ([AV.str x.key]) (AV.bool (isName x.key)) (show Gives cfg (76 : FuncId) [AV.str x.key] (AV.bool (isName x.key)) from name_any _) ⟨rfl, rfl⟩ ⟨rfl, rfl⟩ <| .split (isName x.key = true) (fun h1 => .no (show (!isName x.key) = false from by have hh : isName x.key = true := h1; simp [hh]) <| .idx (show idxA (2 : Nat) (AV.sl SK.sh (List.map encP l)) (AV.int IntKind.i64 (↑(0 : Nat) : Int)) = some (AV.ref (encP x).cells) from idx_row hd (by rfl)) <| .callG ([AV.str x.val]) (AV.bool (isName x.val)) (show Gives cfg (76 : FuncId) [AV.str x.val] (AV.bool (isName x.val)) from name_any _) ⟨rfl, rfl⟩ ⟨rfl, rfl⟩ <| .split (isName x.val = true) (fun h2 => .no (show (!isName x.val) = false from by have hh : isName x.val = true := h2; simp [hh]) <| .ff <| .ff <| .bin (show binA BinOp.add (AV.int IntKind.i64 (↑(0 : Nat) : Int)) (AV.int IntKind.i64 (1 : Int)) = some (AV.int IntKind.i64 (↑((0 : Nat) + (1 : Nat)) : Int)) from inc_i (by omega)) <| .cutQ k78_0 [(0, AV.sl SK.sh (List.map encP l)), (3, AV.int IntKind.i64 (↑((0 : Nat) + (1 : Nat)) : Int))] ({ boxes := [], toks := [], loops := [] : Heap }) (fun T hT => (ih ((0 : Nat) + (1 : Nat)) hnx T hT).to (by grind [ckSl, ordB]))) (fun h2 => .yes (show (!isName x.val) = true from by have hh : ¬ (isName x.val = true) := h2; simp [hh]) <| .fin ((ARes.ret (AV.int IntKind.i64 (3 : Int)), { boxes := [], toks := [], loops := [] : Heap })) (by simp only [IsRet]; grind [ckSl, ordB]))) (fun h1 => .yes (show (!isName x.key) = true from by have hh : ¬ (isName x.key = true) := h1; simp [hh]) <| .tt <| .fin ((ARes.ret (AV.int IntKind.i64 (3 : Int)), { boxes := [], toks := [], loops := [] : Heap })) (by simp only [IsRet]; grind [ckSl, ordB]))) (by kernel_rfl)
    | succ j =>
      obtain ⟨p, hp⟩ : ∃ p, l[j]? = some p := ⟨l[j], List.getElem?_eq_getElem (by omega)⟩
      exact goG 60 _  hT  (.len (show lenA false (AV.sl SK.sh (List.map encP l)) = some (AV.int IntKind.i64 (↑l.length : Int)) from len_map _) <| .yes (show (decide ((↑(j + (1 : Nat)) : Int) < (↑l.length : Int))) = true from decide_eq_true (show (↑(j + (1 : Nat)) : Int) < (↑l.length : Int) from (by omega))) <| .idx (show idxA (2 : Nat) (AV.sl SK.sh (List.map encP l)) (AV.int IntKind.i64 (↑(j + (1 : Nat)) : Int)) = some (AV.ref (encP x).cells) from idx_row hd (by rfl)) <| .callG ([AV.str x.key]) (AV.bool (isName x.key)) (show Gives cfg (76 : FuncId) [AV.str x.key] (AV.bool (isName x.key)) from name_any _) ⟨rfl, rfl⟩ ⟨rfl, rfl⟩ <| .split (isName x.key = true) (fun h1 => .no (show (!isName x.key) = false from by have hh : isName x.key = true := h1; simp [hh]) <| .idx (show idxA (2 : Nat) (AV.sl SK.sh (List.map encP l)) (AV.int IntKind.i64 (↑(j + (1 : Nat)) : Int)) = some (AV.ref (encP x).cells) from idx_row hd (by rfl)) <| .callG ([AV.str x.val]) (AV.bool (isName x.val)) (show Gives cfg (76 : FuncId) [AV.str x.val] (AV.bool (isName x.val)) from name_any _) ⟨rfl, rfl⟩ ⟨rfl, rfl⟩ <| .split (isName x.val = true) (fun h2 => .no (show (!isName x.val) = false from by have hh : isName x.val = true := h2; simp [hh]) <| .yes (show (decide ((0 : Int) < (↑(j + (1 : Nat)) : Int))) = true from decide_eq_true (show (0 : Int) < (↑(j + (1 : Nat)) : Int) from (by omega))) <| .idx (show idxA (2 : Nat) (AV.sl SK.sh (List.map encP l)) (AV.int IntKind.i64 (↑(j + (1 : Nat)) : Int)) = some (AV.ref (encP x).cells) from idx_row hd (by rfl)) <| .bin (show binA BinOp.sub (AV.int IntKind.i64 (↑(j + (1 : Nat)) : Int)) (AV.int IntKind.i64 (1 : Int)) = some (AV.int IntKind.i64 (↑j : Int)) from dec_i (by omega)) <| .idx (show idxA (2 : Nat) (AV.sl SK.sh (List.map encP l)) (AV.int IntKind.i64 (↑j : Int)) = some (AV.ref (encP p).cells) from idx_get hp (by rfl)) <| .split ((Op.bytesLess x.key p.key || x.key == p.key) = true) (fun h3 => .yes (show (Op.bytesLess x.key p.key || x.key == p.key) = true from h3) <| .fin ((ARes.ret (AV.int IntKind.i64 (13 : Int)), { boxes := [], toks := [], loops := [] : Heap })) (by simp only [IsRet]; grind [ckSl, ordB])) (fun h3 => .no (show (Op.bytesLess x.key p.key || x.key == p.key) = false from Bool.eq_false_iff.2 (show ¬ ((Op.bytesLess x.key p.key || x.key == p.key) = true) from h3)) <| .bin (show binA BinOp.add (AV.int IntKind.i64 (↑(j + (1 : Nat)) : Int)) (AV.int IntKind.i64 (1 : Int)) = some (AV.int IntKind.i64 (↑(j + (1 : Nat) + (1 : Nat)) : Int)) from inc_i (by omega)) <| .cutQ k78_0 [(0, AV.sl SK.sh (List.map encP l)), (3, AV.int IntKind.i64 (↑(j + (1 : Nat) + (1 : Nat)) : Int))] ({ boxes := [], toks := [], loops := [] : Heap }) (fun T hT => (ih (j + (1 : Nat) + (1 : Nat)) hnx T hT).to (by grind [ckSl, ordB])))) (fun h2 => .yes (show (!isName x.val) = true from by have hh : ¬ (isName x.val = true) := h2; simp [hh]) <| .fin ((ARes.ret (AV.int IntKind.i64 (3 : Int)), { boxes := [], toks := [], loops := [] : Heap })) (by simp only [IsRet]; grind [ckSl, ordB]))) (fun h1 => .yes (show (!isName x.key) = true from by have hh : ¬ (isName x.key = true) := h1; simp [hh]) <| .tt <| .fin ((ARes.ret (AV.int IntKind.i64 (3 : Int)), { boxes := [], toks := [], loops := [] : Heap })) (by simp only [IsRet]; grind [ckSl, ordB]))) (by kernel_rfl)
theorem ckS_ref (l : List Pair) : Gives cfg 78 [.sl .sh (l.map encP)] (.int .i64 (ckS l)) := by
  refine Gives.run (l78 _ _) ?_
  have h := fun hn => ckS_ref_loop l hn l 0 rfl
  exact goG 60 []  trivial  (.len (show lenA false (AV.sl SK.sh (List.map encP l)) = some (AV.int IntKind.i64 (↑l.length : Int)) from len_map _) <| .split ((8 : Int) < (↑l.length : Int)) (fun h1 => .yes (show (decide ((8 : Int) < (↑l.length : Int))) = true from decide_eq_true (show (8 : Int) < (↑l.length : Int) from h1)) <| .fin ((ARes.ret (AV.int IntKind.i64 (4 : Int)), { boxes := [], toks := [], loops := [] : Heap })) (by simp only [IsRet]; grind [ckS])) (fun h1 => .no (show (decide ((8 : Int) < (↑l.length : Int))) = false from decide_eq_false (show ¬ ((8 : Int) < (↑l.length : Int)) from h1)) <| .cutQ k78_0 [(0, AV.sl SK.sh (List.map encP l)), (3, AV.int IntKind.i64 (0 : Int))] ({ boxes := [], toks := [], loops := [] : Heap }) (fun T hT => (h (by omega) T hT).to (by grind [ckS])))) (by kernel_rfl)
def valOk (x : Term) : Bool := if x.op ≤ 2 then isName x.val else decide (x.val = [])
def ckMl : List Term → Int
  | [] => 0
  | x :: post => if 1 ≤ x.op ∧ x.op ≤ 4 then (if isName x.key && valOk x then ckMl post else 3) else 1
def ckM (l : List Term) : Int := if l.length ≤ 8 then ckMl l else 4
theorem ckM_ref_loop (l : List Term) (hn : l.length ≤ 8) : ∀ (post : List Term) (i : Nat) (bs : List (List AV)) (hd : l.drop i = post) (T : Env) (hT : Has T [(0, .sl .sh (l.map encM)), (3, .int .i64 i)]),
    Goes cfg a127 k127_0 T ⟨bs, [], []⟩ (IsRet (.int .i64 (ckMl post))) := by
  intro post
  induction post with
  | nil =>
    intro i bs hd T hT
    have hge := drop_ge hd
    exact goG 60 _  hT  (.len (show lenA false (AV.sl SK.sh (List.map encM l)) = some (AV.int IntKind.i64 (↑l.length : Int)) from len_map _) <| .no (show (decide ((↑i : Int) < (↑l.length : Int))) = false from decide_eq_false (show ¬ ((↑i : Int) < (↑l.length : Int)) from (by omega))) <| .fin ((ARes.ret (AV.int IntKind.i64 (0 : Int)), { boxes := bs, toks := [], loops := [] : Heap })) rfl) (by kernel_rfl)
  | cons x post ih =>
    intro i bs hd T hT
    have hlt := drop_lt hd
    have hnx := drop_next hd
    exact goG 60 _  hT  (.len (show lenA false (AV.sl SK.sh (List.map encM l)) = some (AV.int IntKind.i64 (↑l.length : Int)) from len_map _) <| .yes (show (decide ((↑i : Int) < (↑l.length : Int))) = true from decide_eq_true (show (↑i : Int) < (↑l.length : Int) from (by omega))) <| .idx (show idxA (3 : Nat) (AV.sl SK.sh (List.map encM l)) (AV.int IntKind.i64 (↑i : Int)) = some (AV.ref (encM x).cells) from idx_row hd (by rfl)) <| .load (show loadA true (3 : Nat) { boxes := bs, toks := [], loops := [] : Heap } (AV.ref [AV.int IntKind.i64 x.op, AV.str x.key, AV.str x.val]) = some (AV.agg [AV.int IntKind.i64 x.op, AV.str x.key, AV.str x.val]) from rfl) <| .store (show storeA (3 : Nat) { boxes := bs ++ [[AV.int IntKind.i64 (0 : Int), AV.str [], AV.str []]], toks := [], loops := [] : Heap } (AV.ptr bs.length (0 : Nat)) (AV.agg [AV.int IntKind.i64 x.op, AV.str x.key, AV.str x.val]) = some ({ boxes := bs ++ [[AV.int IntKind.i64 x.op, AV.str x.key, AV.str x.val]], toks := [], loops := [] : Heap }) from store_box2 (cs := [AV.int IntKind.i64 (0 : Int), AV.str [], AV.str []]) (cs' := [AV.int IntKind.i64 x.op, AV.str x.key, AV.str x.val]) (by simp) rfl (by simp [List.set_append])) <| .load (show loadA false (1 : Nat) { boxes := bs ++ [[AV.int IntKind.i64 x.op, AV.str x.key, AV.str x.val]], toks := [], loops := [] : Heap } (AV.ptr bs.length (0 : Nat)) = some (AV.int IntKind.i64 x.op) from load_box (cs := [AV.int IntKind.i64 x.op, AV.str x.key, AV.str x.val]) (by simp) rfl) <| .split (x.op < (1 : Int)) (fun h1 => .yes (show (decide (x.op < (1 : Int))) = true from decide_eq_true (show x.op < (1 : Int) from h1)) <| .tt <| .fin ((ARes.ret (AV.int IntKind.i64 (1 : Int)), { boxes := bs ++ [[AV.int IntKind.i64 x.op, AV.str x.key, AV.str x.val]], toks := [], loops := [] : Heap })) (by simp only [IsRet]; grind [ckMl, valOk])) (fun h1 => .no (show (decide (x.op < (1 : Int))) = false from decide_eq_false (show ¬ (x.op < (1 : Int)) from h1)) <| .load (show loadA false (1 : Nat) { boxes := bs ++ [[AV.int IntKind.i64 x.op, AV.str x.key, AV.str x.val]], toks := [], loops := [] : Heap } (AV.ptr bs.length (0 : Nat)) = some (AV.int IntKind.i64 x.op) from load_box (cs := [AV.int IntKind.i64 x.op, AV.str x.key, AV.str x.val]) (by simp) rfl) <| .split ((4 : Int) < x.op) (fun h2 => .yes (show (decide ((4 : Int) < x.op)) = true from decide_eq_true (show (4 : Int) < x.op from h2)) <| .fin ((ARes.ret (AV.int IntKind.i64 (1 : Int)), { boxes := bs ++ [[AV.int IntKind.i64 x.op, AV.str x.key, AV.str x.val]], toks := [], loops := [] : Heap })) (by simp only [IsRet]; grind [ckMl, valOk])) (fun h2 => .no (show (decide ((4 : Int) < x.op)) = false from decide_eq_false (show ¬ ((4 : Int) < x.op) from h2)) <| .load (show loadA false (1 : Nat) { boxes := bs ++ [[AV.int IntKind.i64 x.op, AV.str x.key, AV.str x.val]], toks := [], loops := [] : Heap } (AV.ptr bs.length (1 : Nat)) = some (AV.str x.key) from load_box (cs := [AV.int IntKind.i64 x.op, AV.str x.key, AV.str x.val]) (by simp) rfl) <| .callG ([AV.str x.key]) (AV.bool (isName x.key)) (show Gives cfg (76 : FuncId) [AV.str x.key] (AV.bool (isName x.key)) from name_any _) ⟨rfl, rfl⟩ ⟨rfl, rfl⟩ <| .split (isName x.key = true) (fun h3 => .no (show (!isName x.key) = false from by have hh : isName x.key = true := h3; simp [hh]) <| .load (show loadA false (1 : Nat) { boxes := bs ++ [[AV.int IntKind.i64 x.op, AV.str x.key, AV.str x.val]], toks := [], loops := [] : Heap } (AV.ptr bs.length (0 : Nat)) = some (AV.int IntKind.i64 x.op) from load_box (cs := [AV.int IntKind.i64 x.op, AV.str x.key, AV.str x.val]) (by simp) rfl) <| .split (x.op ≤ (2 : Int)) (fun h4 => .yes (show (decide (x.op ≤ (2 : Int))) = true from decide_eq_true (show x.op ≤ (2 : Int) from h4)) <| .load (show loadA false (1 : Nat) { boxes := bs ++ [[AV.int IntKind.i64 x.op, AV.str x.key, AV.str x.val]], toks := [], loops := [] : Heap } (AV.ptr bs.length (2 : Nat)) = some (AV.str x.val) from load_box (cs := [AV.int IntKind.i64 x.op, AV.str x.key, AV.str x.val]) (by simp) rfl) <| .callG ([AV.str x.val]) (AV.bool (isName x.val)) (show Gives cfg (76 : FuncId) [AV.str x.val] (AV.bool (isName x.val)) from name_any _) ⟨rfl, rfl⟩ ⟨rfl, rfl⟩ <| .split (isName x.val = true) (fun h5 => .no (show (!isName x.val) = false from by have hh : isName x.val = true := h5; simp [hh]) <| .load (show loadA false (1 : Nat) { boxes := bs ++ [[AV.int IntKind.i64 x.op, AV.str x.key, AV.str x.val]], toks := [], loops := [] : Heap } (AV.ptr bs.length (0 : Nat)) = some (AV.int IntKind.i64 x.op) from load_box (cs := [AV.int IntKind.i64 x.op, AV.str x.key, AV.str x.val]) (by simp) rfl) <| .no (show (decide ((3 : Int) ≤ x.op)) = false from decide_eq_false (show ¬ ((3 : Int) ≤ x.op) from (by omega))) <| .ff <| .bin (show binA BinOp.add (AV.int IntKind.i64 (↑i : Int)) (AV.int IntKind.i64 (1 : Int)) = some (AV.int IntKind.i64 (↑(i + (1 : Nat)) : Int)) from inc_i (by omega)) <| .cutQ k127_0 [(0, AV.sl SK.sh (List.map encM l)), (3, AV.int IntKind.i64 (↑(i + (1 : Nat)) : Int))] ({ boxes := bs ++ [[AV.int IntKind.i64 x.op, AV.str x.key, AV.str x.val]], toks := [], loops := [] : Heap }) (fun T hT => (ih (i + (1 : Nat)) (bs ++ [[AV.int IntKind.i64 x.op, AV.str x.key, AV.str x.val]]) hnx T hT).to (by grind [ckMl, valOk]))) (fun h5 => .yes (show (!isName x.val) = true from by have hh : ¬ (isName x.val = true) := h5; simp [hh]) <| .tt <| .fin ((ARes.ret (AV.int IntKind.i64 (3 : Int)), { boxes := bs ++ [[AV.int IntKind.i64 x.op, AV.str x.key, AV.str x.val]], toks := [], loops := [] : Heap })) (by simp only [IsRet]; grind [ckMl, valOk]))) (fun h4 => .no (show (decide (x.op ≤ (2 : Int))) = false from decide_eq_false (show ¬ (x.op ≤ (2 : Int)) from h4)) <| .ff <| .load (show loadA false (1 : Nat) { boxes := bs ++ [[AV.int IntKind.i64 x.op, AV.str x.key, AV.str x.val]], toks := [], loops := [] : Heap } (AV.ptr bs.length (0 : Nat)) = some (AV.int IntKind.i64 x.op) from load_box (cs := [AV.int IntKind.i64 x.op, AV.str x.key, AV.str x.val]) (by simp) rfl) <| .yes (show (decide ((3 : Int) ≤ x.op)) = true from decide_eq_true (show (3 : Int) ≤ x.op from (by omega))) <| .load (show loadA false (1 : Nat) { boxes := bs ++ [[AV.int IntKind.i64 x.op, AV.str x.key, AV.str x.val]], toks := [], loops := [] : Heap } (AV.ptr bs.length (2 : Nat)) = some (AV.str x.val) from load_box (cs := [AV.int IntKind.i64 x.op, AV.str x.key, AV.str x.val]) (by simp) rfl) <| .split ((x.val == []) = true) (fun h5 => .no (show (!x.val == []) = false from by have hh : (x.val == []) = true := h5; simp [hh]) <| .bin (show binA BinOp.add (AV.int IntKind.i64 (↑i : Int)) (AV.int IntKind.i64 (1 : Int)) = some (AV.int IntKind.i64 (↑(i + (1 : Nat)) : Int)) from inc_i (by omega)) <| .cutQ k127_0 [(0, AV.sl SK.sh (List.map encM l)), (3, AV.int IntKind.i64 (↑(i + (1 : Nat)) : Int))] ({ boxes := bs ++ [[AV.int IntKind.i64 x.op, AV.str x.key, AV.str x.val]], toks := [], loops := [] : Heap }) (fun T hT => (ih (i + (1 : Nat)) (bs ++ [[AV.int IntKind.i64 x.op, AV.str x.key, AV.str x.val]]) hnx T hT).to (by grind [ckMl, valOk]))) (fun h5 => .yes (show (!x.val == []) = true from by have hh : ¬ ((x.val == []) = true) := h5; simp [hh]) <| .fin ((ARes.ret (AV.int IntKind.i64 (3 : Int)), { boxes := bs ++ [[AV.int IntKind.i64 x.op, AV.str x.key, AV.str x.val]], toks := [], loops := [] : Heap })) (by simp only [IsRet]; grind [ckMl, valOk])))) (fun h3 => .yes (show (!isName x.key) = true from by have hh : ¬ (isName x.key = true) := h3; simp [hh]) <| .tt <| .tt <| .fin ((ARes.ret (AV.int IntKind.i64 (3 : Int)), { boxes := bs ++ [[AV.int IntKind.i64 x.op, AV.str x.key, AV.str x.val]], toks := [], loops := [] : Heap })) (by simp only [IsRet]; grind [ckMl, valOk]))))) (by kernel_rfl)
theorem ckM_ref (l : List Term) : Gives cfg 127 [.sl .sh (l.map encM)] (.int .i64 (ckM l)) := by
  refine Gives.run (l127 _ _) ?_
  have h := fun hn => ckM_ref_loop l hn l 0 [] rfl
  exact goG 60 []  trivial  (.len (show lenA false (AV.sl SK.sh (List.map encM l)) = some (AV.int IntKind.i64 (↑l.length : Int)) from len_map _) <| .split ((8 : Int) < (↑l.length : Int)) (fun h1 => .yes (show (decide ((8 : Int) < (↑l.length : Int))) = true from decide_eq_true (show (8 : Int) < (↑l.length : Int) from h1)) <| .fin ((ARes.ret (AV.int IntKind.i64 (4 : Int)), { boxes := [], toks := [], loops := [] : Heap })) (by simp only [IsRet]; grind [ckM])) (fun h1 => .no (show (decide ((8 : Int) < (↑l.length : Int))) = false from decide_eq_false (show ¬ ((8 : Int) < (↑l.length : Int)) from h1)) <| .cutQ k127_0 [(0, AV.sl SK.sh (List.map encM l)), (3, AV.int IntKind.i64 (0 : Int))] ({ boxes := [], toks := [], loops := [] : Heap }) (fun T hT => (h (by omega) T hT).to (by grind [ckM])))) (by kernel_rfl)
theorem ckM_loop (l : List Term) (hn : l.length ≤ 8) : ∀ (post : List Term) (i : Nat) (bs : List (List AV)) (hd : l.drop i = post) (T : Env) (hT : Has T [(9, .sl .sh (l.map encM)), (10, .int .i64 l.length), (11, .int .i64 i)]),
    Goes cfg a124 k124_0 T ⟨bs, [], []⟩ (IsRet (.int .i64 (ckMl post))) := by
  intro post
  induction post with
  | nil =>
    intro i bs hd T hT
    have hge := drop_ge hd
    exact goG 60 _  hT  (.no (show (decide ((↑i : Int) < (↑l.length : Int))) = false from decide_eq_false (show ¬ ((↑i : Int) < (↑l.length : Int)) from (by omega))) <| .fin ((ARes.ret (AV.int IntKind.i64 (0 : Int)), { boxes := bs, toks := [], loops := [] : Heap })) rfl) (by kernel_rfl)
  | cons x post ih =>
    intro i bs hd T hT
    have hlt := drop_lt hd
    have hnx := drop_next hd
    exact goG 60 _  hT  (.yes (show (decide ((↑i : Int) < (↑l.length : Int))) = true from decide_eq_true (show (↑i : Int) < (↑l.length : Int) from (by omega))) <| .idx (show idxA (3 : Nat) (AV.sl SK.sh (List.map encM l)) (AV.int IntKind.i64 (↑i : Int)) = some (AV.ref (encM x).cells) from idx_row hd (by rfl)) <| .load (show loadA true (3 : Nat) { boxes := bs, toks := [], loops := [] : Heap } (AV.ref [AV.int IntKind.i64 x.op, AV.str x.key, AV.str x.val]) = some (AV.agg [AV.int IntKind.i64 x.op, AV.str x.key, AV.str x.val]) from rfl) <| .store (show storeA (3 : Nat) { boxes := bs ++ [[AV.int IntKind.i64 (0 : Int), AV.str [], AV.str []]], toks := [], loops := [] : Heap } (AV.ptr bs.length (0 : Nat)) (AV.agg [AV.int IntKind.i64 x.op, AV.str x.key, AV.str x.val]) = some ({ boxes := bs ++ [[AV.int IntKind.i64 x.op, AV.str x.key, AV.str x.val]], toks := [], loops := [] : Heap }) from store_box2 (cs := [AV.int IntKind.i64 (0 : Int), AV.str [], AV.str []]) (cs' := [AV.int IntKind.i64 x.op, AV.str x.key, AV.str x.val]) (by simp) rfl (by simp [List.set_append])) <| .load (show loadA false (1 : Nat) { boxes := bs ++ [[AV.int IntKind.i64 x.op, AV.str x.key, AV.str x.val]], toks := [], loops := [] : Heap } (AV.ptr bs.length (2 : Nat)) = some (AV.str x.val) from load_box (cs := [AV.int IntKind.i64 x.op, AV.str x.key, AV.str x.val]) (by simp) rfl) <| .load (show loadA false (1 : Nat) { boxes := bs ++ [[AV.int IntKind.i64 x.op, AV.str x.key, AV.str x.val]], toks := [], loops := [] : Heap } (AV.ptr bs.length (0 : Nat)) = some (AV.int IntKind.i64 x.op) from load_box (cs := [AV.int IntKind.i64 x.op, AV.str x.key, AV.str x.val]) (by simp) rfl) <| .split ((x.op == (1 : Int)) = true) (fun h1 => .yes (show (x.op == (1 : Int)) = true from h1) <| .yes (show (x.op == (1 : Int)) = true from (by omega)) <| .load (show loadA false (1 : Nat) { boxes := bs ++ [[AV.int IntKind.i64 x.op, AV.str x.key, AV.str x.val]], toks := [], loops := [] : Heap } (AV.ptr bs.length (2 : Nat)) = some (AV.str x.val) from load_box (cs := [AV.int IntKind.i64 x.op, AV.str x.key, AV.str x.val]) (by simp) rfl) <| .callG ([AV.str x.val]) (AV.bool (isName x.val)) (show Gives cfg (143 : FuncId) [AV.str x.val] (AV.bool (isName x.val)) from res_name _) ⟨rfl, rfl⟩ ⟨rfl, rfl⟩ <| .load (show loadA false (1 : Nat) { boxes := bs ++ [[AV.int IntKind.i64 x.op, AV.str x.key, AV.str x.val]], toks := [], loops := [] : Heap } (AV.ptr bs.length (1 : Nat)) = some (AV.str x.key) from load_box (cs := [AV.int IntKind.i64 x.op, AV.str x.key, AV.str x.val]) (by simp) rfl) <| .callG ([AV.str x.key]) (AV.bool (isName x.key)) (show Gives cfg (143 : FuncId) [AV.str x.key] (AV.bool (isName x.key)) from res_name _) ⟨rfl, rfl⟩ ⟨rfl, rfl⟩ <| .split (isName x.key = true) (fun h2 => .no (show (!isName x.key) = false from by have hh : isName x.key = true := h2; simp [hh]) <| .split (isName x.val = true) (fun h3 => .no (show (!isName x.val) = false from by have hh : isName x.val = true := h3; simp [hh]) <| .bin (show binA BinOp.add (AV.int IntKind.i64 (↑i : Int)) (AV.int IntKind.i64 (1 : Int)) = some (AV.int IntKind.i64 (↑(i + (1 : Nat)) : Int)) from inc_i (by omega)) <| .cutQ k124_0 [(9, AV.sl SK.sh (List.map encM l)), (10, AV.int IntKind.i64 (↑l.length : Int)), (11, AV.int IntKind.i64 (↑(i + (1 : Nat)) : Int))] ({ boxes := bs ++ [[AV.int IntKind.i64 x.op, AV.str x.key, AV.str x.val]], toks := [], loops := [] : Heap }) (fun T hT => (ih (i + (1 : Nat)) (bs ++ [[AV.int IntKind.i64 x.op, AV.str x.key, AV.str x.val]]) hnx T hT).to (by grind [ckMl, valOk]))) (fun h3 => .yes (show (!isName x.val) = true from by have hh : ¬ (isName x.val = true) := h3; simp [hh]) <| .fin ((ARes.ret (AV.int IntKind.i64 (3 : Int)), { boxes := bs ++ [[AV.int IntKind.i64 x.op, AV.str x.key, AV.str x.val]], toks := [], loops := [] : Heap })) (by simp only [IsRet]; grind [ckMl, valOk]))) (fun h2 => .yes (show (!isName x.key) = true from by have hh : ¬ (isName x.key = true) := h2; simp [hh]) <| .tt <| .fin ((ARes.ret (AV.int IntKind.i64 (3 : Int)), { boxes := bs ++ [[AV.int IntKind.i64 x.op, AV.str x.key, AV.str x.val]], toks := [], loops := [] : Heap })) (by simp only [IsRet]; grind [ckMl, valOk]))) (fun h1 => .no (show (x.op == (1 : Int)) = false from Bool.eq_false_iff.2 (show ¬ ((x.op == (1 : Int)) = true) from h1)) <| .split ((x.op == (2 : Int)) = true) (fun h2 => .yes (show (x.op == (2 : Int)) = true from h2) <| .load (show loadA false (1 : Nat) { boxes := bs ++ [[AV.int IntKind.i64 x.op, AV.str x.key, AV.str x.val]], toks := [], loops := [] : Heap } (AV.ptr bs.length (2 : Nat)) = some (AV.str x.val) from load_box (cs := [AV.int IntKind.i64 x.op, AV.str x.key, AV.str x.val]) (by simp) rfl) <| .callG ([AV.str x.val]) (AV.bool (isName x.val)) (show Gives cfg (143 : FuncId) [AV.str x.val] (AV.bool (isName x.val)) from res_name _) ⟨rfl, rfl⟩ ⟨rfl, rfl⟩ <| .load (show loadA false (1 : Nat) { boxes := bs ++ [[AV.int IntKind.i64 x.op, AV.str x.key, AV.str x.val]], toks := [], loops := [] : Heap } (AV.ptr bs.length (1 : Nat)) = some (AV.str x.key) from load_box (cs := [AV.int IntKind.i64 x.op, AV.str x.key, AV.str x.val]) (by simp) rfl) <| .callG ([AV.str x.key]) (AV.bool (isName x.key)) (show Gives cfg (143 : FuncId) [AV.str x.key] (AV.bool (isName x.key)) from res_name _) ⟨rfl, rfl⟩ ⟨rfl, rfl⟩ <| .split (isName x.key = true) (fun h3 => .no (show (!isName x.key) = false from by have hh : isName x.key = true := h3; simp [hh]) <| .split (isName x.val = true) (fun h4 => .no (show (!isName x.val) = false from by have hh : isName x.val = true := h4; simp [hh]) <| .bin (show binA BinOp.add (AV.int IntKind.i64 (↑i : Int)) (AV.int IntKind.i64 (1 : Int)) = some (AV.int IntKind.i64 (↑(i + (1 : Nat)) : Int)) from inc_i (by omega)) <| .cutQ k124_0 [(9, AV.sl SK.sh (List.map encM l)), (10, AV.int IntKind.i64 (↑l.length : Int)), (11, AV.int IntKind.i64 (↑(i + (1 : Nat)) : Int))] ({ boxes := bs ++ [[AV.int IntKind.i64 x.op, AV.str x.key, AV.str x.val]], toks := [], loops := [] : Heap }) (fun T hT => (ih (i + (1 : Nat)) (bs ++ [[AV.int IntKind.i64 x.op, AV.str x.key, AV.str x.val]]) hnx T hT).to (by grind [ckMl, valOk]))) (fun h4 => .yes (show (!isName x.val) = true from by have hh : ¬ (isName x.val = true) := h4; simp [hh]) <| .fin ((ARes.ret (AV.int IntKind.i64 (3 : Int)), { boxes := bs ++ [[AV.int IntKind.i64 x.op, AV.str x.key, AV.str x.val]], toks := [], loops := [] : Heap })) (by simp only [IsRet]; grind [ckMl, valOk]))) (fun h3 => .yes (show (!isName x.key) = true from by have hh : ¬ (isName x.key = true) := h3; simp [hh]) <| .tt <| .fin ((ARes.ret (AV.int IntKind.i64 (3 : Int)), { boxes := bs ++ [[AV.int IntKind.i64 x.op, AV.str x.key, AV.str x.val]], toks := [], loops := [] : Heap })) (by simp only [IsRet]; grind [ckMl, valOk]))) (fun h2 => .no (show (x.op == (2 : Int)) = false from Bool.eq_false_iff.2 (show ¬ ((x.op == (2 : Int)) = true) from h2)) <| .split ((x.op == (3 : Int)) = true) (fun h3 => .yes (show (x.op == (3 : Int)) = true from h3) <| .yes (show (x.op == (3 : Int)) = true from (by omega)) <| .load (show loadA false (1 : Nat) { boxes := bs ++ [[AV.int IntKind.i64 x.op, AV.str x.key, AV.str x.val]], toks := [], loops := [] : Heap } (AV.ptr bs.length (1 : Nat)) = some (AV.str x.key) from load_box (cs := [AV.int IntKind.i64 x.op, AV.str x.key, AV.str x.val]) (by simp) rfl) <| .callG ([AV.str x.key]) (AV.bool (isName x.key)) (show Gives cfg (143 : FuncId) [AV.str x.key] (AV.bool (isName x.key)) from res_name _) ⟨rfl, rfl⟩ ⟨rfl, rfl⟩ <| .split (isName x.key = true) (fun h4 => .no (show (!isName x.key) = false from by have hh : isName x.key = true := h4; simp [hh]) <| .split ((x.val == []) = true) (fun h5 => .no (show (!x.val == []) = false from by have hh : (x.val == []) = true := h5; simp [hh]) <| .bin (show binA BinOp.add (AV.int IntKind.i64 (↑i : Int)) (AV.int IntKind.i64 (1 : Int)) = some (AV.int IntKind.i64 (↑(i + (1 : Nat)) : Int)) from inc_i (by omega)) <| .cutQ k124_0 [(9, AV.sl SK.sh (List.map encM l)), (10, AV.int IntKind.i64 (↑l.length : Int)), (11, AV.int IntKind.i64 (↑(i + (1 : Nat)) : Int))] ({ boxes := bs ++ [[AV.int IntKind.i64 x.op, AV.str x.key, AV.str x.val]], toks := [], loops := [] : Heap }) (fun T hT => (ih (i + (1 : Nat)) (bs ++ [[AV.int IntKind.i64 x.op, AV.str x.key, AV.str x.val]]) hnx T hT).to (by grind [ckMl, valOk]))) (fun h5 => .yes (show (!x.val == []) = true from by have hh : ¬ ((x.val == []) = true) := h5; simp [hh]) <| .fin ((ARes.ret (AV.int IntKind.i64 (3 : Int)), { boxes := bs ++ [[AV.int IntKind.i64 x.op, AV.str x.key, AV.str x.val]], toks := [], loops := [] : Heap })) (by simp only [IsRet]; grind [ckMl, valOk]))) (fun h4 => .yes (show (!isName x.key) = true from by have hh : ¬ (isName x.key = true) := h4; simp [hh]) <| .tt <| .fin ((ARes.ret (AV.int IntKind.i64 (3 : Int)), { boxes := bs ++ [[AV.int IntKind.i64 x.op, AV.str x.key, AV.str x.val]], toks := [], loops := [] : Heap })) (by simp only [IsRet]; grind [ckMl, valOk]))) (fun h3 => .no (show (x.op == (3 : Int)) = false from Bool.eq_false_iff.2 (show ¬ ((x.op == (3 : Int)) = true) from h3)) <| .split ((x.op == (4 : Int)) = true) (fun h4 => .yes (show (x.op == (4 : Int)) = true from h4) <| .load (show loadA false (1 : Nat) { boxes := bs ++ [[AV.int IntKind.i64 x.op, AV.str x.key, AV.str x.val]], toks := [], loops := [] : Heap } (AV.ptr bs.length (1 : Nat)) = some (AV.str x.key) from load_box (cs := [AV.int IntKind.i64 x.op, AV.str x.key, AV.str x.val]) (by simp) rfl) <| .callG ([AV.str x.key]) (AV.bool (isName x.key)) (show Gives cfg (143 : FuncId) [AV.str x.key] (AV.bool (isName x.key)) from res_name _) ⟨rfl, rfl⟩ ⟨rfl, rfl⟩ <| .split (isName x.key = true) (fun h5 => .no (show (!isName x.key) = false from by have hh : isName x.key = true := h5; simp [hh]) <| .split ((x.val == []) = true) (fun h6 => .no (show (!x.val == []) = false from by have hh : (x.val == []) = true := h6; simp [hh]) <| .bin (show binA BinOp.add (AV.int IntKind.i64 (↑i : Int)) (AV.int IntKind.i64 (1 : Int)) = some (AV.int IntKind.i64 (↑(i + (1 : Nat)) : Int)) from inc_i (by omega)) <| .cutQ k124_0 [(9, AV.sl SK.sh (List.map encM l)), (10, AV.int IntKind.i64 (↑l.length : Int)), (11, AV.int IntKind.i64 (↑(i + (1 : Nat)) : Int))] ({ boxes := bs ++ [[AV.int IntKind.i64 x.op, AV.str x.key, AV.str x.val]], toks := [], loops := [] : Heap }) (fun T hT => (ih (i + (1 : Nat)) (bs ++ [[AV.int IntKind.i64 x.op, AV.str x.key, AV.str x.val]]) hnx T hT).to (by grind [ckMl, valOk]))) (fun h6 => .yes (show (!x.val == []) = true from by have hh : ¬ ((x.val == []) = true) := h6; simp [hh]) <| .fin ((ARes.ret (AV.int IntKind.i64 (3 : Int)), { boxes := bs ++ [[AV.int IntKind.i64 x.op, AV.str x.key, AV.str x.val]], toks := [], loops := [] : Heap })) (by simp only [IsRet]; grind [ckMl, valOk]))) (fun h5 => .yes (show (!isName x.key) = true from by have hh : ¬ (isName x.key = true) := h5; simp [hh]) <| .tt <| .fin ((ARes.ret (AV.int IntKind.i64 (3 : Int)), { boxes := bs ++ [[AV.int IntKind.i64 x.op, AV.str x.key, AV.str x.val]], toks := [], loops := [] : Heap })) (by simp only [IsRet]; grind [ckMl, valOk]))) (fun h4 => .no (show (x.op == (4 : Int)) = false from Bool.eq_false_iff.2 (show ¬ ((x.op == (4 : Int)) = true) from h4)) <| .fin ((ARes.ret (AV.int IntKind.i64 (1 : Int)), { boxes := bs ++ [[AV.int IntKind.i64 x.op, AV.str x.key, AV.str x.val]], toks := [], loops := [] : Heap })) (by simp only [IsRet]; grind [ckMl, valOk])))))) (by kernel_rfl)
theorem ckM_any (l : List Term) : Gives cfg 124 [.sl .sh (l.map encM)] (.int .i64 (ckM l)) := by
  refine Gives.run (l124 _ _) ?_
  have h := fun hn => ckM_loop l hn l 0 [] rfl
  exact goG 60 []  trivial  (.len (show lenA false (AV.sl SK.sh (List.map encM l)) = some (AV.int IntKind.i64 (↑l.length : Int)) from len_map _) <| .split ((8 : Int) < (↑l.length : Int)) (fun h1 => .yes (show (decide ((8 : Int) < (↑l.length : Int))) = true from decide_eq_true (show (8 : Int) < (↑l.length : Int) from h1)) <| .fin ((ARes.ret (AV.int IntKind.i64 (4 : Int)), { boxes := [], toks := [], loops := [] : Heap })) (by simp only [IsRet]; grind [ckM])) (fun h1 => .no (show (decide ((8 : Int) < (↑l.length : Int))) = false from decide_eq_false (show ¬ ((8 : Int) < (↑l.length : Int)) from h1)) <| .len (show lenA false (AV.sl SK.sh (List.map encM l)) = some (AV.int IntKind.i64 (↑l.length : Int)) from len_map _) <| .cutQ k124_0 [(9, AV.sl SK.sh (List.map encM l)), (10, AV.int IntKind.i64 (↑l.length : Int)), (11, AV.int IntKind.i64 (0 : Int))] ({ boxes := [], toks := [], loops := [] : Heap }) (fun T hT => (h (by omega) T hT).to (by grind [ckM])))) (by kernel_rfl)
end Go.Aa.T

set_option linter.unusedVariables false
set_option linter.unusedSimpArgs false
set_option maxRecDepth 100000
namespace Go.Aa.T
open Go.Aa Go.Proofs

def getP (s : List Pair) (k : List UInt8) : Option (List UInt8) := (s.find? (fun p => p.key == k)).map (·.val)
def getV (o : Option (List UInt8)) : AV := .tuple [.str (o.getD []), .bool o.isSome]
theorem get_loop (s : List Pair) (k : List UInt8) (hn : s.length < 9223372036854775807) : ∀ (post : List Pair) (i : Nat) (bs : List (List AV)) (hd : s.drop i = post) (T : Env)
    (hT : Has T [(1, .str k), (8, .sl .sh (s.map encP)), (9, .int .i64 s.length), (10, .int .i64 i)]),
    Goes cfg a210 k210_0 T ⟨bs, [], []⟩ (IsRet (getV (getP post k))) := by
  intro post
  induction post with
  | nil =>
    intro i bs hd T hT
    have hge := drop_ge hd
    exact goG 60 _  hT  (.no (show (decide ((↑i : Int) < (↑s.length : Int))) = false from decide_eq_false (show ¬ ((↑i : Int) < (↑s.length : Int)) from (by omega))) <| .fin ((ARes.ret (AV.tuple [AV.str [], AV.bool false]), { boxes := bs, toks := [], loops := [] : Heap })) rfl) (by kernel_rfl)
  | cons x post ih =>
    intro i bs hd T hT
    have hlt := drop_lt hd
    have hnx := drop_next hd
    exact goG 60 _  hT  (.yes (show (decide ((↑i : Int) < (↑s.length : Int))) = true from decide_eq_true (show (↑i : Int) < (↑s.length : Int) from (by omega))) <| .idx (show idxA (2 : Nat) (AV.sl SK.sh (List.map encP s)) (AV.int IntKind.i64 (↑i : Int)) = some (AV.ref (encP x).cells) from idx_row hd (by rfl)) <| .load (show loadA true (2 : Nat) { boxes := bs, toks := [], loops := [] : Heap } (AV.ref [AV.str x.key, AV.str x.val]) = some (AV.agg [AV.str x.key, AV.str x.val]) from rfl) <| .store (show storeA (2 : Nat) { boxes := bs ++ [[AV.str [], AV.str []]], toks := [], loops := [] : Heap } (AV.ptr bs.length (0 : Nat)) (AV.agg [AV.str x.key, AV.str x.val]) = some ({ boxes := bs ++ [[AV.str x.key, AV.str x.val]], toks := [], loops := [] : Heap }) from store_box2 (cs := [AV.str [], AV.str []]) (cs' := [AV.str x.key, AV.str x.val]) (by simp) rfl (by simp [List.set_append])) <| .load (show loadA false (1 : Nat) { boxes := bs ++ [[AV.str x.key, AV.str x.val]], toks := [], loops := [] : Heap } (AV.ptr bs.length (0 : Nat)) = some (AV.str x.key) from load_box (cs := [AV.str x.key, AV.str x.val]) (by simp) rfl) <| .split ((x.key == k) = true) (fun h1 => .yes (show (x.key == k) = true from h1) <| .load (show loadA false (1 : Nat) { boxes := bs ++ [[AV.str x.key, AV.str x.val]], toks := [], loops := [] : Heap } (AV.ptr bs.length (1 : Nat)) = some (AV.str x.val) from load_box (cs := [AV.str x.key, AV.str x.val]) (by simp) rfl) <| .fin ((ARes.ret (AV.tuple [AV.str x.val, AV.bool true]), { boxes := bs ++ [[AV.str x.key, AV.str x.val]], toks := [], loops := [] : Heap })) (by simp only [IsRet]; grind [getP, getV])) (fun h1 => .no (show (x.key == k) = false from Bool.eq_false_iff.2 (show ¬ ((x.key == k) = true) from h1)) <| .bin (show binA BinOp.add (AV.int IntKind.i64 (↑i : Int)) (AV.int IntKind.i64 (1 : Int)) = some (AV.int IntKind.i64 (↑(i + (1 : Nat)) : Int)) from inc_i (by omega)) <| .cutQ k210_0 [(1, AV.str k), (8, AV.sl SK.sh (List.map encP s)), (9, AV.int IntKind.i64 (↑s.length : Int)), (10, AV.int IntKind.i64 (↑(i + (1 : Nat)) : Int))] ({ boxes := bs ++ [[AV.str x.key, AV.str x.val]], toks := [], loops := [] : Heap }) (fun T hT => (ih (i + (1 : Nat)) (bs ++ [[AV.str x.key, AV.str x.val]]) hnx T hT).to (by grind [getP, getV])))) (by kernel_rfl)
theorem get_any (s : List Pair) (k : List UInt8) (hn : s.length < 9223372036854775807) : Gives cfg 210 [.sl .sh (s.map encP), .str k] (getV (getP s k)) := by
  refine Gives.run (l210 _ _) ?_
  have h := get_loop s k hn s 0 [] rfl
  exact goG 60 []  trivial  (.len (show lenA false (AV.sl SK.sh (List.map encP s)) = some (AV.int IntKind.i64 (↑s.length : Int)) from len_map _) <| .cutQ k210_0 [(1, AV.str k), (8, AV.sl SK.sh (List.map encP s)), (9, AV.int IntKind.i64 (↑s.length : Int)), (10, AV.int IntKind.i64 (0 : Int))] ({ boxes := [], toks := [], loops := [] : Heap }) (fun T hT => (h T hT))) (by kernel_rfl)

def holdsB (s : List Pair) (x : Term) : Bool :=
  if x.op = 1 then getP s x.key == some x.val else if x.op = 2 then getP s x.key != some x.val else if x.op = 3 then (getP s x.key).isSome else if x.op = 4 then (getP s x.key).isNone else false
theorem holds_any (s : List Pair) (x : Term) (hn : s.length < 9223372036854775807) : Gives cfg 187 [encM x, .sl .sh (s.map encP)] (.bool (holdsB s x)) := by
  refine Gives.run (l187 _ _) ?_
  exact goG 60 []  trivial  (.callG ([AV.sl SK.sh (List.map encP s), AV.str x.key]) (AV.tuple [AV.str ((getP s x.key).getD []), AV.bool (getP s x.key).isSome]) (show Gives cfg (210 : FuncId) [AV.sl SK.sh (List.map encP s), AV.str x.key] (getV (getP s x.key)) from get_any _ _ hn) ⟨rfl, rfl⟩ ⟨rfl, rfl⟩ <| .split ((x.op == (1 : Int)) = true) (fun h1 => .yes (show (x.op == (1 : Int)) = true from h1) <| .split ((getP s x.key).isSome = true) (fun h2 => .yes (show ((getP s x.key).isSome) = true from h2) <| .fin ((ARes.ret (AV.bool ((getP s x.key).getD [] == x.val)), { boxes := [[AV.int IntKind.i64 x.op, AV.str x.key, AV.str x.val]], toks := [], loops := [] : Heap })) (by cases hg : getP s x.key <;> simp_all [IsRet, holdsB, bne])) (fun h2 => .no (show ((getP s x.key).isSome) = false from Bool.eq_false_iff.2 (show ¬ ((getP s x.key).isSome = true) from h2)) <| .fin ((ARes.ret (AV.bool false), { boxes := [[AV.int IntKind.i64 x.op, AV.str x.key, AV.str x.val]], toks := [], loops := [] : Heap })) (by cases hg : getP s x.key <;> simp_all [IsRet, holdsB, bne]))) (fun h1 => .no (show (x.op == (1 : Int)) = false from Bool.eq_false_iff.2 (show ¬ ((x.op == (1 : Int)) = true) from h1)) <| .split ((x.op == (2 : Int)) = true) (fun h2 => .yes (show (x.op == (2 : Int)) = true from h2) <| .split ((getP s x.key).isSome = true) (fun h3 => .no (show (!(getP s x.key).isSome) = false from by have hh : (getP s x.key).isSome = true := h3; simp [hh]) <| .fin ((ARes.ret (AV.bool !(getP s x.key).getD [] == x.val), { boxes := [[AV.int IntKind.i64 x.op, AV.str x.key, AV.str x.val]], toks := [], loops := [] : Heap })) (by cases hg : getP s x.key <;> simp_all [IsRet, holdsB, bne])) (fun h3 => .yes (show (!(getP s x.key).isSome) = true from by have hh : ¬ ((getP s x.key).isSome = true) := h3; simp [hh]) <| .fin ((ARes.ret (AV.bool true), { boxes := [[AV.int IntKind.i64 x.op, AV.str x.key, AV.str x.val]], toks := [], loops := [] : Heap })) (by cases hg : getP s x.key <;> simp_all [IsRet, holdsB, bne]))) (fun h2 => .no (show (x.op == (2 : Int)) = false from Bool.eq_false_iff.2 (show ¬ ((x.op == (2 : Int)) = true) from h2)) <| .split ((x.op == (3 : Int)) = true) (fun h3 => .yes (show (x.op == (3 : Int)) = true from h3) <| .fin ((ARes.ret (AV.bool (getP s x.key).isSome), { boxes := [[AV.int IntKind.i64 x.op, AV.str x.key, AV.str x.val]], toks := [], loops := [] : Heap })) (by simp only [IsRet]; grind [holdsB])) (fun h3 => .no (show (x.op == (3 : Int)) = false from Bool.eq_false_iff.2 (show ¬ ((x.op == (3 : Int)) = true) from h3)) <| .split ((x.op == (4 : Int)) = true) (fun h4 => .yes (show (x.op == (4 : Int)) = true from h4) <| .fin ((ARes.ret (AV.bool !(getP s x.key).isSome), { boxes := [[AV.int IntKind.i64 x.op, AV.str x.key, AV.str x.val]], toks := [], loops := [] : Heap })) (by simp only [IsRet]; grind [holdsB])) (fun h4 => .no (show (x.op == (4 : Int)) = false from Bool.eq_false_iff.2 (show ¬ ((x.op == (4 : Int)) = true) from h4)) <| .fin ((ARes.ret (AV.bool false), { boxes := [[AV.int IntKind.i64 x.op, AV.str x.key, AV.str x.val]], toks := [], loops := [] : Heap })) (by simp only [IsRet]; grind [holdsB])))))) (by kernel_rfl)
def HS (s : List Pair) : Heap := ⟨[[.sl .sh (s.map encP)]], [], []⟩
theorem match_one (s : List Pair) (x : Term) (hn : s.length < 9223372036854775807) : lim cfg (.fn 186) [encM x, .ptr 0 0] (HS s) = some (.ret (.bool (!holdsB s x)), ⟨[[.sl .sh (s.map encP)], x.cells], [], []⟩) := by
  rw [l186]
  exact go 60 []  trivial  (.callG ([AV.agg [AV.int IntKind.i64 x.op, AV.str x.key, AV.str x.val], AV.sl SK.sh (List.map encP s)]) (AV.bool (holdsB s x)) (show Gives cfg (187 : FuncId) [encM x, AV.sl SK.sh (List.map encP s)] (AV.bool (holdsB s x)) from holds_any _ _ hn) ⟨rfl, rfl⟩ ⟨rfl, rfl⟩ <| .fin ((ARes.ret (AV.bool !holdsB s x), { boxes := [[AV.sl SK.sh (List.map encP s)], [AV.int IntKind.i64 x.op, AV.str x.key, AV.str x.val]], toks := [], loops := [] : Heap })) rfl) (by kernel_rfl)
def fidxB {α : Type} (p : α → Bool) : List α → Nat → Int
  | [], _ => -1
  | x :: l, i => if p x then i else fidxB p l (i + 1)
theorem fidxB_ge {α : Type} (p : α → Bool) : ∀ (l : List α) (i : Nat), decide (0 ≤ fidxB p l i) = l.any p
  | [], i => rfl
  | x :: l, i => by
    unfold fidxB
    by_cases h : p x = true
    · simp [h]
    · have := fidxB_ge p l (i + 1); simp [h, this]
theorem match_loop (s : List Pair) (l : List Term) (hs : s.length < 9223372036854775807) (hn : l.length < 9223372036854775807) : ∀ (post : List Term) (i : Nat) (hd : l.drop i = post) (T : Env)
    (hT : Has T [(0, .sl .sh (l.map encM)), (1, .func 186 [.ptr 0 0]), (7, .int .i64 l.length), (8, .int .i64 i)]),
    runL cfg a209 k209_0 T (HS s) = some (.ret (.int .i64 (fidxB (fun x => !holdsB s x) post i)), HS s) := by
  intro post
  induction post with
  | nil =>
    intro i hd T hT
    have hge := drop_ge hd
    exact go 60 _  hT  (.no (show (decide ((↑i : Int) < (↑l.length : Int))) = false from decide_eq_false (show ¬ ((↑i : Int) < (↑l.length : Int)) from (by omega))) <| .fin ((ARes.ret (AV.int IntKind.i64 (-1 : Int)), { boxes := [[AV.sl SK.sh (List.map encP s)]], toks := [], loops := [] : Heap })) rfl) (by kernel_rfl)
  | cons x post ih =>
    intro i hd T hT
    have hlt := drop_lt hd
    have hnx := drop_next hd
    exact go 60 _  hT  (.yes (show (decide ((↑i : Int) < (↑l.length : Int))) = true from decide_eq_true (show (↑i : Int) < (↑l.length : Int) from (by omega))) <| .idx (show idxA (3 : Nat) (AV.sl SK.sh (List.map encM l)) (AV.int IntKind.i64 (↑i : Int)) = some (AV.ref (encM x).cells) from idx_row hd (by rfl)) <| .callH (xs := [AV.agg [AV.int IntKind.i64 x.op, AV.str x.key, AV.str x.val]]) (caps := [AV.ptr (0 : Nat) (0 : Nat)]) (show lim cfg (Key.fn (186 : FuncId)) [encM x, AV.ptr (0 : Nat) (0 : Nat)] (HS s) = some (ARes.ret (AV.bool !holdsB s x), { boxes := [[AV.sl SK.sh (List.map encP s)], x.cells], toks := [], loops := [] : Heap }) from match_one _ _ hs) rfl rfl <| .split (holdsB s x = true) (fun h1 => .no (show (!holdsB s x) = false from by have hh : holdsB s x = true := h1; simp [hh]) <| .bin (show binA BinOp.add (AV.int IntKind.i64 (↑i : Int)) (AV.int IntKind.i64 (1 : Int)) = some (AV.int IntKind.i64 (↑(i + (1 : Nat)) : Int)) from inc_i (by omega)) <| .cut k209_0 [(0, AV.sl SK.sh (List.map encM l)), (1, AV.func (186 : Nat) [AV.ptr (0 : Nat) (0 : Nat)]), (7, AV.int IntKind.i64 (↑l.length : Int)), (8, AV.int IntKind.i64 (↑(i + (1 : Nat)) : Int))] ({ boxes := [[AV.sl SK.sh (List.map encP s)]], toks := [], loops := [] : Heap }) (fun T hT => (ih (i + (1 : Nat)) hnx T hT).trans (congrArg some (by simp [fidxB, *, HS])))) (fun h1 => .yes (show (!holdsB s x) = true from by have hh : ¬ (holdsB s x = true) := h1; simp [hh]) <| .fin ((ARes.ret (AV.int IntKind.i64 (↑i : Int)), { boxes := [[AV.sl SK.sh (List.map encP s)]], toks := [], loops := [] : Heap })) (by simp [fidxB, *, HS]))) (by kernel_rfl)
theorem match_index (s : List Pair) (l : List Term) (hs : s.length < 9223372036854775807) (hn : l.length < 9223372036854775807) : lim cfg (.fn 209) [.sl .sh (l.map encM), .func 186 [.ptr 0 0]] (HS s) = some (.ret (.int .i64 (fidxB (fun x => !holdsB s x) l 0)), HS s) := by
  rw [l209]
  have h := match_loop s l hs hn l 0 rfl
  exact go 60 []  trivial  (.len (show lenA false (AV.sl SK.sh (List.map encM l)) = some (AV.int IntKind.i64 (↑l.length : Int)) from len_map _) <| .cut k209_0 [(0, AV.sl SK.sh (List.map encM l)), (1, AV.func (186 : Nat) [AV.ptr (0 : Nat) (0 : Nat)]), (7, AV.int IntKind.i64 (↑l.length : Int)), (8, AV.int IntKind.i64 (0 : Int))] ({ boxes := [[AV.sl SK.sh (List.map encP s)]], toks := [], loops := [] : Heap }) (fun T hT => (h T hT))) (by kernel_rfl)
theorem match_has (s : List Pair) (l : List Term) (hs : s.length < 9223372036854775807) (hn : l.length < 9223372036854775807) : lim cfg (.fn 185) [.sl .sh (l.map encM), .func 186 [.ptr 0 0]] (HS s) = some (.ret (.bool (l.any (fun x => !holdsB s x))), HS s) := by
  rw [l185]
  have hf := fidxB_ge (fun x => !holdsB s x) l 0
  exact go 60 []  trivial  (.callH (xs := [AV.sl SK.sh (List.map encM l), AV.func (186 : Nat) [AV.ptr (0 : Nat) (0 : Nat)]]) (caps := []) (show lim cfg (Key.fn (209 : FuncId)) [AV.sl SK.sh (List.map encM l), AV.func (186 : FuncId) [AV.ptr (0 : Nat) (0 : Nat)]] (HS s) = some (ARes.ret (AV.int IntKind.i64 (fidxB (fun x ↦ !holdsB s x) l (0 : Nat))), HS s) from match_index _ _ hs hn) rfl rfl <| .fin ((ARes.ret (AV.bool (decide ((0 : Int) ≤ fidxB (fun x ↦ !holdsB s x) l (0 : Nat)))), { boxes := [[AV.sl SK.sh (List.map encP s)]], toks := [], loops := [] : Heap })) (by simp [HS, ← hf])) (by kernel_rfl)
def matchB (s : List Pair) (l : List Term) : Bool := l.all (holdsB s)
theorem match_any (s : List Pair) (l : List Term) (hs : s.length < 9223372036854775807) (hn : l.length < 9223372036854775807) : Gives cfg 137 [.sl .sh (l.map encM), .sl .sh (s.map encP)] (.bool (matchB s l)) := by
  refine Gives.run (l137 _ _) ?_
  have e : (!l.any (fun x => !holdsB s x)) = matchB s l := by simp [matchB, List.any_eq_not_all_not]
  exact goG 60 []  trivial  (.callH (xs := [AV.sl SK.sh (List.map encM l), AV.func (186 : Nat) [AV.ptr (0 : Nat) (0 : Nat)]]) (caps := []) (show lim cfg (Key.fn (185 : FuncId)) [AV.sl SK.sh (List.map encM l), AV.func (186 : FuncId) [AV.ptr (0 : Nat) (0 : Nat)]] (HS s) = some (ARes.ret (AV.bool (l.any fun x ↦ !holdsB s x)), HS s) from match_has _ _ hs hn) rfl rfl <| .fin ((ARes.ret (AV.bool !l.any fun x ↦ !holdsB s x), { boxes := [[AV.sl SK.sh (List.map encP s)]], toks := [], loops := [] : Heap })) (by simp only [IsRet, e])) (by kernel_rfl)

end Go.Aa.T

set_option linter.unusedVariables false
set_option linter.unusedSimpArgs false
set_option maxRecDepth 100000
namespace Go.Aa.T
open Go.Aa Go.Proofs
end Go.Aa.T

set_option linter.unusedVariables false
set_option linter.unusedSimpArgs false
set_option maxRecDepth 100000
namespace Go.Aa.T
open Go.Aa Go.Proofs


def place (s : List Pair) (k : List UInt8) : Nat := (s.takeWhile (fun p => Op.bytesLess p.key k)).length

end Go.Aa.T


set_option linter.unusedVariables false
set_option linter.unusedSimpArgs false
set_option maxRecDepth 100000
namespace Go.Aa.T
open Go.Aa Go.Proofs
def mText (x : Term) : List UInt8 := if x.op = 1 then x.key ++ [58] ++ x.val else if x.op = 2 then x.key ++ [33] ++ x.val else if x.op = 4 then [45] ++ x.key else x.key
def textOf {α : Type} (f : α → List UInt8) (l : List α) : List UInt8 := if l.isEmpty then [45] else Lib.join (l.map f) [44]
theorem tail_len : ∀ (r : List (List UInt8)), (∀ s ∈ r, s.length ≤ 103) → (Lib.joinTail [44] r).length ≤ r.length * 104
  | [], _ => by simp [Lib.joinTail]
  | s :: r, h => by
    have h1 := h s (by simp)
    have h2 := tail_len r (fun y hy => h y (by simp [hy]))
    simp only [Lib.joinTail, List.map_cons, List.flatten_cons, List.length_append, List.length_cons, List.length_nil] at h2 ⊢
    omega
theorem join_len (ss : List (List UInt8)) (h : ∀ s ∈ ss, s.length ≤ 103) (hn : ss.length ≤ 20) : (Lib.join ss [44]).length ≤ 3000 := by
  cases ss with
  | nil => simp [Lib.join_nil]
  | cons x r =>
    rw [Lib.join_cons, List.length_append]
    have h1 := h x (by simp)
    have h2 := tail_len r (fun y hy => h y (by simp [hy]))
    simp only [List.length_cons] at hn
    omega
theorem strsA_map (ss : List (List UInt8)) : strsA (ss.map AV.str) = some ss := by
  induction ss with
  | nil => rfl
  | cons s ss ih => simp [strsA, ih]
theorem join_any (ss : List (List UInt8)) (h1 : ss.length ≤ 140737488355328) (h2 : (Lib.join ss [44]).length ≤ 140737488355328) : Gives cfg 101 [.sl .sh (ss.map AV.str), .str [44]] (.str (Lib.join ss [44])) := by
  refine Gives.of (H' := Heap.nil) ?_
  rw [lim_ext (g := joinE) rfl rfl]
  have : joinE [.sl .sh (ss.map AV.str), .str [44]] Heap.nil = some (.str (Lib.join ss [44]), Heap.nil) := by
    simp only [joinE, strsA_map]
    exact if_pos ⟨h1, h2⟩
  rw [this]; rfl
theorem lenSt {l : List (List UInt8)} : lenOk 1 (l.map AV.str) = true := lenOk_map fun _ => rfl

theorem joined_loop (ss : List (List UInt8)) (total : List UInt8) (hb : total.length ≤ 4611686018427387904) (hn : ss.length ≤ 20) : ∀ (post : List (List UInt8)) (i : Nat) (s : List UInt8) (hd : ss.drop i = post) (hs : s ++ Lib.joinTail [44] post = total) (T : Env)
    (hT : Has T [(0, .sl .sh (ss.map AV.str)), (3, .str s), (4, .int .i64 i)]),
    Goes cfg a142 k142_0 T Heap.nil (IsRet (.str total)) := by
  intro post
  induction post with
  | nil =>
    intro i s hd hs T hT
    have hge := drop_ge hd
    have e : s = total := by simpa [Lib.joinTail] using hs
    subst e
    exact goG 60 _  hT  (.len (show lenA false (AV.sl SK.sh (List.map AV.str ss)) = some (AV.int IntKind.i64 (↑ss.length : Int)) from len_map _) <| .no (show (decide ((↑i : Int) < (↑ss.length : Int))) = false from decide_eq_false (show ¬ ((↑i : Int) < (↑ss.length : Int)) from (by omega))) <| .fin ((ARes.ret (AV.str s), Heap.mk [] [] [])) rfl) (by kernel_rfl)
  | cons y post ih =>
    intro i s hd hs T hT
    have hlt := drop_lt hd
    have hnx := drop_next hd
    have hlen : s.length + 1 + y.length ≤ 4611686018427387904 := by
      rw [← hs] at hb
      simp only [Lib.joinTail, List.map_cons, List.flatten_cons, List.length_append, List.length_cons, List.length_nil] at hb
      omega
    have hs2 : s ++ [44] ++ y ++ Lib.joinTail [44] post = total := by rw [← hs]; simp [Lib.joinTail]
    exact goG 60 _  hT  (.len (show lenA false (AV.sl SK.sh (List.map AV.str ss)) = some (AV.int IntKind.i64 (↑ss.length : Int)) from len_map _) <| .yes (show (decide ((↑i : Int) < (↑ss.length : Int))) = true from decide_eq_true (show (↑i : Int) < (↑ss.length : Int) from (by simp; omega))) <| .bin (show binA BinOp.add (AV.str s) (AV.str [(44 : UInt8)]) = some (AV.str (s ++ [(44 : UInt8)])) from str_add (by simp; omega)) <| .idx (show idxA (1 : Nat) (AV.sl SK.sh (List.map AV.str ss)) (AV.int IntKind.i64 (↑i : Int)) = some (AV.ref (AV.str y).cells) from idx_row hd (by rfl)) <| .bin (show binA BinOp.add (AV.str (s ++ [(44 : UInt8)])) (AV.str y) = some (AV.str (s ++ [(44 : UInt8)] ++ y)) from str_add (by simp; omega)) <| .bin (show binA BinOp.add (AV.int IntKind.i64 (↑i : Int)) (AV.int IntKind.i64 (1 : Int)) = some (AV.int IntKind.i64 (↑(i + (1 : Nat)) : Int)) from inc_i (by omega)) <| .cutQ k142_0 [(0, AV.sl SK.sh (List.map AV.str ss)), (3, AV.str (s ++ [(44 : UInt8)] ++ y)), (4, AV.int IntKind.i64 (↑(i + (1 : Nat)) : Int))] (Heap.mk [] [] []) (fun T hT => (ih (i + (1 : Nat)) (s ++ [(44 : UInt8)] ++ y) hnx hs2 T hT))) (by kernel_rfl)
theorem joined_any (ss : List (List UInt8)) (hn : ss.length ≤ 20) (hb : (Lib.join ss [44]).length ≤ 3000) : Gives cfg 142 [.sl .sh (ss.map AV.str)] (.str (textOf id ss)) := by
  refine Gives.run (l142 _ _) ?_
  by_cases hs : ss = []
  · subst hs
    exact goG 60 []  trivial  (.len (show lenA false (AV.sl SK.sh []) = some (AV.int IntKind.i64 (↑[].length : Int)) from len_sl _ _) <| .tt <| .fin ((ARes.ret (AV.str [(45 : UInt8)]), Heap.mk [] [] [])) rfl) (by kernel_rfl)
  · obtain ⟨x, r, e⟩ := List.exists_cons_of_ne_nil hs
    have hp : 0 < ss.length := List.length_pos_iff.2 hs
    have h0 : ss[0]? = some x := by rw [e]; rfl
    have hd1 : ss.drop 1 = r := by rw [e]; rfl
    have h := fun hb hn => joined_loop ss (Lib.join ss [44]) hb hn r 1 x hd1 (by rw [e]; exact (Lib.join_cons x r [44]).symm)
    have e : textOf id ss = Lib.join ss [44] := by simp [textOf, hs]
    rw [e]
    exact goG 60 []  trivial  (.len (show lenA false (AV.sl SK.sh (List.map AV.str ss)) = some (AV.int IntKind.i64 (↑ss.length : Int)) from len_map _) <| .no (show ((↑ss.length : Int) == (0 : Int)) = false from beq_eq_false_iff_ne.2 (show ¬ ((↑ss.length : Int) = (0 : Int)) from (by simp at *; omega))) <| .idx (show idxA (1 : Nat) (AV.sl SK.sh (List.map AV.str ss)) (AV.int IntKind.i64 (0 : Int)) = some (AV.ref (AV.str x).cells) from idx_zero h0 (by rfl)) <| .cutQ k142_0 [(0, AV.sl SK.sh (List.map AV.str ss)), (3, AV.str x), (4, AV.int IntKind.i64 (1 : Int))] (Heap.mk [] [] []) (fun T hT => (h (by simp at *; omega) hn T hT))) (by kernel_rfl)




theorem mText_len (x : Term) (hk : x.key.length ≤ 50) (hv : x.val.length ≤ 50) : (mText x).length ≤ 103 := by
  unfold mText
  repeat' split
  all_goals (try simp)
  all_goals omega
theorem mText_one (x : Term) (hk : x.key.length ≤ 50) (hv : x.val.length ≤ 50) : Gives cfg 140 [encM x] (.str (mText x)) := by
  refine Gives.run (l140 _ _) ?_
  exact goG 60 []  trivial  (.split (x.op = (1 : Int)) (fun g1 => .yes (show (x.op == (1 : Int)) = true from beq_iff_eq.2 (show x.op = (1 : Int) from g1)) <| .bin (show binA BinOp.add (AV.str x.key) (AV.str [(58 : UInt8)]) = some (AV.str (x.key ++ [(58 : UInt8)])) from str_add (by simp; omega)) <| .bin (show binA BinOp.add (AV.str (x.key ++ [(58 : UInt8)])) (AV.str x.val) = some (AV.str (x.key ++ [(58 : UInt8)] ++ x.val)) from str_add (by simp; omega)) <| .fin ((ARes.ret (AV.str (x.key ++ [(58 : UInt8)] ++ x.val)), Heap.mk [[AV.int IntKind.i64 x.op, AV.str x.key, AV.str x.val]] [] [])) (by simp [IsRet, mText, *])) (fun g1 => .no (show (x.op == (1 : Int)) = false from beq_eq_false_iff_ne.2 (show ¬ (x.op = (1 : Int)) from g1)) <| .split (x.op = (2 : Int)) (fun g2 => .yes (show (x.op == (2 : Int)) = true from beq_iff_eq.2 (show x.op = (2 : Int) from g2)) <| .bin (show binA BinOp.add (AV.str x.key) (AV.str [(33 : UInt8)]) = some (AV.str (x.key ++ [(33 : UInt8)])) from str_add (by simp; omega)) <| .bin (show binA BinOp.add (AV.str (x.key ++ [(33 : UInt8)])) (AV.str x.val) = some (AV.str (x.key ++ [(33 : UInt8)] ++ x.val)) from str_add (by simp; omega)) <| .fin ((ARes.ret (AV.str (x.key ++ [(33 : UInt8)] ++ x.val)), Heap.mk [[AV.int IntKind.i64 x.op, AV.str x.key, AV.str x.val]] [] [])) (by simp [IsRet, mText, *])) (fun g2 => .no (show (x.op == (2 : Int)) = false from beq_eq_false_iff_ne.2 (show ¬ (x.op = (2 : Int)) from g2)) <| .split (x.op = (4 : Int)) (fun g3 => .yes (show (x.op == (4 : Int)) = true from beq_iff_eq.2 (show x.op = (4 : Int) from g3)) <| .bin (show binA BinOp.add (AV.str [(45 : UInt8)]) (AV.str x.key) = some (AV.str ([(45 : UInt8)] ++ x.key)) from str_add (by simp; omega)) <| .fin ((ARes.ret (AV.str ((45 : UInt8) :: x.key)), Heap.mk [[AV.int IntKind.i64 x.op, AV.str x.key, AV.str x.val]] [] [])) (by simp [IsRet, mText, *])) (fun g3 => .no (show (x.op == (4 : Int)) = false from beq_eq_false_iff_ne.2 (show ¬ (x.op = (4 : Int)) from g3)) <| .fin ((ARes.ret (AV.str x.key), Heap.mk [[AV.int IntKind.i64 x.op, AV.str x.key, AV.str x.val]] [] [])) (by simp [IsRet, mText, *]))))) (by kernel_rfl)
theorem mText_loop (l : List Term) (hn : l.length ≤ 20) (hf : ∀ x ∈ l, x.key.length ≤ 50 ∧ x.val.length ≤ 50) (hj : (Lib.join (l.map mText) [44]).length ≤ 3000) : ∀ (post : List Term) (i : Nat) (acc : List (List UInt8)) (bs : List (List AV)) (hd : l.drop i = post) (ha : acc.length = i) (hall : acc ++ post.map mText = l.map mText) (T : Env)
    (hT : Has T [(1, .func 140 []), (5, rowS Heap.nil (acc.map AV.str)), (11, .sl .sh (l.map encM)), (12, .int .i64 l.length), (13, .int .i64 i)]),
    Goes cfg a139 k139_0 T (rowH ⟨bs, [], []⟩ (acc.map AV.str)) (IsRet (.str (Lib.join (l.map mText) [44]))) := by
  intro post
  induction post with
  | nil =>
    intro i acc bs hd ha hall T hT
    have hge := drop_ge hd
    have e : acc = l.map mText := by simpa using hall
    subst e
    exact goG 60 _  hT  (.no (show (decide ((↑i : Int) < (↑l.length : Int))) = false from decide_eq_false (show ¬ ((↑i : Int) < (↑l.length : Int)) from (by simp; omega))) <| .callG ([rowS Heap.nil (List.map AV.str (List.map mText l)), AV.str [(44 : UInt8)]]) (AV.str (Lib.join (List.map mText l) [(44 : UInt8)])) (show Gives cfg (101 : FuncId) [AV.sl SK.sh (List.map AV.str (List.map mText l)), AV.str [(44 : UInt8)]] (AV.str (Lib.join (List.map mText l) [(44 : UInt8)])) from join_any _ (by simp; omega) (by omega)) Shuts.p ⟨rfl, rfl⟩ <| .fin ((ARes.ret (AV.str (Lib.join (List.map mText l) [(44 : UInt8)])), rowH (Heap.mk bs [] []) (List.map AV.str (List.map mText l)))) rfl) (by kernel_rfl)
  | cons x post ih =>
    intro i acc bs hd ha hall T hT
    have hlt := drop_lt hd
    have hnx := drop_next hd
    obtain ⟨hk, hv⟩ := hf x (drop_mem hd)
    have hall2 : (acc ++ [mText x]) ++ post.map mText = l.map mText := by rw [← hall]; simp
    exact goG 60 _  hT  (.yes (show (decide ((↑i : Int) < (↑l.length : Int))) = true from decide_eq_true (show (↑i : Int) < (↑l.length : Int) from (by simp; omega))) <| .idx (show idxA (3 : Nat) (AV.sl SK.sh (List.map encM l)) (AV.int IntKind.i64 (↑i : Int)) = some (AV.ref (encM x).cells) from idx_row hd (by rfl)) <| .load (row_load (ys := List.map AV.str acc) (show loadA true (3 : Nat) (Heap.mk bs [] []) (AV.ref [AV.int IntKind.i64 x.op, AV.str x.key, AV.str x.val]) = some (AV.agg [AV.int IntKind.i64 x.op, AV.str x.key, AV.str x.val]) from rfl)) <| .boxR (AV.agg [AV.int IntKind.i64 (0 : Int), AV.str [], AV.str []]) (Heap.mk bs [] []) (List.map AV.str acc) rfl <| .store (row_store (ys := List.map AV.str acc) (show storeA (3 : Nat) (Heap.mk (bs ++ [[AV.int IntKind.i64 (0 : Int), AV.str [], AV.str []]]) [] []) (AV.ptr (Heap.mk bs [] []).boxes.length (0 : Nat)) (AV.agg [AV.int IntKind.i64 x.op, AV.str x.key, AV.str x.val]) = some (Heap.mk (bs ++ [[AV.int IntKind.i64 x.op, AV.str x.key, AV.str x.val]]) [] []) from store_box2 (cs := [AV.int IntKind.i64 (0 : Int), AV.str [], AV.str []]) (cs' := [AV.int IntKind.i64 x.op, AV.str x.key, AV.str x.val]) (by simp [List.set_append]) rfl (by simp [List.set_append]))) <| .load (row_load (ys := List.map AV.str acc) (show loadA true (3 : Nat) (Heap.mk (bs ++ [[AV.int IntKind.i64 x.op, AV.str x.key, AV.str x.val]]) [] []) (AV.ptr (Heap.mk bs [] []).boxes.length (0 : Nat)) = some (AV.agg [AV.int IntKind.i64 x.op, AV.str x.key, AV.str x.val]) from load_box (cs := [AV.int IntKind.i64 x.op, AV.str x.key, AV.str x.val]) (by simp [List.set_append]) rfl)) <| .callG ([AV.agg [AV.int IntKind.i64 x.op, AV.str x.key, AV.str x.val]]) (AV.str (mText x)) (show Gives cfg (140 : FuncId) [encM x] (AV.str (mText x)) from mText_one _ hk hv) ⟨rfl, rfl⟩ ⟨rfl, rfl⟩ <| .append (show appendA (1 : Nat) (16 : Nat) (rowH (Heap.mk (bs ++ [[AV.int IntKind.i64 x.op, AV.str x.key, AV.str x.val]]) [] []) (List.map AV.str acc)) (rowS Heap.nil (List.map AV.str acc)) (AV.sl SK.full [AV.str (mText x)]) = some ((rowS Heap.nil (List.map AV.str (acc ++ [mText x])), rowH (Heap.mk (bs ++ [[AV.int IntKind.i64 x.op, AV.str x.key, AV.str x.val]]) [] []) (List.map AV.str (acc ++ [mText x])))) from row_append_B (by simp; omega) (by exact lenSt) (by rfl) (by rfl)) <| .bin (show binA BinOp.add (AV.int IntKind.i64 (↑i : Int)) (AV.int IntKind.i64 (1 : Int)) = some (AV.int IntKind.i64 (↑(i + (1 : Nat)) : Int)) from inc_i (by omega)) <| .cutQ k139_0 [(1, AV.func (140 : FuncId) []), (5, rowS Heap.nil (List.map AV.str (acc ++ [mText x]))), (11, AV.sl SK.sh (List.map encM l)), (12, AV.int IntKind.i64 (↑l.length : Int)), (13, AV.int IntKind.i64 (↑(i + (1 : Nat)) : Int))] (rowH (Heap.mk (bs ++ [[AV.int IntKind.i64 x.op, AV.str x.key, AV.str x.val]]) [] []) (List.map AV.str (acc ++ [mText x]))) (fun T hT => (ih (i + (1 : Nat)) (acc ++ [mText x]) (bs ++ [[AV.int IntKind.i64 x.op, AV.str x.key, AV.str x.val]]) hnx (by simp; omega) hall2 T hT))) (by kernel_rfl)
theorem mText_any (l : List Term) (hf : fewM l = true) : Gives cfg 68 [.sl .sh (l.map encM)] (.str (textOf mText l)) := by
  have hn := fewM_len hf
  have hf2 : ∀ x ∈ l, x.key.length ≤ 50 ∧ x.val.length ≤ 50 := by
    simp only [fewM, few, Bool.and_eq_true, List.all_eq_true, decide_eq_true_eq] at hf
    exact hf.2
  have hj : (Lib.join (l.map mText) [44]).length ≤ 3000 := join_len _ (by
    intro s hs
    obtain ⟨x, hx, rfl⟩ := List.mem_map.1 hs
    exact mText_len x (hf2 x hx).1 (hf2 x hx).2) (by simpa using hn)
  have hjoin : Gives cfg 139 [.sl .sh (l.map encM), .func 140 []] (.str (textOf mText l)) := by
    refine Gives.run (l139 _ _) ?_
    have h := mText_loop l hn hf2 hj l 0 [] [] rfl rfl rfl
    by_cases hl : l = []
    · subst hl
      exact goG 60 []  trivial  (.len (show lenA false (AV.sl SK.sh []) = some (AV.int IntKind.i64 (↑[].length : Int)) from len_sl _ _) <| .tt <| .fin ((ARes.ret (AV.str [(45 : UInt8)]), Heap.mk [] [] [])) rfl) (by kernel_rfl)
    · have hp : 0 < l.length := List.length_pos_iff.2 hl
      have e : textOf mText l = Lib.join (l.map mText) [44] := by simp [textOf, hl]
      rw [e]
      exact goG 60 []  trivial  (.len (show lenA false (AV.sl SK.sh (List.map encM l)) = some (AV.int IntKind.i64 (↑l.length : Int)) from len_map _) <| .no (show ((↑l.length : Int) == (0 : Int)) = false from beq_eq_false_iff_ne.2 (show ¬ ((↑l.length : Int) = (0 : Int)) from (by omega))) <| .len (show lenA false (AV.sl SK.sh (List.map encM l)) = some (AV.int IntKind.i64 (↑l.length : Int)) from len_map _) <| .cutQ k139_0 [(1, AV.func (140 : FuncId) []), (5, AV.sl SK.full []), (11, AV.sl SK.sh (List.map encM l)), (12, AV.int IntKind.i64 (↑l.length : Int)), (13, AV.int IntKind.i64 (0 : Int))] (Heap.mk [] [] []) (fun T hT => (h T hT))) (by kernel_rfl)
  refine Gives.run (l68 _ _) ?_
  exact goG 60 []  trivial  (.callG ([AV.sl SK.sh (List.map encM l), AV.func (140 : FuncId) []]) (AV.str (textOf mText l)) (show Gives cfg (139 : FuncId) [AV.sl SK.sh (List.map encM l), AV.func (140 : FuncId) []] (AV.str (textOf mText l)) from hjoin) ⟨rfl, rfl⟩ ⟨rfl, rfl⟩ <| .fin ((ARes.ret (AV.str (textOf mText l)), Heap.mk [] [] [])) rfl) (by kernel_rfl)
theorem mText_ref_loop (l : List Term) (hn : l.length ≤ 20) (hf : ∀ x ∈ l, x.key.length ≤ 50 ∧ x.val.length ≤ 50) (ho : ∀ x ∈ l, 1 ≤ x.op ∧ x.op ≤ 4) (hj : (Lib.join (l.map mText) [44]).length ≤ 3000) : ∀ (post : List Term) (i : Nat) (acc : List (List UInt8)) (hd : l.drop i = post) (ha : acc.length = i) (hall : acc ++ post.map mText = l.map mText) (T : Env)
    (hT : Has T [(0, .sl .sh (l.map encM)), (3, rowS Heap.nil (acc.map AV.str)), (4, .int .i64 i)]),
    Goes cfg a70 k70_0 T (rowH Heap.nil (acc.map AV.str)) (IsRet (.str (textOf mText l))) := by
  intro post
  induction post with
  | nil =>
    intro i acc hd ha hall T hT
    have hge := drop_ge hd
    have e : acc = l.map mText := by simpa using hall
    subst e
    have hj2 : Gives cfg 142 [.sl .sh ((l.map mText).map AV.str)] (.str (textOf mText l)) := by
      have := joined_any (l.map mText) (by simpa using hn) hj
      cases l with
      | nil => exact this
      | cons => simpa [textOf] using this
    exact goG 60 _  hT  (.len (show lenA false (AV.sl SK.sh (List.map encM l)) = some (AV.int IntKind.i64 (↑l.length : Int)) from len_map _) <| .no (show (decide ((↑i : Int) < (↑l.length : Int))) = false from decide_eq_false (show ¬ ((↑i : Int) < (↑l.length : Int)) from (by simp; omega))) <| .callG ([rowS Heap.nil (List.map AV.str (List.map mText l))]) (AV.str (textOf mText l)) (show Gives cfg (142 : FuncId) [AV.sl SK.sh (List.map AV.str (List.map mText l))] (AV.str (textOf mText l)) from hj2) Shuts.p ⟨rfl, rfl⟩ <| .fin ((ARes.ret (AV.str (textOf mText l)), rowH Heap.nil (List.map AV.str (List.map mText l)))) rfl) (by kernel_rfl)
  | cons x post ih =>
    intro i acc hd ha hall T hT
    have hlt := drop_lt hd
    have hnx := drop_next hd
    obtain ⟨hk, hv⟩ := hf x (drop_mem hd)
    have hox := ho x (drop_mem hd)
    have hall2 : (acc ++ [mText x]) ++ post.map mText = l.map mText := by rw [← hall]; simp
    exact goG 90 _  hT  (.len (show lenA false (AV.sl SK.sh (List.map encM l)) = some (AV.int IntKind.i64 (↑l.length : Int)) from len_map _) <| .yes (show (decide ((↑i : Int) < (↑l.length : Int))) = true from decide_eq_true (show (↑i : Int) < (↑l.length : Int) from (by simp; omega))) <| .idx (show idxA (3 : Nat) (AV.sl SK.sh (List.map encM l)) (AV.int IntKind.i64 (↑i : Int)) = some (AV.ref (encM x).cells) from idx_row hd (by rfl)) <| .load (row_load (ys := List.map AV.str acc) (show loadA false (1 : Nat) Heap.nil (AV.ref [AV.int IntKind.i64 x.op]) = some (AV.int IntKind.i64 x.op) from rfl)) <| .split (x.op = (1 : Int)) (fun g1 => .yes (show (x.op == (1 : Int)) = true from beq_iff_eq.2 (show x.op = (1 : Int) from g1)) <| .idx (show idxA (3 : Nat) (AV.sl SK.sh (List.map encM l)) (AV.int IntKind.i64 (↑i : Int)) = some (AV.ref (encM x).cells) from idx_row hd (by rfl)) <| .load (row_load (ys := List.map AV.str acc) (show loadA false (1 : Nat) Heap.nil (AV.ref [AV.str x.key]) = some (AV.str x.key) from rfl)) <| .bin (show binA BinOp.add (AV.str x.key) (AV.str [(58 : UInt8)]) = some (AV.str (x.key ++ [(58 : UInt8)])) from str_add (by simp; omega)) <| .idx (show idxA (3 : Nat) (AV.sl SK.sh (List.map encM l)) (AV.int IntKind.i64 (↑i : Int)) = some (AV.ref (encM x).cells) from idx_row hd (by rfl)) <| .load (row_load (ys := List.map AV.str acc) (show loadA false (1 : Nat) Heap.nil (AV.ref [AV.str x.val]) = some (AV.str x.val) from rfl)) <| .bin (show binA BinOp.add (AV.str (x.key ++ [(58 : UInt8)])) (AV.str x.val) = some (AV.str (x.key ++ [(58 : UInt8)] ++ x.val)) from str_add (by simp; omega)) <| .append (show appendA (1 : Nat) (16 : Nat) (rowH Heap.nil (List.map AV.str acc)) (rowS Heap.nil (List.map AV.str acc)) (AV.sl SK.full [AV.str (x.key ++ [(58 : UInt8)] ++ x.val)]) = some ((rowS Heap.nil (List.map AV.str (acc ++ [x.key ++ [(58 : UInt8)] ++ x.val])), rowH Heap.nil (List.map AV.str (acc ++ [x.key ++ [(58 : UInt8)] ++ x.val])))) from row_append_map (by simp; omega) (by exact lenSt) (by rfl) (by rfl)) <| .bin (show binA BinOp.add (AV.int IntKind.i64 (↑i : Int)) (AV.int IntKind.i64 (1 : Int)) = some (AV.int IntKind.i64 (↑(i + (1 : Nat)) : Int)) from inc_i (by omega)) <| .cutQ k70_0 [(0, AV.sl SK.sh (List.map encM l)), (3, rowS Heap.nil (List.map AV.str (acc ++ [x.key ++ [(58 : UInt8)] ++ x.val]))), (4, AV.int IntKind.i64 (↑(i + (1 : Nat)) : Int))] (rowH Heap.nil (List.map AV.str (acc ++ [x.key ++ [(58 : UInt8)] ++ x.val]))) (fun T hT => (ih (i + (1 : Nat)) (acc ++ [x.key ++ [(58 : UInt8)] ++ x.val]) hnx (by simp; omega) (by refine Eq.trans ?_ hall2; clear hall hall2 ih hT hj hf; simp [mText, *]) T hT))) (fun g1 => .no (show (x.op == (1 : Int)) = false from beq_eq_false_iff_ne.2 (show ¬ (x.op = (1 : Int)) from g1)) <| .split (x.op = (2 : Int)) (fun g2 => .yes (show (x.op == (2 : Int)) = true from beq_iff_eq.2 (show x.op = (2 : Int) from g2)) <| .idx (show idxA (3 : Nat) (AV.sl SK.sh (List.map encM l)) (AV.int IntKind.i64 (↑i : Int)) = some (AV.ref (encM x).cells) from idx_row hd (by rfl)) <| .load (row_load (ys := List.map AV.str acc) (show loadA false (1 : Nat) Heap.nil (AV.ref [AV.str x.key]) = some (AV.str x.key) from rfl)) <| .bin (show binA BinOp.add (AV.str x.key) (AV.str [(33 : UInt8)]) = some (AV.str (x.key ++ [(33 : UInt8)])) from str_add (by simp; omega)) <| .idx (show idxA (3 : Nat) (AV.sl SK.sh (List.map encM l)) (AV.int IntKind.i64 (↑i : Int)) = some (AV.ref (encM x).cells) from idx_row hd (by rfl)) <| .load (row_load (ys := List.map AV.str acc) (show loadA false (1 : Nat) Heap.nil (AV.ref [AV.str x.val]) = some (AV.str x.val) from rfl)) <| .bin (show binA BinOp.add (AV.str (x.key ++ [(33 : UInt8)])) (AV.str x.val) = some (AV.str (x.key ++ [(33 : UInt8)] ++ x.val)) from str_add (by simp; omega)) <| .append (show appendA (1 : Nat) (16 : Nat) (rowH Heap.nil (List.map AV.str acc)) (rowS Heap.nil (List.map AV.str acc)) (AV.sl SK.full [AV.str (x.key ++ [(33 : UInt8)] ++ x.val)]) = some ((rowS Heap.nil (List.map AV.str (acc ++ [x.key ++ [(33 : UInt8)] ++ x.val])), rowH Heap.nil (List.map AV.str (acc ++ [x.key ++ [(33 : UInt8)] ++ x.val])))) from row_append_map (by simp; omega) (by exact lenSt) (by rfl) (by rfl)) <| .bin (show binA BinOp.add (AV.int IntKind.i64 (↑i : Int)) (AV.int IntKind.i64 (1 : Int)) = some (AV.int IntKind.i64 (↑(i + (1 : Nat)) : Int)) from inc_i (by omega)) <| .cutQ k70_0 [(0, AV.sl SK.sh (List.map encM l)), (3, rowS Heap.nil (List.map AV.str (acc ++ [x.key ++ [(33 : UInt8)] ++ x.val]))), (4, AV.int IntKind.i64 (↑(i + (1 : Nat)) : Int))] (rowH Heap.nil (List.map AV.str (acc ++ [x.key ++ [(33 : UInt8)] ++ x.val]))) (fun T hT => (ih (i + (1 : Nat)) (acc ++ [x.key ++ [(33 : UInt8)] ++ x.val]) hnx (by simp; omega) (by refine Eq.trans ?_ hall2; clear hall hall2 ih hT hj hf; simp [mText, *]) T hT))) (fun g2 => .no (show (x.op == (2 : Int)) = false from beq_eq_false_iff_ne.2 (show ¬ (x.op = (2 : Int)) from g2)) <| .split (x.op = (3 : Int)) (fun g3 => .yes (show (x.op == (3 : Int)) = true from beq_iff_eq.2 (show x.op = (3 : Int) from g3)) <| .idx (show idxA (3 : Nat) (AV.sl SK.sh (List.map encM l)) (AV.int IntKind.i64 (↑i : Int)) = some (AV.ref (encM x).cells) from idx_row hd (by rfl)) <| .load (row_load (ys := List.map AV.str acc) (show loadA false (1 : Nat) Heap.nil (AV.ref [AV.str x.key]) = some (AV.str x.key) from rfl)) <| .append (show appendA (1 : Nat) (16 : Nat) (rowH Heap.nil (List.map AV.str acc)) (rowS Heap.nil (List.map AV.str acc)) (AV.sl SK.full [AV.str x.key]) = some ((rowS Heap.nil (List.map AV.str (acc ++ [x.key])), rowH Heap.nil (List.map AV.str (acc ++ [x.key])))) from row_append_map (by simp; omega) (by exact lenSt) (by rfl) (by rfl)) <| .bin (show binA BinOp.add (AV.int IntKind.i64 (↑i : Int)) (AV.int IntKind.i64 (1 : Int)) = some (AV.int IntKind.i64 (↑(i + (1 : Nat)) : Int)) from inc_i (by omega)) <| .cutQ k70_0 [(0, AV.sl SK.sh (List.map encM l)), (3, rowS Heap.nil (List.map AV.str (acc ++ [x.key]))), (4, AV.int IntKind.i64 (↑(i + (1 : Nat)) : Int))] (rowH Heap.nil (List.map AV.str (acc ++ [x.key]))) (fun T hT => (ih (i + (1 : Nat)) (acc ++ [x.key]) hnx (by simp; omega) (by refine Eq.trans ?_ hall2; clear hall hall2 ih hT hj hf; simp [mText, *]) T hT))) (fun g3 => .no (show (x.op == (3 : Int)) = false from beq_eq_false_iff_ne.2 (show ¬ (x.op = (3 : Int)) from g3)) <| .yes (show (x.op == (4 : Int)) = true from beq_iff_eq.2 (show x.op = (4 : Int) from (by omega))) <| .idx (show idxA (3 : Nat) (AV.sl SK.sh (List.map encM l)) (AV.int IntKind.i64 (↑i : Int)) = some (AV.ref (encM x).cells) from idx_row hd (by rfl)) <| .load (row_load (ys := List.map AV.str acc) (show loadA false (1 : Nat) Heap.nil (AV.ref [AV.str x.key]) = some (AV.str x.key) from rfl)) <| .bin (show binA BinOp.add (AV.str [(45 : UInt8)]) (AV.str x.key) = some (AV.str ([(45 : UInt8)] ++ x.key)) from str_add (by simp; omega)) <| .append (show appendA (1 : Nat) (16 : Nat) (rowH Heap.nil (List.map AV.str acc)) (rowS Heap.nil (List.map AV.str acc)) (AV.sl SK.full [AV.str ((45 : UInt8) :: x.key)]) = some ((rowS Heap.nil (List.map AV.str (acc ++ [(45 : UInt8) :: x.key])), rowH Heap.nil (List.map AV.str (acc ++ [(45 : UInt8) :: x.key])))) from row_append_map (by simp; omega) (by exact lenSt) (by rfl) (by rfl)) <| .bin (show binA BinOp.add (AV.int IntKind.i64 (↑i : Int)) (AV.int IntKind.i64 (1 : Int)) = some (AV.int IntKind.i64 (↑(i + (1 : Nat)) : Int)) from inc_i (by omega)) <| .cutQ k70_0 [(0, AV.sl SK.sh (List.map encM l)), (3, rowS Heap.nil (List.map AV.str (acc ++ [(45 : UInt8) :: x.key]))), (4, AV.int IntKind.i64 (↑(i + (1 : Nat)) : Int))] (rowH Heap.nil (List.map AV.str (acc ++ [(45 : UInt8) :: x.key]))) (fun T hT => (ih (i + (1 : Nat)) (acc ++ [(45 : UInt8) :: x.key]) hnx (by simp; omega) (by have e4 : x.op = 4 := (by omega); refine Eq.trans ?_ hall2; clear hall hall2 ih hT hj hf; simp [mText, e4]) T hT)))))) (by kernel_rfl)
theorem mText_ref (l : List Term) (hf : fewM l = true) (ho : ∀ x ∈ l, 1 ≤ x.op ∧ x.op ≤ 4) : Gives cfg 70 [.sl .sh (l.map encM)] (.str (textOf mText l)) := by
  have hn := fewM_len hf
  have hf2 : ∀ x ∈ l, x.key.length ≤ 50 ∧ x.val.length ≤ 50 := by
    simp only [fewM, few, Bool.and_eq_true, List.all_eq_true, decide_eq_true_eq] at hf
    exact hf.2
  have hj : (Lib.join (l.map mText) [44]).length ≤ 3000 := join_len _ (by
    intro s hs
    obtain ⟨x, hx, rfl⟩ := List.mem_map.1 hs
    exact mText_len x (hf2 x hx).1 (hf2 x hx).2) (by simpa using hn)
  refine Gives.run (l70 _ _) ?_
  have h := mText_ref_loop l hn hf2 ho hj l 0 [] rfl rfl rfl
  exact goG 60 []  trivial  (.cutQ k70_0 [(0, AV.sl SK.sh (List.map encM l)), (3, AV.sl SK.full []), (4, AV.int IntKind.i64 (0 : Int))] (Heap.mk [] [] []) (fun T hT => (h T hT))) (by kernel_rfl)
end Go.Aa.T

set_option linter.unusedVariables false
set_option linter.unusedSimpArgs false
set_option maxRecDepth 100000
namespace Go.Aa.T
open Go.Aa Go.Proofs



end Go.Aa.T

set_option linter.unusedVariables false
set_option linter.unusedSimpArgs false
set_option maxRecDepth 100000
namespace Go.Aa.T
open Go.Aa Go.Proofs
def goodM (x : Term) : Bool := decide (1 ≤ x.op ∧ x.op ≤ 4) && (isName x.key && valOk x)

end Go.Aa.T

set_option linter.unusedVariables false
set_option linter.unusedSimpArgs false
set_option maxRecDepth 100000
namespace Go.Aa.T
open Go.Aa Go.Proofs
def parts (c : UInt8) : List UInt8 → List (List UInt8)
  | [] => [[]]
  | b :: r => if b = c then [] :: parts c r else match parts c r with
    | [] => [[b]]
    | x :: xs => (b :: x) :: xs
section
variable {α : Type} (o0 o1 o2 o3 : α → List AV) (tk : α → List Nat) (rc : LRec) (v : AV) (I : α → Nat → Prop)
def hS (a : α) (rest : List UInt8) : Heap := ⟨[o0 a, o1 a, o2 a, o3 a, [.str rest], [.str [44]], [.int .i64 0]], tk a, [rc]⟩
def hB (a : α) (rest : List UInt8) : Heap := ⟨[o0 a, o1 a, o2 a, o3 a, [.str rest], [.str [44]], [.int .i64 0]], tk a, [{ rc with busy := true }]⟩
end
end Go.Aa.T

set_option linter.unusedVariables false
set_option linter.unusedSimpArgs false
set_option maxRecDepth 100000
namespace Go.Aa.T
open Go.Aa Go.Proofs
def skF {X : Type} : List X → SK
  | [] => .full
  | _ :: _ => .own 0
instance {X : Type} (l : List X) (xs : List AV) : Shut (.sl (skF l) xs) (.sl .sh xs) := ⟨by cases l <;> exact ⟨rfl, rfl⟩⟩
section
variable {X : Type} (enc : X → AV)
def tkR (acc : List X) : List Nat := (rowH Heap.nil (acc.map enc)).toks
def rowF (l : List X) : AV := .sl (skF l) (l.map enc)
instance (l : List X) : Shut (rowF enc l) (.sl .sh (l.map enc)) := ⟨by cases l <;> exact ⟨rfl, rfl⟩⟩
theorem rowF_eq (l : List X) : rowF enc l = rowS Heap.nil (l.map enc) := by cases l <;> rfl
theorem row_append_T {x : X} {es bytes : Nat} {bs : List (List AV)} {ls : List LRec} {ys : List X} (h : ((ys.map enc).length + 1) * bytes ≤ 140737488355328) (hl : lenOk es (ys.map enc) = true) (hv : cellsN es (enc x) = true) (hd : dataOk [enc x] = true) :
    appendA es bytes ⟨bs, tkR enc ys, ls⟩ (rowF enc ys) (.sl .full [enc x]) = some (rowF enc (ys ++ [x]), ⟨bs, tkR enc (ys ++ [x]), ls⟩) := by
  rw [rowF_eq, rowF_eq]
  have hh := row_append_map (f := enc) (x := x) (H := Heap.nil) h hl hv hd
  cases ys with
  | nil =>
    simp only [rowS, rowH, List.map_nil, List.nil_append, List.map_cons, tkR, Heap.nil] at hh ⊢
    simp only [appendA] at hh ⊢
    split at hh
    · rename_i hc; rw [if_pos hc]; rfl
    · cases hh
  | cons y ys =>
    simp only [rowS, rowH, List.cons_append, List.map_cons, tkR, Heap.nil] at hh ⊢
    simp only [appendA] at hh ⊢
    split at hh
    · rename_i hc
      rw [if_pos hc]
      split at hh
      · rename_i hc2
        rw [if_pos hc2]
        simp only [Option.some.injEq, Prod.mk.injEq, Heap.mk.injEq, true_and, and_true] at hh ⊢
        exact hh
      · cases hh
    · cases hh
end

section
variable (s0 : List UInt8)
end

section
variable (s0 : List UInt8)
end

section
variable (s0 : List UInt8)
end

section
variable (s0 : List UInt8)
end
end Go.Aa.T

set_option linter.unusedVariables false
set_option linter.unusedSimpArgs false
set_option maxRecDepth 100000
namespace Go.Aa.T
open Go.Aa Go.Proofs

section
variable {H : Heap} {k : Nat} {p : Taint → Bool}
end


end Go.Aa.T

set_option linter.unusedVariables false
set_option linter.unusedSimpArgs false
set_option maxRecDepth 100000
namespace Go.Aa.T
open Go.Aa Go.Proofs



theorem get2_loop (s : List Pair) (k : List UInt8) (hn : s.length < 9223372036854775807) : ∀ (post : List Pair) (i : Nat) (hd : s.drop i = post) (T : Env) (hT : Has T [(0, .sl .sh (s.map encP)), (1, .str k), (6, .int .i64 i)]),
    Goes cfg a188 k188_0 T Heap.nil (IsRet (getV (getP post k))) := by
  intro post
  induction post with
  | nil =>
    intro i hd T hT
    have hge := drop_ge hd
    exact goG 60 _  hT  (.len (show lenA false (AV.sl SK.sh (List.map encP s)) = some (AV.int IntKind.i64 (↑s.length : Int)) from len_map _) <| .no (show (decide ((↑i : Int) < (↑s.length : Int))) = false from decide_eq_false (show ¬ ((↑i : Int) < (↑s.length : Int)) from (by omega))) <| .fin ((ARes.ret (AV.tuple [AV.str [], AV.bool false]), { boxes := [], toks := [], loops := [] : Heap })) rfl) (by kernel_rfl)
  | cons x post ih =>
    intro i hd T hT
    have hlt := drop_lt hd
    have hnx := drop_next hd
    exact goG 60 _  hT  (.len (show lenA false (AV.sl SK.sh (List.map encP s)) = some (AV.int IntKind.i64 (↑s.length : Int)) from len_map _) <| .yes (show (decide ((↑i : Int) < (↑s.length : Int))) = true from decide_eq_true (show (↑i : Int) < (↑s.length : Int) from (by omega))) <| .idx (show idxA (2 : Nat) (AV.sl SK.sh (List.map encP s)) (AV.int IntKind.i64 (↑i : Int)) = some (AV.ref (encP x).cells) from idx_row hd (by rfl)) <| .split ((x.key == k) = true) (fun h1 => .yes (show (x.key == k) = true from h1) <| .idx (show idxA (2 : Nat) (AV.sl SK.sh (List.map encP s)) (AV.int IntKind.i64 (↑i : Int)) = some (AV.ref (encP x).cells) from idx_row hd (by rfl)) <| .fin ((ARes.ret (AV.tuple [AV.str x.val, AV.bool true]), { boxes := [], toks := [], loops := [] : Heap })) (by simp only [IsRet]; grind [getP, getV])) (fun h1 => .no (show (x.key == k) = false from Bool.eq_false_iff.2 (show ¬ ((x.key == k) = true) from h1)) <| .bin (show binA BinOp.add (AV.int IntKind.i64 (↑i : Int)) (AV.int IntKind.i64 (1 : Int)) = some (AV.int IntKind.i64 (↑(i + (1 : Nat)) : Int)) from inc_i (by omega)) <| .cutQ k188_0 [(0, AV.sl SK.sh (List.map encP s)), (1, AV.str k), (6, AV.int IntKind.i64 (↑(i + (1 : Nat)) : Int))] ({ boxes := [], toks := [], loops := [] : Heap }) (fun T hT => (ih (i + (1 : Nat)) hnx T hT).to (by grind [getP, getV])))) (by kernel_rfl)
theorem get2 (s : List Pair) (k : List UInt8) (hn : s.length < 9223372036854775807) : Gives cfg 188 [.sl .sh (s.map encP), .str k] (getV (getP s k)) := by
  refine Gives.run (l188 _ _) ?_
  have h := get2_loop s k hn s 0 rfl
  exact goG 60 []  trivial  (.cutQ k188_0 [(0, AV.sl SK.sh (List.map encP s)), (1, AV.str k), (6, AV.int IntKind.i64 (0 : Int))] ({ boxes := [], toks := [], loops := [] : Heap }) (fun T hT => (h T hT))) (by kernel_rfl)
theorem match2_loop (s : List Pair) (l : List Term) (hs : s.length < 9223372036854775807) (hn : l.length < 9223372036854775807) : ∀ (post : List Term) (i : Nat) (hd : l.drop i = post) (T : Env)
    (hT : Has T [(0, .sl .sh (l.map encM)), (1, .sl .sh (s.map encP)), (5, .int .i64 i)]),
    Goes cfg a138 k138_0 T Heap.nil (IsRet (.bool (matchB s post))) := by
  intro post
  induction post with
  | nil =>
    intro i hd T hT
    have hge := drop_ge hd
    exact goG 60 _  hT  (.len (show lenA false (AV.sl SK.sh (List.map encM l)) = some (AV.int IntKind.i64 (↑l.length : Int)) from len_map _) <| .no (show (decide ((↑i : Int) < (↑l.length : Int))) = false from decide_eq_false (show ¬ ((↑i : Int) < (↑l.length : Int)) from (by omega))) <| .fin ((ARes.ret (AV.bool true), { boxes := [], toks := [], loops := [] : Heap })) rfl) (by kernel_rfl)
  | cons x post ih =>
    intro i hd T hT
    have hlt := drop_lt hd
    have hnx := drop_next hd
    have e : matchB s (x :: post) = (holdsB s x && matchB s post) := rfl
    cases hg : getP s x.key with
    | none =>
      have hgg : Gives cfg 188 [.sl .sh (s.map encP), .str x.key] (.tuple [.str [], .bool false]) := by
        have := get2 s x.key hs
        rwa [hg] at this
      exact goG 120 _  hT  (.len (show lenA false (AV.sl SK.sh (List.map encM l)) = some (AV.int IntKind.i64 (↑l.length : Int)) from len_map _) <| .yes (show (decide ((↑i : Int) < (↑l.length : Int))) = true from decide_eq_true (show (↑i : Int) < (↑l.length : Int) from (by omega))) <| .idx (show idxA (3 : Nat) (AV.sl SK.sh (List.map encM l)) (AV.int IntKind.i64 (↑i : Int)) = some (AV.ref (encM x).cells) from idx_row hd (by rfl)) <| .callG ([AV.sl SK.sh (List.map encP s), AV.str x.key]) (AV.tuple [AV.str [], AV.bool false]) (show Gives cfg (188 : FuncId) [AV.sl SK.sh (List.map encP s), AV.str x.key] (AV.tuple [AV.str [], AV.bool false]) from hgg) ⟨rfl, rfl⟩ ⟨rfl, rfl⟩ <| .idx (show idxA (3 : Nat) (AV.sl SK.sh (List.map encM l)) (AV.int IntKind.i64 (↑i : Int)) = some (AV.ref (encM x).cells) from idx_row hd (by rfl)) <| .split ((x.op == (1 : Int)) = true) (fun h1 => .yes (show (x.op == (1 : Int)) = true from h1) <| .ff <| .tt <| .fin ((ARes.ret (AV.bool false), { boxes := [], toks := [], loops := [] : Heap })) (by simp only [IsRet]; grind [holdsB])) (fun h1 => .no (show (x.op == (1 : Int)) = false from Bool.eq_false_iff.2 (show ¬ ((x.op == (1 : Int)) = true) from h1)) <| .split ((x.op == (2 : Int)) = true) (fun h2 => .yes (show (x.op == (2 : Int)) = true from h2) <| .tt <| .ff <| .bin (show binA BinOp.add (AV.int IntKind.i64 (↑i : Int)) (AV.int IntKind.i64 (1 : Int)) = some (AV.int IntKind.i64 (↑(i + (1 : Nat)) : Int)) from inc_i (by omega)) <| .cutQ k138_0 [(0, AV.sl SK.sh (List.map encM l)), (1, AV.sl SK.sh (List.map encP s)), (5, AV.int IntKind.i64 (↑(i + (1 : Nat)) : Int))] ({ boxes := [], toks := [], loops := [] : Heap }) (fun T hT => (ih (i + (1 : Nat)) hnx T hT).to (by grind [holdsB]))) (fun h2 => .no (show (x.op == (2 : Int)) = false from Bool.eq_false_iff.2 (show ¬ ((x.op == (2 : Int)) = true) from h2)) <| .split ((x.op == (3 : Int)) = true) (fun h3 => .yes (show (x.op == (3 : Int)) = true from h3) <| .tt <| .fin ((ARes.ret (AV.bool false), { boxes := [], toks := [], loops := [] : Heap })) (by simp only [IsRet]; grind [holdsB])) (fun h3 => .no (show (x.op == (3 : Int)) = false from Bool.eq_false_iff.2 (show ¬ ((x.op == (3 : Int)) = true) from h3)) <| .split ((x.op == (4 : Int)) = true) (fun h4 => .yes (show (x.op == (4 : Int)) = true from h4) <| .ff <| .bin (show binA BinOp.add (AV.int IntKind.i64 (↑i : Int)) (AV.int IntKind.i64 (1 : Int)) = some (AV.int IntKind.i64 (↑(i + (1 : Nat)) : Int)) from inc_i (by omega)) <| .cutQ k138_0 [(0, AV.sl SK.sh (List.map encM l)), (1, AV.sl SK.sh (List.map encP s)), (5, AV.int IntKind.i64 (↑(i + (1 : Nat)) : Int))] ({ boxes := [], toks := [], loops := [] : Heap }) (fun T hT => (ih (i + (1 : Nat)) hnx T hT).to (by grind [holdsB]))) (fun h4 => .no (show (x.op == (4 : Int)) = false from Bool.eq_false_iff.2 (show ¬ ((x.op == (4 : Int)) = true) from h4)) <| .tt <| .fin ((ARes.ret (AV.bool false), { boxes := [], toks := [], loops := [] : Heap })) (by simp only [IsRet]; grind [holdsB])))))) (by kernel_rfl)
    | some v =>
      have hgg : Gives cfg 188 [.sl .sh (s.map encP), .str x.key] (.tuple [.str v, .bool true]) := by
        have := get2 s x.key hs
        rwa [hg] at this
      exact goG 120 _  hT  (.len (show lenA false (AV.sl SK.sh (List.map encM l)) = some (AV.int IntKind.i64 (↑l.length : Int)) from len_map _) <| .yes (show (decide ((↑i : Int) < (↑l.length : Int))) = true from decide_eq_true (show (↑i : Int) < (↑l.length : Int) from (by omega))) <| .idx (show idxA (3 : Nat) (AV.sl SK.sh (List.map encM l)) (AV.int IntKind.i64 (↑i : Int)) = some (AV.ref (encM x).cells) from idx_row hd (by rfl)) <| .callG ([AV.sl SK.sh (List.map encP s), AV.str x.key]) (AV.tuple [AV.str v, AV.bool true]) (show Gives cfg (188 : FuncId) [AV.sl SK.sh (List.map encP s), AV.str x.key] (AV.tuple [AV.str v, AV.bool true]) from hgg) ⟨rfl, rfl⟩ ⟨rfl, rfl⟩ <| .idx (show idxA (3 : Nat) (AV.sl SK.sh (List.map encM l)) (AV.int IntKind.i64 (↑i : Int)) = some (AV.ref (encM x).cells) from idx_row hd (by rfl)) <| .split ((x.op == (1 : Int)) = true) (fun h1 => .yes (show (x.op == (1 : Int)) = true from h1) <| .tt <| .idx (show idxA (3 : Nat) (AV.sl SK.sh (List.map encM l)) (AV.int IntKind.i64 (↑i : Int)) = some (AV.ref (encM x).cells) from idx_row hd (by rfl)) <| .split ((v == x.val) = true) (fun h2 => .no (show (!v == x.val) = false from by have hh : (v == x.val) = true := h2; simp [hh]) <| .bin (show binA BinOp.add (AV.int IntKind.i64 (↑i : Int)) (AV.int IntKind.i64 (1 : Int)) = some (AV.int IntKind.i64 (↑(i + (1 : Nat)) : Int)) from inc_i (by omega)) <| .cutQ k138_0 [(0, AV.sl SK.sh (List.map encM l)), (1, AV.sl SK.sh (List.map encP s)), (5, AV.int IntKind.i64 (↑(i + (1 : Nat)) : Int))] ({ boxes := [], toks := [], loops := [] : Heap }) (fun T hT => (ih (i + (1 : Nat)) hnx T hT).to (by grind [holdsB]))) (fun h2 => .yes (show (!v == x.val) = true from by have hh : ¬ ((v == x.val) = true) := h2; simp [hh]) <| .fin ((ARes.ret (AV.bool false), { boxes := [], toks := [], loops := [] : Heap })) (by simp only [IsRet]; grind [holdsB]))) (fun h1 => .no (show (x.op == (1 : Int)) = false from Bool.eq_false_iff.2 (show ¬ ((x.op == (1 : Int)) = true) from h1)) <| .split ((x.op == (2 : Int)) = true) (fun h2 => .yes (show (x.op == (2 : Int)) = true from h2) <| .ff <| .idx (show idxA (3 : Nat) (AV.sl SK.sh (List.map encM l)) (AV.int IntKind.i64 (↑i : Int)) = some (AV.ref (encM x).cells) from idx_row hd (by rfl)) <| .split ((v == x.val) = true) (fun h3 => .yes (show (!!v == x.val) = true from by have hh : (v == x.val) = true := h3; simp [hh]) <| .fin ((ARes.ret (AV.bool false), { boxes := [], toks := [], loops := [] : Heap })) (by simp only [IsRet]; grind [holdsB])) (fun h3 => .no (show (!!v == x.val) = false from by have hh : ¬ ((v == x.val) = true) := h3; simp [hh]) <| .bin (show binA BinOp.add (AV.int IntKind.i64 (↑i : Int)) (AV.int IntKind.i64 (1 : Int)) = some (AV.int IntKind.i64 (↑(i + (1 : Nat)) : Int)) from inc_i (by omega)) <| .cutQ k138_0 [(0, AV.sl SK.sh (List.map encM l)), (1, AV.sl SK.sh (List.map encP s)), (5, AV.int IntKind.i64 (↑(i + (1 : Nat)) : Int))] ({ boxes := [], toks := [], loops := [] : Heap }) (fun T hT => (ih (i + (1 : Nat)) hnx T hT).to (by grind [holdsB])))) (fun h2 => .no (show (x.op == (2 : Int)) = false from Bool.eq_false_iff.2 (show ¬ ((x.op == (2 : Int)) = true) from h2)) <| .split ((x.op == (3 : Int)) = true) (fun h3 => .yes (show (x.op == (3 : Int)) = true from h3) <| .ff <| .bin (show binA BinOp.add (AV.int IntKind.i64 (↑i : Int)) (AV.int IntKind.i64 (1 : Int)) = some (AV.int IntKind.i64 (↑(i + (1 : Nat)) : Int)) from inc_i (by omega)) <| .cutQ k138_0 [(0, AV.sl SK.sh (List.map encM l)), (1, AV.sl SK.sh (List.map encP s)), (5, AV.int IntKind.i64 (↑(i + (1 : Nat)) : Int))] ({ boxes := [], toks := [], loops := [] : Heap }) (fun T hT => (ih (i + (1 : Nat)) hnx T hT).to (by grind [holdsB]))) (fun h3 => .no (show (x.op == (3 : Int)) = false from Bool.eq_false_iff.2 (show ¬ ((x.op == (3 : Int)) = true) from h3)) <| .split ((x.op == (4 : Int)) = true) (fun h4 => .yes (show (x.op == (4 : Int)) = true from h4) <| .tt <| .fin ((ARes.ret (AV.bool false), { boxes := [], toks := [], loops := [] : Heap })) (by simp only [IsRet]; grind [holdsB])) (fun h4 => .no (show (x.op == (4 : Int)) = false from Bool.eq_false_iff.2 (show ¬ ((x.op == (4 : Int)) = true) from h4)) <| .tt <| .fin ((ARes.ret (AV.bool false), { boxes := [], toks := [], loops := [] : Heap })) (by simp only [IsRet]; grind [holdsB])))))) (by kernel_rfl)
theorem match2 (s : List Pair) (l : List Term) (hs : s.length < 9223372036854775807) (hn : l.length < 9223372036854775807) : Gives cfg 138 [.sl .sh (l.map encM), .sl .sh (s.map encP)] (.bool (matchB s l)) := by
  refine Gives.run (l138 _ _) ?_
  have h := match2_loop s l hs hn l 0 rfl
  exact goG 60 []  trivial  (.cutQ k138_0 [(0, AV.sl SK.sh (List.map encM l)), (1, AV.sl SK.sh (List.map encP s)), (5, AV.int IntKind.i64 (0 : Int))] ({ boxes := [], toks := [], loops := [] : Heap }) (fun T hT => (h T hT))) (by kernel_rfl)
end Go.Aa.T

set_option linter.unusedVariables false
set_option linter.unusedSimpArgs false
set_option maxRecDepth 100000
namespace Go.Aa.T
open Go.Aa Go.Proofs
section
variable {X : Type} {pf : List UInt8 → Option X} {text : X → List UInt8} {ck : List X → Int}
end

theorem ckMl_good : ∀ (post : List Term), ckMl post = 0 → ∀ x ∈ post, goodM x = true
  | [], _ => by simp
  | x :: post, h => by
    unfold ckMl at h
    split at h
    · rename_i ho
      split at h
      · rename_i hg
        intro y hy
        rcases List.mem_cons.1 hy with rfl | hy
        · simp only [goodM, Bool.and_eq_true, decide_eq_true_eq] at hg ⊢
          exact ⟨ho, hg⟩
        · exact ckMl_good post h y hy
      · cases h
    · cases h
theorem ckM_good {l : List Term} (h : ckM l = 0) : ∀ x ∈ l, goodM x = true := by
  unfold ckM at h
  split at h
  · exact ckMl_good l h
  · cases h
end Go.Aa.T

set_option linter.unusedVariables false
set_option linter.unusedSimpArgs false
set_option maxRecDepth 100000
namespace Go.Aa.T
open Go.Aa Go.Proofs

end Go.Aa.T

set_option linter.unusedVariables false
set_option linter.unusedSimpArgs false
set_option maxRecDepth 100000
namespace Go.Aa.T
open Go.Aa Go.Proofs

end Go.Aa.T

set_option linter.unusedVariables false
set_option linter.unusedSimpArgs false
set_option maxRecDepth 100000
namespace Go.Aa.T
open Go.Aa Go.Proofs


end Go.Aa.T

set_option linter.unusedVariables false
set_option linter.unusedSimpArgs false
set_option maxRecDepth 100000
namespace Go.Aa.T
open Go.Aa Go.Proofs

end Go.Aa.T

set_option linter.unusedVariables false
set_option linter.unusedSimpArgs false
set_option maxRecDepth 100000
namespace Go.Aa.T
open Go.Aa Go.Proofs
structure Amount where
  name : List UInt8
  n : Int
def encA (x : Amount) : AV := .agg [.str x.name, .int .i64 x.n]
instance (x : Amount) : Dat (encA x) := ⟨rfl, rfl⟩
def ordV (s : List Amount) (i : Nat) (x : Amount) : Bool := match i with
  | 0 => false
  | j + 1 => match s[j]? with
    | some p => Op.bytesLess x.name p.name || x.name == p.name
    | none => false
def ckVl (s : List Amount) : Nat → List Amount → Int
  | _, [] => 0
  | i, x :: post => if isName x.name then (if x.n ≤ 0 then 1 else if ordV s i x then 13 else ckVl s (i + 1) post) else 3
def ckV (s : List Amount) : Int := if s.length ≤ 8 then ckVl s 0 s else 4
theorem ckV_ref_loop (l : List Amount) (hn : l.length ≤ 8) : ∀ (post : List Amount) (i : Nat) (hd : l.drop i = post) (T : Env) (hT : Has T [(0, .sl .sh (l.map encA)), (3, .int .i64 i)]),
    Goes cfg a77 k77_0 T Heap.nil (IsRet (.int .i64 (ckVl l i post))) := by
  intro post
  induction post with
  | nil =>
    intro i hd T hT
    have hge := drop_ge hd
    exact goG 60 _  hT  (.len (show lenA false (AV.sl SK.sh (List.map encA l)) = some (AV.int IntKind.i64 (↑l.length : Int)) from len_map _) <| .no (show (decide ((↑i : Int) < (↑l.length : Int))) = false from decide_eq_false (show ¬ ((↑i : Int) < (↑l.length : Int)) from (by omega))) <| .fin ((ARes.ret (AV.int IntKind.i64 (0 : Int)), { boxes := [], toks := [], loops := [] : Heap })) rfl) (by kernel_rfl)
  | cons x post ih =>
    intro i hd T hT
    have hlt := drop_lt hd
    have hnx := drop_next hd
    cases i with
    | zero => exact goG 60 _  hT  (.len (show lenA false (AV.sl SK.sh (List.map encA l)) = some (AV.int IntKind.i64 (↑l.length : Int)) from len_map _) <| .yes (show (decide ((↑(0 : Nat) : Int) < (↑l.length : Int))) = true from decide_eq_true (show (↑(0 : Nat) : Int) < (↑l.length : Int) from (by omega))) <| .idx (show idxA (2 : Nat) (AV.sl SK.sh (List.map encA l)) (AV.int IntKind.i64 (↑(0 : Nat) : Int)) = some (AV.ref (encA x).cells) from idx_row hd (by rfl)) <| .callG ([AV.str x.name]) (AV.bool (isName x.name)) (show Gives cfg (76 : FuncId) [AV.str x.name] (AV.bool (isName x.name)) from name_any _) ⟨rfl, rfl⟩ ⟨rfl, rfl⟩ <| .split (isName x.name = true) (fun h1 => .no (show (!isName x.name) = false from by have hh : isName x.name = true := h1; simp [hh]) <| .idx (show idxA (2 : Nat) (AV.sl SK.sh (List.map encA l)) (AV.int IntKind.i64 (↑(0 : Nat) : Int)) = some (AV.ref (encA x).cells) from idx_row hd (by rfl)) <| .split (x.n ≤ (0 : Int)) (fun h2 => .yes (show (decide (x.n ≤ (0 : Int))) = true from decide_eq_true (show x.n ≤ (0 : Int) from h2)) <| .fin ((ARes.ret (AV.int IntKind.i64 (1 : Int)), { boxes := [], toks := [], loops := [] : Heap })) (by simp only [IsRet]; grind [ckVl, ordV])) (fun h2 => .no (show (decide (x.n ≤ (0 : Int))) = false from decide_eq_false (show ¬ (x.n ≤ (0 : Int)) from h2)) <| .ff <| .ff <| .bin (show binA BinOp.add (AV.int IntKind.i64 (↑(0 : Nat) : Int)) (AV.int IntKind.i64 (1 : Int)) = some (AV.int IntKind.i64 (↑((0 : Nat) + (1 : Nat)) : Int)) from inc_i (by omega)) <| .cutQ k77_0 [(0, AV.sl SK.sh (List.map encA l)), (3, AV.int IntKind.i64 (↑((0 : Nat) + (1 : Nat)) : Int))] ({ boxes := [], toks := [], loops := [] : Heap }) (fun T hT => (ih ((0 : Nat) + (1 : Nat)) hnx T hT).to (by grind [ckVl, ordV])))) (fun h1 => .yes (show (!isName x.name) = true from by have hh : ¬ (isName x.name = true) := h1; simp [hh]) <| .fin ((ARes.ret (AV.int IntKind.i64 (3 : Int)), { boxes := [], toks := [], loops := [] : Heap })) (by simp only [IsRet]; grind [ckVl, ordV]))) (by kernel_rfl)
    | succ j =>
      obtain ⟨p, hp⟩ : ∃ p, l[j]? = some p := ⟨l[j], List.getElem?_eq_getElem (by omega)⟩
      exact goG 60 _  hT  (.len (show lenA false (AV.sl SK.sh (List.map encA l)) = some (AV.int IntKind.i64 (↑l.length : Int)) from len_map _) <| .yes (show (decide ((↑(j + (1 : Nat)) : Int) < (↑l.length : Int))) = true from decide_eq_true (show (↑(j + (1 : Nat)) : Int) < (↑l.length : Int) from (by omega))) <| .idx (show idxA (2 : Nat) (AV.sl SK.sh (List.map encA l)) (AV.int IntKind.i64 (↑(j + (1 : Nat)) : Int)) = some (AV.ref (encA x).cells) from idx_row hd (by rfl)) <| .callG ([AV.str x.name]) (AV.bool (isName x.name)) (show Gives cfg (76 : FuncId) [AV.str x.name] (AV.bool (isName x.name)) from name_any _) ⟨rfl, rfl⟩ ⟨rfl, rfl⟩ <| .split (isName x.name = true) (fun h1 => .no (show (!isName x.name) = false from by have hh : isName x.name = true := h1; simp [hh]) <| .idx (show idxA (2 : Nat) (AV.sl SK.sh (List.map encA l)) (AV.int IntKind.i64 (↑(j + (1 : Nat)) : Int)) = some (AV.ref (encA x).cells) from idx_row hd (by rfl)) <| .split (x.n ≤ (0 : Int)) (fun h2 => .yes (show (decide (x.n ≤ (0 : Int))) = true from decide_eq_true (show x.n ≤ (0 : Int) from h2)) <| .fin ((ARes.ret (AV.int IntKind.i64 (1 : Int)), { boxes := [], toks := [], loops := [] : Heap })) (by simp only [IsRet]; grind [ckVl, ordV])) (fun h2 => .no (show (decide (x.n ≤ (0 : Int))) = false from decide_eq_false (show ¬ (x.n ≤ (0 : Int)) from h2)) <| .yes (show (decide ((0 : Int) < (↑(j + (1 : Nat)) : Int))) = true from decide_eq_true (show (0 : Int) < (↑(j + (1 : Nat)) : Int) from (by omega))) <| .idx (show idxA (2 : Nat) (AV.sl SK.sh (List.map encA l)) (AV.int IntKind.i64 (↑(j + (1 : Nat)) : Int)) = some (AV.ref (encA x).cells) from idx_row hd (by rfl)) <| .bin (show binA BinOp.sub (AV.int IntKind.i64 (↑(j + (1 : Nat)) : Int)) (AV.int IntKind.i64 (1 : Int)) = some (AV.int IntKind.i64 (↑j : Int)) from dec_i (by omega)) <| .idx (show idxA (2 : Nat) (AV.sl SK.sh (List.map encA l)) (AV.int IntKind.i64 (↑j : Int)) = some (AV.ref (encA p).cells) from idx_get hp (by rfl)) <| .split ((Op.bytesLess x.name p.name || x.name == p.name) = true) (fun h3 => .yes (show (Op.bytesLess x.name p.name || x.name == p.name) = true from h3) <| .fin ((ARes.ret (AV.int IntKind.i64 (13 : Int)), { boxes := [], toks := [], loops := [] : Heap })) (by simp only [IsRet]; grind [ckVl, ordV])) (fun h3 => .no (show (Op.bytesLess x.name p.name || x.name == p.name) = false from Bool.eq_false_iff.2 (show ¬ ((Op.bytesLess x.name p.name || x.name == p.name) = true) from h3)) <| .bin (show binA BinOp.add (AV.int IntKind.i64 (↑(j + (1 : Nat)) : Int)) (AV.int IntKind.i64 (1 : Int)) = some (AV.int IntKind.i64 (↑(j + (1 : Nat) + (1 : Nat)) : Int)) from inc_i (by omega)) <| .cutQ k77_0 [(0, AV.sl SK.sh (List.map encA l)), (3, AV.int IntKind.i64 (↑(j + (1 : Nat) + (1 : Nat)) : Int))] ({ boxes := [], toks := [], loops := [] : Heap }) (fun T hT => (ih (j + (1 : Nat) + (1 : Nat)) hnx T hT).to (by grind [ckVl, ordV]))))) (fun h1 => .yes (show (!isName x.name) = true from by have hh : ¬ (isName x.name = true) := h1; simp [hh]) <| .fin ((ARes.ret (AV.int IntKind.i64 (3 : Int)), { boxes := [], toks := [], loops := [] : Heap })) (by simp only [IsRet]; grind [ckVl, ordV]))) (by kernel_rfl)
theorem ckV_ref (l : List Amount) : Gives cfg 77 [.sl .sh (l.map encA)] (.int .i64 (ckV l)) := by
  refine Gives.run (l77 _ _) ?_
  have h := fun hn => ckV_ref_loop l hn l 0 rfl
  exact goG 60 []  trivial  (.len (show lenA false (AV.sl SK.sh (List.map encA l)) = some (AV.int IntKind.i64 (↑l.length : Int)) from len_map _) <| .split ((8 : Int) < (↑l.length : Int)) (fun h1 => .yes (show (decide ((8 : Int) < (↑l.length : Int))) = true from decide_eq_true (show (8 : Int) < (↑l.length : Int) from h1)) <| .fin ((ARes.ret (AV.int IntKind.i64 (4 : Int)), { boxes := [], toks := [], loops := [] : Heap })) (by simp only [IsRet]; grind [ckV])) (fun h1 => .no (show (decide ((8 : Int) < (↑l.length : Int))) = false from decide_eq_false (show ¬ ((8 : Int) < (↑l.length : Int)) from h1)) <| .cutQ k77_0 [(0, AV.sl SK.sh (List.map encA l)), (3, AV.int IntKind.i64 (0 : Int))] ({ boxes := [], toks := [], loops := [] : Heap }) (fun T hT => (h (by omega) T hT).to (by grind [ckV])))) (by kernel_rfl)
end Go.Aa.T

set_option linter.unusedVariables false
set_option linter.unusedSimpArgs false
set_option maxRecDepth 100000
namespace Go.Aa.T
open Go.Aa Go.Proofs
def encI (x : Int) : AV := .int .i64 x
def firstE : List Int → Int
  | [] => 0
  | x :: r => if x = 0 then firstE r else x
theorem first_loop (l : List Int) (hn : l.length ≤ 100) : ∀ (post : List Int) (i : Nat) (hd : l.drop i = post) (T : Env) (hT : Has T [(5, .sl .sh (l.map encI)), (6, .int .i64 l.length), (7, .int .i64 i)]),
    Goes cfg a80 k80_0 T Heap.nil (IsRet (.int .i64 (firstE post))) := by
  intro post
  induction post with
  | nil =>
    intro i hd T hT
    have hge := drop_ge hd
    exact goG 60 _  hT  (.no (show (decide ((↑i : Int) < (↑l.length : Int))) = false from decide_eq_false (show ¬ ((↑i : Int) < (↑l.length : Int)) from (by omega))) <| .fin ((ARes.ret (AV.int IntKind.i64 (0 : Int)), { boxes := [], toks := [], loops := [] : Heap })) rfl) (by kernel_rfl)
  | cons x post ih =>
    intro i hd T hT
    have hlt := drop_lt hd
    have hnx := drop_next hd
    have hidx : idxA 1 (.sl .sh (l.map encI)) (.int .i64 (i : Nat)) = some (.ref [.int .i64 x]) := idx_row (f := encI) hd rfl
    by_cases h0 : x = 0
    · have e : firstE (x :: post) = firstE post := by simp [firstE, h0]
      rw [e]
      have ih' := ih (i + 1) hnx
      exact goG 60 _  hT  (.yes (show (decide ((↑i : Int) < (↑l.length : Int))) = true from decide_eq_true (show (↑i : Int) < (↑l.length : Int) from (by omega))) <| .idx (show idxA (1 : Nat) (AV.sl SK.sh (List.map encI l)) (AV.int IntKind.i64 (↑i : Int)) = some (AV.ref [AV.int IntKind.i64 x]) from hidx) <| .no (show (x != (0 : Int)) = false from Bool.eq_false_iff.2 (show ¬ ((x != (0 : Int)) = true) from (by simpa using h0))) <| .bin (show binA BinOp.add (AV.int IntKind.i64 (↑i : Int)) (AV.int IntKind.i64 (1 : Int)) = some (AV.int IntKind.i64 (↑(i + (1 : Nat)) : Int)) from inc_i (by omega)) <| .cutQ k80_0 [(5, AV.sl SK.sh (List.map encI l)), (6, AV.int IntKind.i64 (↑l.length : Int)), (7, AV.int IntKind.i64 (↑(i + (1 : Nat)) : Int))] ({ boxes := [], toks := [], loops := [] : Heap }) (fun T hT => (ih' T hT))) (by kernel_rfl)
    · have e : firstE (x :: post) = x := by simp [firstE, h0]
      rw [e]
      exact goG 60 _  hT  (.yes (show (decide ((↑i : Int) < (↑l.length : Int))) = true from decide_eq_true (show (↑i : Int) < (↑l.length : Int) from (by omega))) <| .idx (show idxA (1 : Nat) (AV.sl SK.sh (List.map encI l)) (AV.int IntKind.i64 (↑i : Int)) = some (AV.ref [AV.int IntKind.i64 x]) from hidx) <| .yes (show (x != (0 : Int)) = true from (by simpa using h0)) <| .fin ((ARes.ret (AV.int IntKind.i64 x), { boxes := [], toks := [], loops := [] : Heap })) rfl) (by kernel_rfl)
theorem first_any (l : List Int) (hn : l.length ≤ 100) : Gives cfg 80 [.sl .sh (l.map encI)] (.int .i64 (firstE l)) := by
  refine Gives.run (l80 _ _) ?_
  have h := first_loop l hn l 0 rfl
  exact goG 60 []  trivial  (.len (show lenA false (AV.sl SK.sh (List.map encI l)) = some (AV.int IntKind.i64 (↑l.length : Int)) from len_map _) <| .cutQ k80_0 [(5, AV.sl SK.sh (List.map encI l)), (6, AV.int IntKind.i64 (↑l.length : Int)), (7, AV.int IntKind.i64 (0 : Int))] ({ boxes := [], toks := [], loops := [] : Heap }) (fun T hT => (h T hT))) (by kernel_rfl)
theorem named_any (s : List UInt8) : Gives cfg 81 [.str s] (.int .i64 (if isName s then 0 else 3)) := by
  refine Gives.run (l81 _ _) ?_
  exact goG 60 []  trivial  (.callG ([AV.str s]) (AV.bool (isName s)) (show Gives cfg (143 : FuncId) [AV.str s] (AV.bool (isName s)) from res_name _) ⟨rfl, rfl⟩ ⟨rfl, rfl⟩ <| .split (isName s = true) (fun h1 => .no (show (!isName s) = false from by have hh : isName s = true := h1; simp [hh]) <| .fin ((ARes.ret (AV.int IntKind.i64 (0 : Int)), { boxes := [], toks := [], loops := [] : Heap })) (by simp only [IsRet]; grind)) (fun h1 => .yes (show (!isName s) = true from by have hh : ¬ (isName s = true) := h1; simp [hh]) <| .fin ((ARes.ret (AV.int IntKind.i64 (3 : Int)), { boxes := [], toks := [], loops := [] : Heap })) (by simp only [IsRet]; grind))) (by kernel_rfl)
end Go.Aa.T

set_option linter.unusedVariables false
set_option linter.unusedSimpArgs false
set_option maxRecDepth 100000
namespace Go.Aa.T
open Go.Aa Go.Proofs
structure Node where
  name : List UInt8
  cap : List Amount
  labels : List Pair
  taints : List Taint
  cordon : Bool
def encN (n : Node) : AV := .agg [.str n.name, .sl .sh (n.cap.map encA), .sl .sh (n.labels.map encP), .sl .sh (n.taints.map encT), .bool n.cordon]
end Go.Aa.T

set_option linter.unusedVariables false
set_option linter.unusedSimpArgs false
namespace Go.Aa.T
open Go.Aa
theorem dec_split (u : Nat) (h : ¬ u < 10) : Lib.decDigits u = Lib.decDigits (u / 10) ++ [UInt8.ofNat (48 + u % 10)] := by
  rw [Lib.decDigits, dif_neg h]
theorem dec_one (u : Nat) (h : u < 10) : Lib.decDigits u = [UInt8.ofNat (48 + u)] := by
  rw [Lib.decDigits, dif_pos h]
theorem itoa_nat {n : Nat} (h : n ≤ 9223372036854775807) : itoaF (n : Int) = Lib.decDigits n := by
  rw [itoaF_eq (by omega) (by omega)]
  unfold Lib.itoa
  rw [if_neg (by omega)]
  rfl
end Go.Aa.T

set_option linter.unusedVariables false
set_option linter.unusedSimpArgs false
set_option maxRecDepth 100000
namespace Go.Aa.T
open Go.Aa Go.Proofs


end Go.Aa.T

set_option linter.unusedVariables false
set_option linter.unusedSimpArgs false
set_option maxRecDepth 100000
namespace Go.Aa.T
open Go.Aa Go.Proofs

def same2 {X : Type} (e : X → X → Bool) : List X → List X → Bool
  | [], [] => true
  | x :: a, y :: b => e x y && same2 e a b
  | _, _ => false
theorem same2_len {X : Type} {e : X → X → Bool} : ∀ {a b : List X}, a.length ≠ b.length → same2 e a b = false
  | [], [], h => absurd rfl h
  | [], _ :: _, _ => rfl
  | _ :: _, [], _ => rfl
  | x :: a, y :: b, h => by
    simp only [List.length_cons, ne_eq, Nat.add_right_cancel_iff] at h
    simp only [same2, same2_len h, Bool.and_false]
theorem same2_iff {X : Type} {e : X → X → Bool} (he : ∀ x y, e x y = true ↔ x = y) : ∀ {a b : List X}, same2 e a b = true ↔ a = b
  | [], [] => by simp [same2]
  | [], _ :: _ => by simp [same2]
  | _ :: _, [] => by simp [same2]
  | x :: a, y :: b => by simp [same2, he, same2_iff he]
theorem same2_refl {X : Type} {e : X → X → Bool} (he : ∀ x y, e x y = true ↔ x = y) (a : List X) : same2 e a a = true := (same2_iff he).2 rfl
end Go.Aa.T

set_option linter.unusedVariables false
set_option linter.unusedSimpArgs false
set_option maxRecDepth 100000
namespace Go.Aa.T
open Go.Aa Go.Proofs
def short1 (x : Amount) : Bool := decide (x.name.length ≤ 50)
def fewA (l : List Amount) : Bool := decide (l.length ≤ 20) && l.all short1
theorem fewA_len {l : List Amount} (h : fewA l = true) : l.length ≤ 20 := by
  simp only [fewA, Bool.and_eq_true, decide_eq_true_eq] at h; exact h.1
theorem fewA_loop (l : List Amount) (hn : l.length ≤ 20) : ∀ (post : List Amount) (i : Nat) (hd : l.drop i = post) (T : Env) (hT : Has T [(0, .sl .sh (l.map encA)), (3, .int .i64 i)]),
    Goes cfg a59 k59_0 T Heap.nil (IsRet (.bool (post.all short1))) := by
  intro post
  induction post with
  | nil =>
    intro i hd T hT
    have hge := drop_ge hd
    exact goG 60 _  hT  (.len (show lenA false (AV.sl SK.sh (List.map encA l)) = some (AV.int IntKind.i64 (↑l.length : Int)) from len_map _) <| .no (show (decide ((↑i : Int) < (↑l.length : Int))) = false from decide_eq_false (show ¬ ((↑i : Int) < (↑l.length : Int)) from (by omega))) <| .fin ((ARes.ret (AV.bool true), { boxes := [], toks := [], loops := [] : Heap })) rfl) (by kernel_rfl)
  | cons x post ih =>
    intro i hd T hT
    have hlt := drop_lt hd
    have hnx := drop_next hd
    exact goG 60 _  hT  (.len (show lenA false (AV.sl SK.sh (List.map encA l)) = some (AV.int IntKind.i64 (↑l.length : Int)) from len_map _) <| .yes (show (decide ((↑i : Int) < (↑l.length : Int))) = true from decide_eq_true (show (↑i : Int) < (↑l.length : Int) from (by omega))) <| .idx (show idxA (2 : Nat) (AV.sl SK.sh (List.map encA l)) (AV.int IntKind.i64 (↑i : Int)) = some (AV.ref (encA x).cells) from idx_row hd (by rfl)) <| .len (show lenA true (AV.str x.name) = some (AV.int IntKind.i64 (↑x.name.length : Int)) from len_str _) <| .split ((50 : Int) < (↑x.name.length : Int)) (fun h1 => .yes (show (decide ((50 : Int) < (↑x.name.length : Int))) = true from decide_eq_true (show (50 : Int) < (↑x.name.length : Int) from h1)) <| .fin ((ARes.ret (AV.bool false), { boxes := [], toks := [], loops := [] : Heap })) (by simp only [IsRet]; grind [short1])) (fun h1 => .no (show (decide ((50 : Int) < (↑x.name.length : Int))) = false from decide_eq_false (show ¬ ((50 : Int) < (↑x.name.length : Int)) from h1)) <| .bin (show binA BinOp.add (AV.int IntKind.i64 (↑i : Int)) (AV.int IntKind.i64 (1 : Int)) = some (AV.int IntKind.i64 (↑(i + (1 : Nat)) : Int)) from inc_i (by omega)) <| .cutQ k59_0 [(0, AV.sl SK.sh (List.map encA l)), (3, AV.int IntKind.i64 (↑(i + (1 : Nat)) : Int))] ({ boxes := [], toks := [], loops := [] : Heap }) (fun T hT => (ih (i + (1 : Nat)) hnx T hT).to (by grind [short1])))) (by kernel_rfl)
theorem fewA_any (l : List Amount) : Gives cfg 59 [.sl .sh (l.map encA)] (.bool (fewA l)) := by
  refine Gives.run (l59 _ _) ?_
  have h := fun hn => fewA_loop l hn l 0 rfl
  exact goG 60 []  trivial  (.len (show lenA false (AV.sl SK.sh (List.map encA l)) = some (AV.int IntKind.i64 (↑l.length : Int)) from len_map _) <| .split ((20 : Int) < (↑l.length : Int)) (fun h1 => .yes (show (decide ((20 : Int) < (↑l.length : Int))) = true from decide_eq_true (show (20 : Int) < (↑l.length : Int) from h1)) <| .fin ((ARes.ret (AV.bool false), { boxes := [], toks := [], loops := [] : Heap })) (by simp only [IsRet]; grind [fewA])) (fun h1 => .no (show (decide ((20 : Int) < (↑l.length : Int))) = false from decide_eq_false (show ¬ ((20 : Int) < (↑l.length : Int)) from h1)) <| .cutQ k59_0 [(0, AV.sl SK.sh (List.map encA l)), (3, AV.int IntKind.i64 (0 : Int))] ({ boxes := [], toks := [], loops := [] : Heap }) (fun T hT => (h (by omega) T hT).to (by grind [fewA])))) (by kernel_rfl)
theorem ofA_loop (l : List Amount) (hn : l.length ≤ 20) : ∀ (post : List Amount) (i : Nat) (acc : List AV) (hd : l.drop i = post) (ha : acc.length = i) (hl : lenOk 2 acc = true) (T : Env) (hT : Has T [(0, .sl .sh (l.map encA)), (3, rowS Heap.nil acc), (4, .int .i64 i)]),
    Goes cfg a73 k73_0 T (rowH Heap.nil acc) (IsRet (rowS Heap.nil (acc ++ post.map encA))) := by
  intro post
  induction post with
  | nil =>
    intro i acc hd ha hl T hT
    have hge := drop_ge hd
    exact goG 60 _  hT  (.len (show lenA false (AV.sl SK.sh (List.map encA l)) = some (AV.int IntKind.i64 (↑l.length : Int)) from len_map _) <| .no (show (decide ((↑i : Int) < (↑l.length : Int))) = false from decide_eq_false (show ¬ ((↑i : Int) < (↑l.length : Int)) from (by omega))) <| .fin ((ARes.ret (setD (setD (setD (setD (setD (setD (updL T [((0 : Nat), AV.sl SK.sh (List.map encA l)), ((3 : Nat), rowS Heap.nil acc), ((4 : Nat), AV.int IntKind.i64 (↑i : Int))]) { dst := some (5 : Nat), op := AOp.mov (Opd.t (4 : Nat)), guard := none, deps := [] : AOper }.dst (ev (updL T [((0 : Nat), AV.sl SK.sh (List.map encA l)), ((3 : Nat), rowS Heap.nil acc), ((4 : Nat), AV.int IntKind.i64 (↑i : Int))]) (Opd.t (4 : Nat)))) { dst := some (6 : Nat), op := AOp.mov (Opd.t (0 : Nat)), guard := none, deps := [] : AOper }.dst (ev (setD (updL T [((0 : Nat), AV.sl SK.sh (List.map encA l)), ((3 : Nat), rowS Heap.nil acc), ((4 : Nat), AV.int IntKind.i64 (↑i : Int))]) { dst := some (5 : Nat), op := AOp.mov (Opd.t (4 : Nat)), guard := none, deps := [] : AOper }.dst (ev (updL T [((0 : Nat), AV.sl SK.sh (List.map encA l)), ((3 : Nat), rowS Heap.nil acc), ((4 : Nat), AV.int IntKind.i64 (↑i : Int))]) (Opd.t (4 : Nat)))) (Opd.t (0 : Nat)))) { dst := some (7 : Nat), op := AOp.len false (Opd.t (6 : Nat)), guard := none, deps := [] : AOper }.dst (AV.int IntKind.i64 (↑l.length : Int))) { dst := some (8 : Nat), op := AOp.bin BinOp.lss (Opd.t (5 : Nat)) (Opd.t (7 : Nat)), guard := none, deps := [] : AOper }.dst (AV.bool (decide ((↑i : Int) < (↑l.length : Int))))) { dst := some (25 : Nat), op := AOp.mov (Opd.t (3 : Nat)), guard := none, deps := [] : AOper }.dst (ev (setD (setD (setD (setD (updL T [((0 : Nat), AV.sl SK.sh (List.map encA l)), ((3 : Nat), rowS Heap.nil acc), ((4 : Nat), AV.int IntKind.i64 (↑i : Int))]) { dst := some (5 : Nat), op := AOp.mov (Opd.t (4 : Nat)), guard := none, deps := [] : AOper }.dst (ev (updL T [((0 : Nat), AV.sl SK.sh (List.map encA l)), ((3 : Nat), rowS Heap.nil acc), ((4 : Nat), AV.int IntKind.i64 (↑i : Int))]) (Opd.t (4 : Nat)))) { dst := some (6 : Nat), op := AOp.mov (Opd.t (0 : Nat)), guard := none, deps := [] : AOper }.dst (ev (setD (updL T [((0 : Nat), AV.sl SK.sh (List.map encA l)), ((3 : Nat), rowS Heap.nil acc), ((4 : Nat), AV.int IntKind.i64 (↑i : Int))]) { dst := some (5 : Nat), op := AOp.mov (Opd.t (4 : Nat)), guard := none, deps := [] : AOper }.dst (ev (updL T [((0 : Nat), AV.sl SK.sh (List.map encA l)), ((3 : Nat), rowS Heap.nil acc), ((4 : Nat), AV.int IntKind.i64 (↑i : Int))]) (Opd.t (4 : Nat)))) (Opd.t (0 : Nat)))) { dst := some (7 : Nat), op := AOp.len false (Opd.t (6 : Nat)), guard := none, deps := [] : AOper }.dst (AV.int IntKind.i64 (↑l.length : Int))) { dst := some (8 : Nat), op := AOp.bin BinOp.lss (Opd.t (5 : Nat)) (Opd.t (7 : Nat)), guard := none, deps := [] : AOper }.dst (AV.bool (decide ((↑i : Int) < (↑l.length : Int))))) (Opd.t (3 : Nat)))) { dst := some (2 : Nat), op := AOp.mov (Opd.t (25 : Nat)), guard := none, deps := [] : AOper }.dst (ev (setD (setD (setD (setD (setD (updL T [((0 : Nat), AV.sl SK.sh (List.map encA l)), ((3 : Nat), rowS Heap.nil acc), ((4 : Nat), AV.int IntKind.i64 (↑i : Int))]) { dst := some (5 : Nat), op := AOp.mov (Opd.t (4 : Nat)), guard := none, deps := [] : AOper }.dst (ev (updL T [((0 : Nat), AV.sl SK.sh (List.map encA l)), ((3 : Nat), rowS Heap.nil acc), ((4 : Nat), AV.int IntKind.i64 (↑i : Int))]) (Opd.t (4 : Nat)))) { dst := some (6 : Nat), op := AOp.mov (Opd.t (0 : Nat)), guard := none, deps := [] : AOper }.dst (ev (setD (updL T [((0 : Nat), AV.sl SK.sh (List.map encA l)), ((3 : Nat), rowS Heap.nil acc), ((4 : Nat), AV.int IntKind.i64 (↑i : Int))]) { dst := some (5 : Nat), op := AOp.mov (Opd.t (4 : Nat)), guard := none, deps := [] : AOper }.dst (ev (updL T [((0 : Nat), AV.sl SK.sh (List.map encA l)), ((3 : Nat), rowS Heap.nil acc), ((4 : Nat), AV.int IntKind.i64 (↑i : Int))]) (Opd.t (4 : Nat)))) (Opd.t (0 : Nat)))) { dst := some (7 : Nat), op := AOp.len false (Opd.t (6 : Nat)), guard := none, deps := [] : AOper }.dst (AV.int IntKind.i64 (↑l.length : Int))) { dst := some (8 : Nat), op := AOp.bin BinOp.lss (Opd.t (5 : Nat)) (Opd.t (7 : Nat)), guard := none, deps := [] : AOper }.dst (AV.bool (decide ((↑i : Int) < (↑l.length : Int))))) { dst := some (25 : Nat), op := AOp.mov (Opd.t (3 : Nat)), guard := none, deps := [] : AOper }.dst (ev (setD (setD (setD (setD (updL T [((0 : Nat), AV.sl SK.sh (List.map encA l)), ((3 : Nat), rowS Heap.nil acc), ((4 : Nat), AV.int IntKind.i64 (↑i : Int))]) { dst := some (5 : Nat), op := AOp.mov (Opd.t (4 : Nat)), guard := none, deps := [] : AOper }.dst (ev (updL T [((0 : Nat), AV.sl SK.sh (List.map encA l)), ((3 : Nat), rowS Heap.nil acc), ((4 : Nat), AV.int IntKind.i64 (↑i : Int))]) (Opd.t (4 : Nat)))) { dst := some (6 : Nat), op := AOp.mov (Opd.t (0 : Nat)), guard := none, deps := [] : AOper }.dst (ev (setD (updL T [((0 : Nat), AV.sl SK.sh (List.map encA l)), ((3 : Nat), rowS Heap.nil acc), ((4 : Nat), AV.int IntKind.i64 (↑i : Int))]) { dst := some (5 : Nat), op := AOp.mov (Opd.t (4 : Nat)), guard := none, deps := [] : AOper }.dst (ev (updL T [((0 : Nat), AV.sl SK.sh (List.map encA l)), ((3 : Nat), rowS Heap.nil acc), ((4 : Nat), AV.int IntKind.i64 (↑i : Int))]) (Opd.t (4 : Nat)))) (Opd.t (0 : Nat)))) { dst := some (7 : Nat), op := AOp.len false (Opd.t (6 : Nat)), guard := none, deps := [] : AOper }.dst (AV.int IntKind.i64 (↑l.length : Int))) { dst := some (8 : Nat), op := AOp.bin BinOp.lss (Opd.t (5 : Nat)) (Opd.t (7 : Nat)), guard := none, deps := [] : AOper }.dst (AV.bool (decide ((↑i : Int) < (↑l.length : Int))))) (Opd.t (3 : Nat)))) (Opd.t (25 : Nat))) (2 : Nat)), rowH Heap.nil acc)) (by simp only [IsRet, List.map_nil, List.append_nil]; rfl)) (by kernel_rfl)
  | cons x post ih =>
    intro i acc hd ha hl T hT
    have hlt := drop_lt hd
    have hnx := drop_next hd
    exact goG 60 _  hT  (.len (show lenA false (AV.sl SK.sh (List.map encA l)) = some (AV.int IntKind.i64 (↑l.length : Int)) from len_map _) <| .yes (show (decide ((↑i : Int) < (↑l.length : Int))) = true from decide_eq_true (show (↑i : Int) < (↑l.length : Int) from (by simp; omega))) <| .idx (show idxA (2 : Nat) (AV.sl SK.sh (List.map encA l)) (AV.int IntKind.i64 (↑i : Int)) = some (AV.ref (encA x).cells) from idx_row hd (by rfl)) <| .load (show loadA false (1 : Nat) (rowH Heap.nil acc) (AV.ref [AV.str x.name]) = some (AV.str x.name) from rfl) <| .idx (show idxA (2 : Nat) (AV.sl SK.sh (List.map encA l)) (AV.int IntKind.i64 (↑i : Int)) = some (AV.ref (encA x).cells) from idx_row hd (by rfl)) <| .load (show loadA false (1 : Nat) (rowH Heap.nil acc) (AV.ref [AV.int IntKind.i64 x.n]) = some (AV.int IntKind.i64 x.n) from rfl) <| .append (show appendA (2 : Nat) (24 : Nat) (rowH Heap.nil acc) (rowS Heap.nil acc) (AV.sl SK.full [AV.agg [AV.str x.name, AV.int IntKind.i64 x.n]]) = some ((rowS Heap.nil (acc ++ [AV.agg [AV.str x.name, AV.int IntKind.i64 x.n]]), rowH Heap.nil (acc ++ [AV.agg [AV.str x.name, AV.int IntKind.i64 x.n]]))) from row_append (by omega) hl (by rfl) (by rfl)) <| .bin (show binA BinOp.add (AV.int IntKind.i64 (↑i : Int)) (AV.int IntKind.i64 (1 : Int)) = some (AV.int IntKind.i64 (↑(i + (1 : Nat)) : Int)) from inc_i (by omega)) <| .cutQ k73_0 [(0, AV.sl SK.sh (List.map encA l)), (3, rowS Heap.nil (acc ++ [AV.agg [AV.str x.name, AV.int IntKind.i64 x.n]])), (4, AV.int IntKind.i64 (↑(i + (1 : Nat)) : Int))] (rowH Heap.nil (acc ++ [AV.agg [AV.str x.name, AV.int IntKind.i64 x.n]])) (fun T hT => (ih (i + (1 : Nat)) (acc ++ [AV.agg [AV.str x.name, AV.int IntKind.i64 x.n]]) hnx (by simp; omega) (by exact lenOk_snoc (by assumption) rfl) T hT).to (by simp [encA]))) (by kernel_rfl)
theorem ofA_any (l : List Amount) (hn : l.length ≤ 20) : Gives cfg 73 [.sl .sh (l.map encA)] (rowS Heap.nil (l.map encA)) := by
  refine Gives.run (l73 _ _) ?_
  have h := ofA_loop l hn l 0 [] rfl rfl rfl
  exact goG 60 []  trivial  (.cutQ k73_0 [(0, AV.sl SK.sh (List.map encA l)), (3, AV.sl SK.full []), (4, AV.int IntKind.i64 (0 : Int))] ({ boxes := [], toks := [], loops := [] : Heap }) (fun T hT => (h T hT))) (by kernel_rfl)

instance (n : Node) : Dat (encN n) := ⟨rfl, rfl⟩
structure FewNd (n : Node) : Prop where
  cap : n.cap.length ≤ 20
  labels : n.labels.length ≤ 20
  taints : n.taints.length ≤ 20

def ordG {X : Type} (nm : X → List UInt8) (s : List X) (i : Nat) (x : X) : Bool := match i with
  | 0 => false
  | j + 1 => match s[j]? with
    | some p => Op.bytesLess (nm x) (nm p) || nm x == nm p
    | none => false
def ckAl {X : Type} (ck : X → Int) (nm : X → List UInt8) (s : List X) : Nat → List X → Int
  | _, [] => 0
  | i, x :: post => if ck x = 0 then (if ordG nm s i x then 13 else ckAl ck nm s (i + 1) post) else ck x
def ckAll {X : Type} (most : Nat) (ck : X → Int) (nm : X → List UInt8) (s : List X) : Int := if s.length ≤ most then ckAl ck nm s 0 s else 4
def findG {X : Type} (nm : X → List UInt8) (l : List X) (n : List UInt8) : Option X := l.find? fun x => nm x == n
theorem findG_mem {X : Type} {nm : X → List UInt8} {l : List X} {s : List UInt8} {x : X} (h : findG nm l s = some x) : x ∈ l := List.mem_of_find?_eq_some h
end Go.Aa.T

set_option linter.unusedVariables false
set_option linter.unusedSimpArgs false
set_option maxRecDepth 100000
namespace Go.Aa.T
open Go.Aa Go.Proofs
structure Pod where
  name : List UInt8
  owner : List UInt8
  prio : Int
  need : List Amount
  labels : List Pair
  sel : List Term
  tols : List Tol
  key : List UInt8
  most : Int
  node : List UInt8
  hold : Bool
def encPd (p : Pod) : AV := .agg [.str p.name, .str p.owner, .int .i64 p.prio, .sl .sh (p.need.map encA), .sl .sh (p.labels.map encP), .sl .sh (p.sel.map encM), .sl .sh (p.tols.map encL), .str p.key, .int .i64 p.most, .str p.node, .bool p.hold]
def maybeE (s : List UInt8) : Int := if s = [] then 0 else if isName s then 0 else 3
def withinE (n lo hi : Int) : Int := if n < lo then 1 else if hi < n then 1 else 0
def prioE (p : Pod) : Int := if p.hold then withinE p.prio (-1) (-1) else withinE p.prio 0 1000000
def mostE (p : Pod) : Int := if p.key = [] then withinE p.most 0 0 else withinE p.most 1 128
def ckPd (p : Pod) : Int := firstE [if isName p.name then 0 else 3, maybeE p.owner, prioE p, ckV p.need, ckS p.labels, ckM p.sel, ckL p.tols, maybeE p.key, mostE p, maybeE p.node]
theorem firstE_zero : ∀ {l : List Int}, firstE l = 0 → ∀ x ∈ l, x = 0
  | [], _ => by simp
  | x :: l, h => by
    unfold firstE at h
    split at h
    · intro y hy
      rcases List.mem_cons.1 hy with rfl | hy
      · assumption
      · exact firstE_zero h y hy
    · contradiction
structure PodOk (p : Pod) : Prop where
  name : isName p.name = true
  owner : p.owner = [] ∨ isName p.owner = true
  prio : -1 ≤ p.prio ∧ p.prio ≤ 1000000
  hold : p.hold = decide (p.prio = -1)
  need : ckV p.need = 0
  labels : ckS p.labels = 0
  sel : ckM p.sel = 0
  tols : ckL p.tols = 0
  key : p.key = [] ∨ isName p.key = true
  most : 0 ≤ p.most ∧ p.most ≤ 128 ∧ (p.key = [] ↔ p.most = 0)
  node : p.node = [] ∨ isName p.node = true

end Go.Aa.T
