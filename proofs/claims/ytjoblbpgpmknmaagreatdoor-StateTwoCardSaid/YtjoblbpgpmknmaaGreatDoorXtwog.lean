/-
  WHAT THE LAW LEANS ON, part 7 of 8: a machine of values and its soundness; the functions of the law upon it; what they come to.
-/
import Derived.Test.YtjoblbpgpmknmaaGreatDoorXtwof

set_option linter.unusedVariables false
set_option linter.unusedSimpArgs false
set_option maxRecDepth 100000
namespace Go.Aa.T
open Go.Aa Go.Proofs

def same2 {X : Type} (e : X → X → Bool) : List X → List X → Bool
  | [], [] => true
  | x :: a, y :: b => e x y && same2 e a b
  | _, _ => false
theorem same2_len {X : Type} {e : X → X → Bool} : ∀ {a b : List X}, a.length ≠ b.length → same2 e a b = false
  | [], [], h => absurd rfl h
  | [], _ :: _, _ => rfl
  | _ :: _, [], _ => rfl
  | x :: a, y :: b, h => by
    simp only [List.length_cons, ne_eq, Nat.add_right_cancel_iff] at h
    simp only [same2, same2_len h, Bool.and_false]
theorem same2_iff {X : Type} {e : X → X → Bool} (he : ∀ x y, e x y = true ↔ x = y) : ∀ {a b : List X}, same2 e a b = true ↔ a = b
  | [], [] => by simp [same2]
  | [], _ :: _ => by simp [same2]
  | _ :: _, [] => by simp [same2]
  | x :: a, y :: b => by simp [same2, he, same2_iff he]
def eqA (x y : Amount) : Bool := x.name == y.name && x.n == y.n
def eqP (x y : Pair) : Bool := x.key == y.key && x.val == y.val
def eqT (x y : Taint) : Bool := x.key == y.key && (x.val == y.val && x.hard == y.hard)
def eqM (x y : Term) : Bool := x.op == y.op && (x.key == y.key && x.val == y.val)
def eqL (x y : Tol) : Bool := x.key == y.key && (x.val == y.val && x.any == y.any)
theorem eqA_iff (x y : Amount) : eqA x y = true ↔ x = y := by cases x; cases y; simp [eqA]
theorem eqP_iff (x y : Pair) : eqP x y = true ↔ x = y := by cases x; cases y; simp [eqP]
theorem eqT_iff (x y : Taint) : eqT x y = true ↔ x = y := by cases x; cases y; simp [eqT]
theorem eqM_iff (x y : Term) : eqM x y = true ↔ x = y := by cases x; cases y; simp [eqM]
theorem eqL_iff (x y : Tol) : eqL x y = true ↔ x = y := by cases x; cases y; simp [eqL]
theorem sameVR_loop (a b : List Amount) (hn : a.length < 9223372036854775807) (he : a.length = b.length) : ∀ (post q : List Amount) (i : Nat) (hd : a.drop i = post) (hq : b.drop i = q) (T : Env) (hT : Has T [(0, .sl .sh (a.map encA)), (1, .sl .sh (b.map encA)), (5, .int .i64 i)]),
    Goes cfg a35 k35_0 T Heap.nil (IsRet (.bool (same2 eqA post q))) := by
  intro post
  induction post with
  | nil =>
    intro q i hd hq T hT
    have hge := drop_ge hd
    have e : q = [] := by rw [← hq]; exact List.drop_eq_nil_of_le (by omega)
    subst e
    exact goG 60 _  hT  (.len (show lenA false (AV.sl .sh (List.map encA a)) = some (AV.int .i64 (↑a.length : Int)) from len_map _) <| .no (show (decide ((↑i : Int) < (↑a.length : Int))) = false from decide_eq_false (show ¬ ((↑i : Int) < (↑a.length : Int)) from (by omega))) <| .fin ((ARes.ret (AV.bool true), { boxes := [], toks := [], loops := [] : Heap })) rfl) (by kernel_rfl)
  | cons x post ih =>
    intro q i hd hq T hT
    have hlt := drop_lt hd
    have hnx := drop_next hd
    cases q with
    | nil => have := drop_ge hq; omega
    | cons y q =>
      have hnq := drop_next hq
      exact goG 60 _  hT  (.len (show lenA false (AV.sl .sh (List.map encA a)) = some (AV.int .i64 (↑a.length : Int)) from len_map _) <| .yes (show (decide ((↑i : Int) < (↑a.length : Int))) = true from decide_eq_true (show (↑i : Int) < (↑a.length : Int) from (by omega))) <| .idx (show idxA 2 (AV.sl .sh (List.map encA a)) (AV.int .i64 (↑i : Int)) = some (AV.ref (encA x).cells) from idx_row hd (by rfl)) <| .idx (show idxA 2 (AV.sl .sh (List.map encA b)) (AV.int .i64 (↑i : Int)) = some (AV.ref (encA y).cells) from idx_row hq (by rfl)) <| .split ((if true = true then !(x.name == y.name && (x.n == y.n && true)) else x.name == y.name && (x.n == y.n && true)) = true) (fun h1 => .yes (show (if true = true then !(x.name == y.name && (x.n == y.n && true)) else x.name == y.name && (x.n == y.n && true)) = true from h1) <| .fin ((ARes.ret (AV.bool false), { boxes := [], toks := [], loops := [] : Heap })) (by simp only [IsRet]; grind [same2, eqA])) (fun h1 => .no (show (if true = true then !(x.name == y.name && (x.n == y.n && true)) else x.name == y.name && (x.n == y.n && true)) = false from Bool.eq_false_iff.2 (show ¬ ((if true = true then !(x.name == y.name && (x.n == y.n && true)) else x.name == y.name && (x.n == y.n && true)) = true) from h1)) <| .bin (show binA .add (AV.int .i64 (↑i : Int)) (AV.int .i64 1) = some (AV.int .i64 (↑(i + (1 : Nat)) : Int)) from inc_i (by omega)) <| .cutQ k35_0 [(0, AV.sl .sh (List.map encA a)), (1, AV.sl .sh (List.map encA b)), (5, AV.int .i64 (↑(i + (1 : Nat)) : Int))] ({ boxes := [], toks := [], loops := [] : Heap }) (fun T hT => (ih (q) (i + (1 : Nat)) hnx hnq T hT).to (by grind [same2, eqA])))) (by kernel_rfl)
theorem sameVR (a b : List Amount) (hn : a.length < 9223372036854775807) : Gives cfg 35 [.sl .sh (a.map encA), .sl .sh (b.map encA)] (.bool (same2 eqA a b)) := by
  refine Gives.run (l35 _ _) ?_
  by_cases he : a.length = b.length
  · have h := sameVR_loop a b hn he a b 0 rfl rfl
    exact goG 60 []  trivial  (.len (show lenA false (AV.sl .sh (List.map encA a)) = some (AV.int .i64 (↑a.length : Int)) from len_map _) <| .len (show lenA false (AV.sl .sh (List.map encA b)) = some (AV.int .i64 (↑b.length : Int)) from len_map _) <| .no (show ((↑a.length : Int) != (↑b.length : Int)) = false from Bool.eq_false_iff.2 (show ¬ (((↑a.length : Int) != (↑b.length : Int)) = true) from (by simp [he]))) <| .cutQ k35_0 [(0, AV.sl .sh (List.map encA a)), (1, AV.sl .sh (List.map encA b)), (5, AV.int .i64 0)] ({ boxes := [], toks := [], loops := [] : Heap }) (fun T hT => (h T hT))) (by kernel_rfl)
  · rw [same2_len he]
    exact goG 60 []  trivial  (.len (show lenA false (AV.sl .sh (List.map encA a)) = some (AV.int .i64 (↑a.length : Int)) from len_map _) <| .len (show lenA false (AV.sl .sh (List.map encA b)) = some (AV.int .i64 (↑b.length : Int)) from len_map _) <| .yes (show ((↑a.length : Int) != (↑b.length : Int)) = true from (by simp; omega)) <| .fin ((ARes.ret (AV.bool false), { boxes := [], toks := [], loops := [] : Heap })) rfl) (by kernel_rfl)
theorem samePR_loop (a b : List Pair) (hn : a.length < 9223372036854775807) (he : a.length = b.length) : ∀ (post q : List Pair) (i : Nat) (hd : a.drop i = post) (hq : b.drop i = q) (T : Env) (hT : Has T [(0, .sl .sh (a.map encP)), (1, .sl .sh (b.map encP)), (5, .int .i64 i)]),
    Goes cfg a113 k113_0 T Heap.nil (IsRet (.bool (same2 eqP post q))) := by
  intro post
  induction post with
  | nil =>
    intro q i hd hq T hT
    have hge := drop_ge hd
    have e : q = [] := by rw [← hq]; exact List.drop_eq_nil_of_le (by omega)
    subst e
    exact goG 60 _  hT  (.len (show lenA false (AV.sl .sh (List.map encP a)) = some (AV.int .i64 (↑a.length : Int)) from len_map _) <| .no (show (decide ((↑i : Int) < (↑a.length : Int))) = false from decide_eq_false (show ¬ ((↑i : Int) < (↑a.length : Int)) from (by omega))) <| .fin ((ARes.ret (AV.bool true), { boxes := [], toks := [], loops := [] : Heap })) rfl) (by kernel_rfl)
  | cons x post ih =>
    intro q i hd hq T hT
    have hlt := drop_lt hd
    have hnx := drop_next hd
    cases q with
    | nil => have := drop_ge hq; omega
    | cons y q =>
      have hnq := drop_next hq
      exact goG 60 _  hT  (.len (show lenA false (AV.sl .sh (List.map encP a)) = some (AV.int .i64 (↑a.length : Int)) from len_map _) <| .yes (show (decide ((↑i : Int) < (↑a.length : Int))) = true from decide_eq_true (show (↑i : Int) < (↑a.length : Int) from (by omega))) <| .idx (show idxA 2 (AV.sl .sh (List.map encP a)) (AV.int .i64 (↑i : Int)) = some (AV.ref (encP x).cells) from idx_row hd (by rfl)) <| .idx (show idxA 2 (AV.sl .sh (List.map encP b)) (AV.int .i64 (↑i : Int)) = some (AV.ref (encP y).cells) from idx_row hq (by rfl)) <| .split ((if true = true then !(x.key == y.key && (x.val == y.val && true)) else x.key == y.key && (x.val == y.val && true)) = true) (fun h1 => .yes (show (if true = true then !(x.key == y.key && (x.val == y.val && true)) else x.key == y.key && (x.val == y.val && true)) = true from h1) <| .fin ((ARes.ret (AV.bool false), { boxes := [], toks := [], loops := [] : Heap })) (by simp only [IsRet]; grind [same2, eqP])) (fun h1 => .no (show (if true = true then !(x.key == y.key && (x.val == y.val && true)) else x.key == y.key && (x.val == y.val && true)) = false from Bool.eq_false_iff.2 (show ¬ ((if true = true then !(x.key == y.key && (x.val == y.val && true)) else x.key == y.key && (x.val == y.val && true)) = true) from h1)) <| .bin (show binA .add (AV.int .i64 (↑i : Int)) (AV.int .i64 1) = some (AV.int .i64 (↑(i + (1 : Nat)) : Int)) from inc_i (by omega)) <| .cutQ k113_0 [(0, AV.sl .sh (List.map encP a)), (1, AV.sl .sh (List.map encP b)), (5, AV.int .i64 (↑(i + (1 : Nat)) : Int))] ({ boxes := [], toks := [], loops := [] : Heap }) (fun T hT => (ih (q) (i + (1 : Nat)) hnx hnq T hT).to (by grind [same2, eqP])))) (by kernel_rfl)
theorem samePR (a b : List Pair) (hn : a.length < 9223372036854775807) : Gives cfg 113 [.sl .sh (a.map encP), .sl .sh (b.map encP)] (.bool (same2 eqP a b)) := by
  refine Gives.run (l113 _ _) ?_
  by_cases he : a.length = b.length
  · have h := samePR_loop a b hn he a b 0 rfl rfl
    exact goG 60 []  trivial  (.len (show lenA false (AV.sl .sh (List.map encP a)) = some (AV.int .i64 (↑a.length : Int)) from len_map _) <| .len (show lenA false (AV.sl .sh (List.map encP b)) = some (AV.int .i64 (↑b.length : Int)) from len_map _) <| .no (show ((↑a.length : Int) != (↑b.length : Int)) = false from Bool.eq_false_iff.2 (show ¬ (((↑a.length : Int) != (↑b.length : Int)) = true) from (by simp [he]))) <| .cutQ k113_0 [(0, AV.sl .sh (List.map encP a)), (1, AV.sl .sh (List.map encP b)), (5, AV.int .i64 0)] ({ boxes := [], toks := [], loops := [] : Heap }) (fun T hT => (h T hT))) (by kernel_rfl)
  · rw [same2_len he]
    exact goG 60 []  trivial  (.len (show lenA false (AV.sl .sh (List.map encP a)) = some (AV.int .i64 (↑a.length : Int)) from len_map _) <| .len (show lenA false (AV.sl .sh (List.map encP b)) = some (AV.int .i64 (↑b.length : Int)) from len_map _) <| .yes (show ((↑a.length : Int) != (↑b.length : Int)) = true from (by simp; omega)) <| .fin ((ARes.ret (AV.bool false), { boxes := [], toks := [], loops := [] : Heap })) rfl) (by kernel_rfl)
theorem sameTR_loop (a b : List Taint) (hn : a.length < 9223372036854775807) (he : a.length = b.length) : ∀ (post q : List Taint) (i : Nat) (hd : a.drop i = post) (hq : b.drop i = q) (T : Env) (hT : Has T [(0, .sl .sh (a.map encT)), (1, .sl .sh (b.map encT)), (5, .int .i64 i)]),
    Goes cfg a191 k191_0 T Heap.nil (IsRet (.bool (same2 eqT post q))) := by
  intro post
  induction post with
  | nil =>
    intro q i hd hq T hT
    have hge := drop_ge hd
    have e : q = [] := by rw [← hq]; exact List.drop_eq_nil_of_le (by omega)
    subst e
    exact goG 60 _  hT  (.len (show lenA false (AV.sl .sh (List.map encT a)) = some (AV.int .i64 (↑a.length : Int)) from len_map _) <| .no (show (decide ((↑i : Int) < (↑a.length : Int))) = false from decide_eq_false (show ¬ ((↑i : Int) < (↑a.length : Int)) from (by omega))) <| .fin ((ARes.ret (AV.bool true), { boxes := [], toks := [], loops := [] : Heap })) rfl) (by kernel_rfl)
  | cons x post ih =>
    intro q i hd hq T hT
    have hlt := drop_lt hd
    have hnx := drop_next hd
    cases q with
    | nil => have := drop_ge hq; omega
    | cons y q =>
      have hnq := drop_next hq
      exact goG 60 _  hT  (.len (show lenA false (AV.sl .sh (List.map encT a)) = some (AV.int .i64 (↑a.length : Int)) from len_map _) <| .yes (show (decide ((↑i : Int) < (↑a.length : Int))) = true from decide_eq_true (show (↑i : Int) < (↑a.length : Int) from (by omega))) <| .idx (show idxA 3 (AV.sl .sh (List.map encT a)) (AV.int .i64 (↑i : Int)) = some (AV.ref (encT x).cells) from idx_row hd (by rfl)) <| .idx (show idxA 3 (AV.sl .sh (List.map encT b)) (AV.int .i64 (↑i : Int)) = some (AV.ref (encT y).cells) from idx_row hq (by rfl)) <| .split ((if true = true then !(x.key == y.key && (x.val == y.val && (x.hard == y.hard && true))) else x.key == y.key && (x.val == y.val && (x.hard == y.hard && true))) = true) (fun h1 => .yes (show (if true = true then !(x.key == y.key && (x.val == y.val && (x.hard == y.hard && true))) else x.key == y.key && (x.val == y.val && (x.hard == y.hard && true))) = true from h1) <| .fin ((ARes.ret (AV.bool false), { boxes := [], toks := [], loops := [] : Heap })) (by simp only [IsRet]; grind [same2, eqT])) (fun h1 => .no (show (if true = true then !(x.key == y.key && (x.val == y.val && (x.hard == y.hard && true))) else x.key == y.key && (x.val == y.val && (x.hard == y.hard && true))) = false from Bool.eq_false_iff.2 (show ¬ ((if true = true then !(x.key == y.key && (x.val == y.val && (x.hard == y.hard && true))) else x.key == y.key && (x.val == y.val && (x.hard == y.hard && true))) = true) from h1)) <| .bin (show binA .add (AV.int .i64 (↑i : Int)) (AV.int .i64 1) = some (AV.int .i64 (↑(i + (1 : Nat)) : Int)) from inc_i (by omega)) <| .cutQ k191_0 [(0, AV.sl .sh (List.map encT a)), (1, AV.sl .sh (List.map encT b)), (5, AV.int .i64 (↑(i + (1 : Nat)) : Int))] ({ boxes := [], toks := [], loops := [] : Heap }) (fun T hT => (ih (q) (i + (1 : Nat)) hnx hnq T hT).to (by grind [same2, eqT])))) (by kernel_rfl)
theorem sameTR (a b : List Taint) (hn : a.length < 9223372036854775807) : Gives cfg 191 [.sl .sh (a.map encT), .sl .sh (b.map encT)] (.bool (same2 eqT a b)) := by
  refine Gives.run (l191 _ _) ?_
  by_cases he : a.length = b.length
  · have h := sameTR_loop a b hn he a b 0 rfl rfl
    exact goG 60 []  trivial  (.len (show lenA false (AV.sl .sh (List.map encT a)) = some (AV.int .i64 (↑a.length : Int)) from len_map _) <| .len (show lenA false (AV.sl .sh (List.map encT b)) = some (AV.int .i64 (↑b.length : Int)) from len_map _) <| .no (show ((↑a.length : Int) != (↑b.length : Int)) = false from Bool.eq_false_iff.2 (show ¬ (((↑a.length : Int) != (↑b.length : Int)) = true) from (by simp [he]))) <| .cutQ k191_0 [(0, AV.sl .sh (List.map encT a)), (1, AV.sl .sh (List.map encT b)), (5, AV.int .i64 0)] ({ boxes := [], toks := [], loops := [] : Heap }) (fun T hT => (h T hT))) (by kernel_rfl)
  · rw [same2_len he]
    exact goG 60 []  trivial  (.len (show lenA false (AV.sl .sh (List.map encT a)) = some (AV.int .i64 (↑a.length : Int)) from len_map _) <| .len (show lenA false (AV.sl .sh (List.map encT b)) = some (AV.int .i64 (↑b.length : Int)) from len_map _) <| .yes (show ((↑a.length : Int) != (↑b.length : Int)) = true from (by simp; omega)) <| .fin ((ARes.ret (AV.bool false), { boxes := [], toks := [], loops := [] : Heap })) rfl) (by kernel_rfl)
theorem sameMR_loop (a b : List Term) (hn : a.length < 9223372036854775807) (he : a.length = b.length) : ∀ (post q : List Term) (i : Nat) (hd : a.drop i = post) (hq : b.drop i = q) (T : Env) (hT : Has T [(0, .sl .sh (a.map encM)), (1, .sl .sh (b.map encM)), (5, .int .i64 i)]),
    Goes cfg a114 k114_0 T Heap.nil (IsRet (.bool (same2 eqM post q))) := by
  intro post
  induction post with
  | nil =>
    intro q i hd hq T hT
    have hge := drop_ge hd
    have e : q = [] := by rw [← hq]; exact List.drop_eq_nil_of_le (by omega)
    subst e
    exact goG 60 _  hT  (.len (show lenA false (AV.sl .sh (List.map encM a)) = some (AV.int .i64 (↑a.length : Int)) from len_map _) <| .no (show (decide ((↑i : Int) < (↑a.length : Int))) = false from decide_eq_false (show ¬ ((↑i : Int) < (↑a.length : Int)) from (by omega))) <| .fin ((ARes.ret (AV.bool true), { boxes := [], toks := [], loops := [] : Heap })) rfl) (by kernel_rfl)
  | cons x post ih =>
    intro q i hd hq T hT
    have hlt := drop_lt hd
    have hnx := drop_next hd
    cases q with
    | nil => have := drop_ge hq; omega
    | cons y q =>
      have hnq := drop_next hq
      exact goG 60 _  hT  (.len (show lenA false (AV.sl .sh (List.map encM a)) = some (AV.int .i64 (↑a.length : Int)) from len_map _) <| .yes (show (decide ((↑i : Int) < (↑a.length : Int))) = true from decide_eq_true (show (↑i : Int) < (↑a.length : Int) from (by omega))) <| .idx (show idxA 3 (AV.sl .sh (List.map encM a)) (AV.int .i64 (↑i : Int)) = some (AV.ref (encM x).cells) from idx_row hd (by rfl)) <| .idx (show idxA 3 (AV.sl .sh (List.map encM b)) (AV.int .i64 (↑i : Int)) = some (AV.ref (encM y).cells) from idx_row hq (by rfl)) <| .split ((if true = true then !(x.op == y.op && (x.key == y.key && (x.val == y.val && true))) else x.op == y.op && (x.key == y.key && (x.val == y.val && true))) = true) (fun h1 => .yes (show (if true = true then !(x.op == y.op && (x.key == y.key && (x.val == y.val && true))) else x.op == y.op && (x.key == y.key && (x.val == y.val && true))) = true from h1) <| .fin ((ARes.ret (AV.bool false), { boxes := [], toks := [], loops := [] : Heap })) (by simp only [IsRet]; grind [same2, eqM])) (fun h1 => .no (show (if true = true then !(x.op == y.op && (x.key == y.key && (x.val == y.val && true))) else x.op == y.op && (x.key == y.key && (x.val == y.val && true))) = false from Bool.eq_false_iff.2 (show ¬ ((if true = true then !(x.op == y.op && (x.key == y.key && (x.val == y.val && true))) else x.op == y.op && (x.key == y.key && (x.val == y.val && true))) = true) from h1)) <| .bin (show binA .add (AV.int .i64 (↑i : Int)) (AV.int .i64 1) = some (AV.int .i64 (↑(i + (1 : Nat)) : Int)) from inc_i (by omega)) <| .cutQ k114_0 [(0, AV.sl .sh (List.map encM a)), (1, AV.sl .sh (List.map encM b)), (5, AV.int .i64 (↑(i + (1 : Nat)) : Int))] ({ boxes := [], toks := [], loops := [] : Heap }) (fun T hT => (ih (q) (i + (1 : Nat)) hnx hnq T hT).to (by grind [same2, eqM])))) (by kernel_rfl)
theorem sameMR (a b : List Term) (hn : a.length < 9223372036854775807) : Gives cfg 114 [.sl .sh (a.map encM), .sl .sh (b.map encM)] (.bool (same2 eqM a b)) := by
  refine Gives.run (l114 _ _) ?_
  by_cases he : a.length = b.length
  · have h := sameMR_loop a b hn he a b 0 rfl rfl
    exact goG 60 []  trivial  (.len (show lenA false (AV.sl .sh (List.map encM a)) = some (AV.int .i64 (↑a.length : Int)) from len_map _) <| .len (show lenA false (AV.sl .sh (List.map encM b)) = some (AV.int .i64 (↑b.length : Int)) from len_map _) <| .no (show ((↑a.length : Int) != (↑b.length : Int)) = false from Bool.eq_false_iff.2 (show ¬ (((↑a.length : Int) != (↑b.length : Int)) = true) from (by simp [he]))) <| .cutQ k114_0 [(0, AV.sl .sh (List.map encM a)), (1, AV.sl .sh (List.map encM b)), (5, AV.int .i64 0)] ({ boxes := [], toks := [], loops := [] : Heap }) (fun T hT => (h T hT))) (by kernel_rfl)
  · rw [same2_len he]
    exact goG 60 []  trivial  (.len (show lenA false (AV.sl .sh (List.map encM a)) = some (AV.int .i64 (↑a.length : Int)) from len_map _) <| .len (show lenA false (AV.sl .sh (List.map encM b)) = some (AV.int .i64 (↑b.length : Int)) from len_map _) <| .yes (show ((↑a.length : Int) != (↑b.length : Int)) = true from (by simp; omega)) <| .fin ((ARes.ret (AV.bool false), { boxes := [], toks := [], loops := [] : Heap })) rfl) (by kernel_rfl)
theorem sameLR_loop (a b : List Tol) (hn : a.length < 9223372036854775807) (he : a.length = b.length) : ∀ (post q : List Tol) (i : Nat) (hd : a.drop i = post) (hq : b.drop i = q) (T : Env) (hT : Has T [(0, .sl .sh (a.map encL)), (1, .sl .sh (b.map encL)), (5, .int .i64 i)]),
    Goes cfg a115 k115_0 T Heap.nil (IsRet (.bool (same2 eqL post q))) := by
  intro post
  induction post with
  | nil =>
    intro q i hd hq T hT
    have hge := drop_ge hd
    have e : q = [] := by rw [← hq]; exact List.drop_eq_nil_of_le (by omega)
    subst e
    exact goG 60 _  hT  (.len (show lenA false (AV.sl .sh (List.map encL a)) = some (AV.int .i64 (↑a.length : Int)) from len_map _) <| .no (show (decide ((↑i : Int) < (↑a.length : Int))) = false from decide_eq_false (show ¬ ((↑i : Int) < (↑a.length : Int)) from (by omega))) <| .fin ((ARes.ret (AV.bool true), { boxes := [], toks := [], loops := [] : Heap })) rfl) (by kernel_rfl)
  | cons x post ih =>
    intro q i hd hq T hT
    have hlt := drop_lt hd
    have hnx := drop_next hd
    cases q with
    | nil => have := drop_ge hq; omega
    | cons y q =>
      have hnq := drop_next hq
      exact goG 60 _  hT  (.len (show lenA false (AV.sl .sh (List.map encL a)) = some (AV.int .i64 (↑a.length : Int)) from len_map _) <| .yes (show (decide ((↑i : Int) < (↑a.length : Int))) = true from decide_eq_true (show (↑i : Int) < (↑a.length : Int) from (by omega))) <| .idx (show idxA 3 (AV.sl .sh (List.map encL a)) (AV.int .i64 (↑i : Int)) = some (AV.ref (encL x).cells) from idx_row hd (by rfl)) <| .idx (show idxA 3 (AV.sl .sh (List.map encL b)) (AV.int .i64 (↑i : Int)) = some (AV.ref (encL y).cells) from idx_row hq (by rfl)) <| .split ((if true = true then !(x.key == y.key && (x.val == y.val && (x.any == y.any && true))) else x.key == y.key && (x.val == y.val && (x.any == y.any && true))) = true) (fun h1 => .yes (show (if true = true then !(x.key == y.key && (x.val == y.val && (x.any == y.any && true))) else x.key == y.key && (x.val == y.val && (x.any == y.any && true))) = true from h1) <| .fin ((ARes.ret (AV.bool false), { boxes := [], toks := [], loops := [] : Heap })) (by simp only [IsRet]; grind [same2, eqL])) (fun h1 => .no (show (if true = true then !(x.key == y.key && (x.val == y.val && (x.any == y.any && true))) else x.key == y.key && (x.val == y.val && (x.any == y.any && true))) = false from Bool.eq_false_iff.2 (show ¬ ((if true = true then !(x.key == y.key && (x.val == y.val && (x.any == y.any && true))) else x.key == y.key && (x.val == y.val && (x.any == y.any && true))) = true) from h1)) <| .bin (show binA .add (AV.int .i64 (↑i : Int)) (AV.int .i64 1) = some (AV.int .i64 (↑(i + (1 : Nat)) : Int)) from inc_i (by omega)) <| .cutQ k115_0 [(0, AV.sl .sh (List.map encL a)), (1, AV.sl .sh (List.map encL b)), (5, AV.int .i64 (↑(i + (1 : Nat)) : Int))] ({ boxes := [], toks := [], loops := [] : Heap }) (fun T hT => (ih (q) (i + (1 : Nat)) hnx hnq T hT).to (by grind [same2, eqL])))) (by kernel_rfl)
theorem sameLR (a b : List Tol) (hn : a.length < 9223372036854775807) : Gives cfg 115 [.sl .sh (a.map encL), .sl .sh (b.map encL)] (.bool (same2 eqL a b)) := by
  refine Gives.run (l115 _ _) ?_
  by_cases he : a.length = b.length
  · have h := sameLR_loop a b hn he a b 0 rfl rfl
    exact goG 60 []  trivial  (.len (show lenA false (AV.sl .sh (List.map encL a)) = some (AV.int .i64 (↑a.length : Int)) from len_map _) <| .len (show lenA false (AV.sl .sh (List.map encL b)) = some (AV.int .i64 (↑b.length : Int)) from len_map _) <| .no (show ((↑a.length : Int) != (↑b.length : Int)) = false from Bool.eq_false_iff.2 (show ¬ (((↑a.length : Int) != (↑b.length : Int)) = true) from (by simp [he]))) <| .cutQ k115_0 [(0, AV.sl .sh (List.map encL a)), (1, AV.sl .sh (List.map encL b)), (5, AV.int .i64 0)] ({ boxes := [], toks := [], loops := [] : Heap }) (fun T hT => (h T hT))) (by kernel_rfl)
  · rw [same2_len he]
    exact goG 60 []  trivial  (.len (show lenA false (AV.sl .sh (List.map encL a)) = some (AV.int .i64 (↑a.length : Int)) from len_map _) <| .len (show lenA false (AV.sl .sh (List.map encL b)) = some (AV.int .i64 (↑b.length : Int)) from len_map _) <| .yes (show ((↑a.length : Int) != (↑b.length : Int)) = true from (by simp; omega)) <| .fin ((ARes.ret (AV.bool false), { boxes := [], toks := [], loops := [] : Heap })) rfl) (by kernel_rfl)
theorem sameVp_loop (a b : List Amount) (hn : a.length < 9223372036854775807) (he : a.length = b.length) : ∀ (post q : List Amount) (i : Nat) (hd : a.drop i = post) (hq : b.drop i = q) (T : Env) (hT : Has T [(0, .sl .sh (a.map encA)), (1, .sl .sh (b.map encA)), (12, .int .i64 a.length), (13, .int .i64 i)]),
    Goes cfg a130 k130_0 T Heap.nil (IsRet (.bool (same2 eqA post q))) := by
  intro post
  induction post with
  | nil =>
    intro q i hd hq T hT
    have hge := drop_ge hd
    have e : q = [] := by rw [← hq]; exact List.drop_eq_nil_of_le (by omega)
    subst e
    exact goG 60 _  hT  (.no (show (decide ((↑i : Int) < (↑a.length : Int))) = false from decide_eq_false (show ¬ ((↑i : Int) < (↑a.length : Int)) from (by omega))) <| .fin ((ARes.ret (AV.bool true), { boxes := [], toks := [], loops := [] : Heap })) rfl) (by kernel_rfl)
  | cons x post ih =>
    intro q i hd hq T hT
    have hlt := drop_lt hd
    have hnx := drop_next hd
    cases q with
    | nil => have := drop_ge hq; omega
    | cons y q =>
      have hnq := drop_next hq
      exact goG 60 _  hT  (.yes (show (decide ((↑i : Int) < (↑a.length : Int))) = true from decide_eq_true (show (↑i : Int) < (↑a.length : Int) from (by omega))) <| .idx (show idxA 2 (AV.sl .sh (List.map encA a)) (AV.int .i64 (↑i : Int)) = some (AV.ref (encA x).cells) from idx_row hd (by rfl)) <| .idx (show idxA 2 (AV.sl .sh (List.map encA b)) (AV.int .i64 (↑i : Int)) = some (AV.ref (encA y).cells) from idx_row hq (by rfl)) <| .split ((if true = true then !(x.name == y.name && (x.n == y.n && true)) else x.name == y.name && (x.n == y.n && true)) = true) (fun h1 => .yes (show (if true = true then !(x.name == y.name && (x.n == y.n && true)) else x.name == y.name && (x.n == y.n && true)) = true from h1) <| .fin ((ARes.ret (AV.bool false), { boxes := [], toks := [], loops := [] : Heap })) (by simp only [IsRet]; grind [same2, eqA])) (fun h1 => .no (show (if true = true then !(x.name == y.name && (x.n == y.n && true)) else x.name == y.name && (x.n == y.n && true)) = false from Bool.eq_false_iff.2 (show ¬ ((if true = true then !(x.name == y.name && (x.n == y.n && true)) else x.name == y.name && (x.n == y.n && true)) = true) from h1)) <| .bin (show binA .add (AV.int .i64 (↑i : Int)) (AV.int .i64 1) = some (AV.int .i64 (↑(i + (1 : Nat)) : Int)) from inc_i (by omega)) <| .cutQ k130_0 [(0, AV.sl .sh (List.map encA a)), (1, AV.sl .sh (List.map encA b)), (12, AV.int .i64 (↑a.length : Int)), (13, AV.int .i64 (↑(i + (1 : Nat)) : Int))] ({ boxes := [], toks := [], loops := [] : Heap }) (fun T hT => (ih (q) (i + (1 : Nat)) hnx hnq T hT).to (by grind [same2, eqA])))) (by kernel_rfl)
theorem sameVp (a b : List Amount) (hn : a.length < 9223372036854775807) : Gives cfg 130 [.sl .sh (a.map encA), .sl .sh (b.map encA)] (.bool (same2 eqA a b)) := by
  refine Gives.run (l130 _ _) ?_
  by_cases he : a.length = b.length
  · have h := sameVp_loop a b hn he a b 0 rfl rfl
    exact goG 60 []  trivial  (.len (show lenA false (AV.sl .sh (List.map encA a)) = some (AV.int .i64 (↑a.length : Int)) from len_map _) <| .len (show lenA false (AV.sl .sh (List.map encA b)) = some (AV.int .i64 (↑b.length : Int)) from len_map _) <| .no (show ((↑a.length : Int) != (↑b.length : Int)) = false from Bool.eq_false_iff.2 (show ¬ (((↑a.length : Int) != (↑b.length : Int)) = true) from (by simp [he]))) <| .len (show lenA false (AV.sl .sh (List.map encA a)) = some (AV.int .i64 (↑a.length : Int)) from len_map _) <| .cutQ k130_0 [(0, AV.sl .sh (List.map encA a)), (1, AV.sl .sh (List.map encA b)), (12, AV.int .i64 (↑a.length : Int)), (13, AV.int .i64 0)] ({ boxes := [], toks := [], loops := [] : Heap }) (fun T hT => (h T hT))) (by kernel_rfl)
  · rw [same2_len he]
    exact goG 60 []  trivial  (.len (show lenA false (AV.sl .sh (List.map encA a)) = some (AV.int .i64 (↑a.length : Int)) from len_map _) <| .len (show lenA false (AV.sl .sh (List.map encA b)) = some (AV.int .i64 (↑b.length : Int)) from len_map _) <| .yes (show ((↑a.length : Int) != (↑b.length : Int)) = true from (by simp; omega)) <| .fin ((ARes.ret (AV.bool false), { boxes := [], toks := [], loops := [] : Heap })) rfl) (by kernel_rfl)
theorem samePp_loop (a b : List Pair) (hn : a.length < 9223372036854775807) (he : a.length = b.length) : ∀ (post q : List Pair) (i : Nat) (hd : a.drop i = post) (hq : b.drop i = q) (T : Env) (hT : Has T [(0, .sl .sh (a.map encP)), (1, .sl .sh (b.map encP)), (12, .int .i64 a.length), (13, .int .i64 i)]),
    Goes cfg a144 k144_0 T Heap.nil (IsRet (.bool (same2 eqP post q))) := by
  intro post
  induction post with
  | nil =>
    intro q i hd hq T hT
    have hge := drop_ge hd
    have e : q = [] := by rw [← hq]; exact List.drop_eq_nil_of_le (by omega)
    subst e
    exact goG 60 _  hT  (.no (show (decide ((↑i : Int) < (↑a.length : Int))) = false from decide_eq_false (show ¬ ((↑i : Int) < (↑a.length : Int)) from (by omega))) <| .fin ((ARes.ret (AV.bool true), { boxes := [], toks := [], loops := [] : Heap })) rfl) (by kernel_rfl)
  | cons x post ih =>
    intro q i hd hq T hT
    have hlt := drop_lt hd
    have hnx := drop_next hd
    cases q with
    | nil => have := drop_ge hq; omega
    | cons y q =>
      have hnq := drop_next hq
      exact goG 60 _  hT  (.yes (show (decide ((↑i : Int) < (↑a.length : Int))) = true from decide_eq_true (show (↑i : Int) < (↑a.length : Int) from (by omega))) <| .idx (show idxA 2 (AV.sl .sh (List.map encP a)) (AV.int .i64 (↑i : Int)) = some (AV.ref (encP x).cells) from idx_row hd (by rfl)) <| .idx (show idxA 2 (AV.sl .sh (List.map encP b)) (AV.int .i64 (↑i : Int)) = some (AV.ref (encP y).cells) from idx_row hq (by rfl)) <| .split ((if true = true then !(x.key == y.key && (x.val == y.val && true)) else x.key == y.key && (x.val == y.val && true)) = true) (fun h1 => .yes (show (if true = true then !(x.key == y.key && (x.val == y.val && true)) else x.key == y.key && (x.val == y.val && true)) = true from h1) <| .fin ((ARes.ret (AV.bool false), { boxes := [], toks := [], loops := [] : Heap })) (by simp only [IsRet]; grind [same2, eqP])) (fun h1 => .no (show (if true = true then !(x.key == y.key && (x.val == y.val && true)) else x.key == y.key && (x.val == y.val && true)) = false from Bool.eq_false_iff.2 (show ¬ ((if true = true then !(x.key == y.key && (x.val == y.val && true)) else x.key == y.key && (x.val == y.val && true)) = true) from h1)) <| .bin (show binA .add (AV.int .i64 (↑i : Int)) (AV.int .i64 1) = some (AV.int .i64 (↑(i + (1 : Nat)) : Int)) from inc_i (by omega)) <| .cutQ k144_0 [(0, AV.sl .sh (List.map encP a)), (1, AV.sl .sh (List.map encP b)), (12, AV.int .i64 (↑a.length : Int)), (13, AV.int .i64 (↑(i + (1 : Nat)) : Int))] ({ boxes := [], toks := [], loops := [] : Heap }) (fun T hT => (ih (q) (i + (1 : Nat)) hnx hnq T hT).to (by grind [same2, eqP])))) (by kernel_rfl)
theorem samePp (a b : List Pair) (hn : a.length < 9223372036854775807) : Gives cfg 144 [.sl .sh (a.map encP), .sl .sh (b.map encP)] (.bool (same2 eqP a b)) := by
  refine Gives.run (l144 _ _) ?_
  by_cases he : a.length = b.length
  · have h := samePp_loop a b hn he a b 0 rfl rfl
    exact goG 60 []  trivial  (.len (show lenA false (AV.sl .sh (List.map encP a)) = some (AV.int .i64 (↑a.length : Int)) from len_map _) <| .len (show lenA false (AV.sl .sh (List.map encP b)) = some (AV.int .i64 (↑b.length : Int)) from len_map _) <| .no (show ((↑a.length : Int) != (↑b.length : Int)) = false from Bool.eq_false_iff.2 (show ¬ (((↑a.length : Int) != (↑b.length : Int)) = true) from (by simp [he]))) <| .len (show lenA false (AV.sl .sh (List.map encP a)) = some (AV.int .i64 (↑a.length : Int)) from len_map _) <| .cutQ k144_0 [(0, AV.sl .sh (List.map encP a)), (1, AV.sl .sh (List.map encP b)), (12, AV.int .i64 (↑a.length : Int)), (13, AV.int .i64 0)] ({ boxes := [], toks := [], loops := [] : Heap }) (fun T hT => (h T hT))) (by kernel_rfl)
  · rw [same2_len he]
    exact goG 60 []  trivial  (.len (show lenA false (AV.sl .sh (List.map encP a)) = some (AV.int .i64 (↑a.length : Int)) from len_map _) <| .len (show lenA false (AV.sl .sh (List.map encP b)) = some (AV.int .i64 (↑b.length : Int)) from len_map _) <| .yes (show ((↑a.length : Int) != (↑b.length : Int)) = true from (by simp; omega)) <| .fin ((ARes.ret (AV.bool false), { boxes := [], toks := [], loops := [] : Heap })) rfl) (by kernel_rfl)
theorem sameTp_loop (a b : List Taint) (hn : a.length < 9223372036854775807) (he : a.length = b.length) : ∀ (post q : List Taint) (i : Nat) (hd : a.drop i = post) (hq : b.drop i = q) (T : Env) (hT : Has T [(0, .sl .sh (a.map encT)), (1, .sl .sh (b.map encT)), (12, .int .i64 a.length), (13, .int .i64 i)]),
    Goes cfg a189 k189_0 T Heap.nil (IsRet (.bool (same2 eqT post q))) := by
  intro post
  induction post with
  | nil =>
    intro q i hd hq T hT
    have hge := drop_ge hd
    have e : q = [] := by rw [← hq]; exact List.drop_eq_nil_of_le (by omega)
    subst e
    exact goG 60 _  hT  (.no (show (decide ((↑i : Int) < (↑a.length : Int))) = false from decide_eq_false (show ¬ ((↑i : Int) < (↑a.length : Int)) from (by omega))) <| .fin ((ARes.ret (AV.bool true), { boxes := [], toks := [], loops := [] : Heap })) rfl) (by kernel_rfl)
  | cons x post ih =>
    intro q i hd hq T hT
    have hlt := drop_lt hd
    have hnx := drop_next hd
    cases q with
    | nil => have := drop_ge hq; omega
    | cons y q =>
      have hnq := drop_next hq
      exact goG 60 _  hT  (.yes (show (decide ((↑i : Int) < (↑a.length : Int))) = true from decide_eq_true (show (↑i : Int) < (↑a.length : Int) from (by omega))) <| .idx (show idxA 3 (AV.sl .sh (List.map encT a)) (AV.int .i64 (↑i : Int)) = some (AV.ref (encT x).cells) from idx_row hd (by rfl)) <| .idx (show idxA 3 (AV.sl .sh (List.map encT b)) (AV.int .i64 (↑i : Int)) = some (AV.ref (encT y).cells) from idx_row hq (by rfl)) <| .split ((if true = true then !(x.key == y.key && (x.val == y.val && (x.hard == y.hard && true))) else x.key == y.key && (x.val == y.val && (x.hard == y.hard && true))) = true) (fun h1 => .yes (show (if true = true then !(x.key == y.key && (x.val == y.val && (x.hard == y.hard && true))) else x.key == y.key && (x.val == y.val && (x.hard == y.hard && true))) = true from h1) <| .fin ((ARes.ret (AV.bool false), { boxes := [], toks := [], loops := [] : Heap })) (by simp only [IsRet]; grind [same2, eqT])) (fun h1 => .no (show (if true = true then !(x.key == y.key && (x.val == y.val && (x.hard == y.hard && true))) else x.key == y.key && (x.val == y.val && (x.hard == y.hard && true))) = false from Bool.eq_false_iff.2 (show ¬ ((if true = true then !(x.key == y.key && (x.val == y.val && (x.hard == y.hard && true))) else x.key == y.key && (x.val == y.val && (x.hard == y.hard && true))) = true) from h1)) <| .bin (show binA .add (AV.int .i64 (↑i : Int)) (AV.int .i64 1) = some (AV.int .i64 (↑(i + (1 : Nat)) : Int)) from inc_i (by omega)) <| .cutQ k189_0 [(0, AV.sl .sh (List.map encT a)), (1, AV.sl .sh (List.map encT b)), (12, AV.int .i64 (↑a.length : Int)), (13, AV.int .i64 (↑(i + (1 : Nat)) : Int))] ({ boxes := [], toks := [], loops := [] : Heap }) (fun T hT => (ih (q) (i + (1 : Nat)) hnx hnq T hT).to (by grind [same2, eqT])))) (by kernel_rfl)
theorem sameTp (a b : List Taint) (hn : a.length < 9223372036854775807) : Gives cfg 189 [.sl .sh (a.map encT), .sl .sh (b.map encT)] (.bool (same2 eqT a b)) := by
  refine Gives.run (l189 _ _) ?_
  by_cases he : a.length = b.length
  · have h := sameTp_loop a b hn he a b 0 rfl rfl
    exact goG 60 []  trivial  (.len (show lenA false (AV.sl .sh (List.map encT a)) = some (AV.int .i64 (↑a.length : Int)) from len_map _) <| .len (show lenA false (AV.sl .sh (List.map encT b)) = some (AV.int .i64 (↑b.length : Int)) from len_map _) <| .no (show ((↑a.length : Int) != (↑b.length : Int)) = false from Bool.eq_false_iff.2 (show ¬ (((↑a.length : Int) != (↑b.length : Int)) = true) from (by simp [he]))) <| .len (show lenA false (AV.sl .sh (List.map encT a)) = some (AV.int .i64 (↑a.length : Int)) from len_map _) <| .cutQ k189_0 [(0, AV.sl .sh (List.map encT a)), (1, AV.sl .sh (List.map encT b)), (12, AV.int .i64 (↑a.length : Int)), (13, AV.int .i64 0)] ({ boxes := [], toks := [], loops := [] : Heap }) (fun T hT => (h T hT))) (by kernel_rfl)
  · rw [same2_len he]
    exact goG 60 []  trivial  (.len (show lenA false (AV.sl .sh (List.map encT a)) = some (AV.int .i64 (↑a.length : Int)) from len_map _) <| .len (show lenA false (AV.sl .sh (List.map encT b)) = some (AV.int .i64 (↑b.length : Int)) from len_map _) <| .yes (show ((↑a.length : Int) != (↑b.length : Int)) = true from (by simp; omega)) <| .fin ((ARes.ret (AV.bool false), { boxes := [], toks := [], loops := [] : Heap })) rfl) (by kernel_rfl)
theorem sameMp_loop (a b : List Term) (hn : a.length < 9223372036854775807) (he : a.length = b.length) : ∀ (post q : List Term) (i : Nat) (hd : a.drop i = post) (hq : b.drop i = q) (T : Env) (hT : Has T [(0, .sl .sh (a.map encM)), (1, .sl .sh (b.map encM)), (12, .int .i64 a.length), (13, .int .i64 i)]),
    Goes cfg a145 k145_0 T Heap.nil (IsRet (.bool (same2 eqM post q))) := by
  intro post
  induction post with
  | nil =>
    intro q i hd hq T hT
    have hge := drop_ge hd
    have e : q = [] := by rw [← hq]; exact List.drop_eq_nil_of_le (by omega)
    subst e
    exact goG 60 _  hT  (.no (show (decide ((↑i : Int) < (↑a.length : Int))) = false from decide_eq_false (show ¬ ((↑i : Int) < (↑a.length : Int)) from (by omega))) <| .fin ((ARes.ret (AV.bool true), { boxes := [], toks := [], loops := [] : Heap })) rfl) (by kernel_rfl)
  | cons x post ih =>
    intro q i hd hq T hT
    have hlt := drop_lt hd
    have hnx := drop_next hd
    cases q with
    | nil => have := drop_ge hq; omega
    | cons y q =>
      have hnq := drop_next hq
      exact goG 60 _  hT  (.yes (show (decide ((↑i : Int) < (↑a.length : Int))) = true from decide_eq_true (show (↑i : Int) < (↑a.length : Int) from (by omega))) <| .idx (show idxA 3 (AV.sl .sh (List.map encM a)) (AV.int .i64 (↑i : Int)) = some (AV.ref (encM x).cells) from idx_row hd (by rfl)) <| .idx (show idxA 3 (AV.sl .sh (List.map encM b)) (AV.int .i64 (↑i : Int)) = some (AV.ref (encM y).cells) from idx_row hq (by rfl)) <| .split ((if true = true then !(x.op == y.op && (x.key == y.key && (x.val == y.val && true))) else x.op == y.op && (x.key == y.key && (x.val == y.val && true))) = true) (fun h1 => .yes (show (if true = true then !(x.op == y.op && (x.key == y.key && (x.val == y.val && true))) else x.op == y.op && (x.key == y.key && (x.val == y.val && true))) = true from h1) <| .fin ((ARes.ret (AV.bool false), { boxes := [], toks := [], loops := [] : Heap })) (by simp only [IsRet]; grind [same2, eqM])) (fun h1 => .no (show (if true = true then !(x.op == y.op && (x.key == y.key && (x.val == y.val && true))) else x.op == y.op && (x.key == y.key && (x.val == y.val && true))) = false from Bool.eq_false_iff.2 (show ¬ ((if true = true then !(x.op == y.op && (x.key == y.key && (x.val == y.val && true))) else x.op == y.op && (x.key == y.key && (x.val == y.val && true))) = true) from h1)) <| .bin (show binA .add (AV.int .i64 (↑i : Int)) (AV.int .i64 1) = some (AV.int .i64 (↑(i + (1 : Nat)) : Int)) from inc_i (by omega)) <| .cutQ k145_0 [(0, AV.sl .sh (List.map encM a)), (1, AV.sl .sh (List.map encM b)), (12, AV.int .i64 (↑a.length : Int)), (13, AV.int .i64 (↑(i + (1 : Nat)) : Int))] ({ boxes := [], toks := [], loops := [] : Heap }) (fun T hT => (ih (q) (i + (1 : Nat)) hnx hnq T hT).to (by grind [same2, eqM])))) (by kernel_rfl)
theorem sameMp (a b : List Term) (hn : a.length < 9223372036854775807) : Gives cfg 145 [.sl .sh (a.map encM), .sl .sh (b.map encM)] (.bool (same2 eqM a b)) := by
  refine Gives.run (l145 _ _) ?_
  by_cases he : a.length = b.length
  · have h := sameMp_loop a b hn he a b 0 rfl rfl
    exact goG 60 []  trivial  (.len (show lenA false (AV.sl .sh (List.map encM a)) = some (AV.int .i64 (↑a.length : Int)) from len_map _) <| .len (show lenA false (AV.sl .sh (List.map encM b)) = some (AV.int .i64 (↑b.length : Int)) from len_map _) <| .no (show ((↑a.length : Int) != (↑b.length : Int)) = false from Bool.eq_false_iff.2 (show ¬ (((↑a.length : Int) != (↑b.length : Int)) = true) from (by simp [he]))) <| .len (show lenA false (AV.sl .sh (List.map encM a)) = some (AV.int .i64 (↑a.length : Int)) from len_map _) <| .cutQ k145_0 [(0, AV.sl .sh (List.map encM a)), (1, AV.sl .sh (List.map encM b)), (12, AV.int .i64 (↑a.length : Int)), (13, AV.int .i64 0)] ({ boxes := [], toks := [], loops := [] : Heap }) (fun T hT => (h T hT))) (by kernel_rfl)
  · rw [same2_len he]
    exact goG 60 []  trivial  (.len (show lenA false (AV.sl .sh (List.map encM a)) = some (AV.int .i64 (↑a.length : Int)) from len_map _) <| .len (show lenA false (AV.sl .sh (List.map encM b)) = some (AV.int .i64 (↑b.length : Int)) from len_map _) <| .yes (show ((↑a.length : Int) != (↑b.length : Int)) = true from (by simp; omega)) <| .fin ((ARes.ret (AV.bool false), { boxes := [], toks := [], loops := [] : Heap })) rfl) (by kernel_rfl)
theorem sameLp_loop (a b : List Tol) (hn : a.length < 9223372036854775807) (he : a.length = b.length) : ∀ (post q : List Tol) (i : Nat) (hd : a.drop i = post) (hq : b.drop i = q) (T : Env) (hT : Has T [(0, .sl .sh (a.map encL)), (1, .sl .sh (b.map encL)), (12, .int .i64 a.length), (13, .int .i64 i)]),
    Goes cfg a146 k146_0 T Heap.nil (IsRet (.bool (same2 eqL post q))) := by
  intro post
  induction post with
  | nil =>
    intro q i hd hq T hT
    have hge := drop_ge hd
    have e : q = [] := by rw [← hq]; exact List.drop_eq_nil_of_le (by omega)
    subst e
    exact goG 60 _  hT  (.no (show (decide ((↑i : Int) < (↑a.length : Int))) = false from decide_eq_false (show ¬ ((↑i : Int) < (↑a.length : Int)) from (by omega))) <| .fin ((ARes.ret (AV.bool true), { boxes := [], toks := [], loops := [] : Heap })) rfl) (by kernel_rfl)
  | cons x post ih =>
    intro q i hd hq T hT
    have hlt := drop_lt hd
    have hnx := drop_next hd
    cases q with
    | nil => have := drop_ge hq; omega
    | cons y q =>
      have hnq := drop_next hq
      exact goG 60 _  hT  (.yes (show (decide ((↑i : Int) < (↑a.length : Int))) = true from decide_eq_true (show (↑i : Int) < (↑a.length : Int) from (by omega))) <| .idx (show idxA 3 (AV.sl .sh (List.map encL a)) (AV.int .i64 (↑i : Int)) = some (AV.ref (encL x).cells) from idx_row hd (by rfl)) <| .idx (show idxA 3 (AV.sl .sh (List.map encL b)) (AV.int .i64 (↑i : Int)) = some (AV.ref (encL y).cells) from idx_row hq (by rfl)) <| .split ((if true = true then !(x.key == y.key && (x.val == y.val && (x.any == y.any && true))) else x.key == y.key && (x.val == y.val && (x.any == y.any && true))) = true) (fun h1 => .yes (show (if true = true then !(x.key == y.key && (x.val == y.val && (x.any == y.any && true))) else x.key == y.key && (x.val == y.val && (x.any == y.any && true))) = true from h1) <| .fin ((ARes.ret (AV.bool false), { boxes := [], toks := [], loops := [] : Heap })) (by simp only [IsRet]; grind [same2, eqL])) (fun h1 => .no (show (if true = true then !(x.key == y.key && (x.val == y.val && (x.any == y.any && true))) else x.key == y.key && (x.val == y.val && (x.any == y.any && true))) = false from Bool.eq_false_iff.2 (show ¬ ((if true = true then !(x.key == y.key && (x.val == y.val && (x.any == y.any && true))) else x.key == y.key && (x.val == y.val && (x.any == y.any && true))) = true) from h1)) <| .bin (show binA .add (AV.int .i64 (↑i : Int)) (AV.int .i64 1) = some (AV.int .i64 (↑(i + (1 : Nat)) : Int)) from inc_i (by omega)) <| .cutQ k146_0 [(0, AV.sl .sh (List.map encL a)), (1, AV.sl .sh (List.map encL b)), (12, AV.int .i64 (↑a.length : Int)), (13, AV.int .i64 (↑(i + (1 : Nat)) : Int))] ({ boxes := [], toks := [], loops := [] : Heap }) (fun T hT => (ih (q) (i + (1 : Nat)) hnx hnq T hT).to (by grind [same2, eqL])))) (by kernel_rfl)
theorem sameLp (a b : List Tol) (hn : a.length < 9223372036854775807) : Gives cfg 146 [.sl .sh (a.map encL), .sl .sh (b.map encL)] (.bool (same2 eqL a b)) := by
  refine Gives.run (l146 _ _) ?_
  by_cases he : a.length = b.length
  · have h := sameLp_loop a b hn he a b 0 rfl rfl
    exact goG 60 []  trivial  (.len (show lenA false (AV.sl .sh (List.map encL a)) = some (AV.int .i64 (↑a.length : Int)) from len_map _) <| .len (show lenA false (AV.sl .sh (List.map encL b)) = some (AV.int .i64 (↑b.length : Int)) from len_map _) <| .no (show ((↑a.length : Int) != (↑b.length : Int)) = false from Bool.eq_false_iff.2 (show ¬ (((↑a.length : Int) != (↑b.length : Int)) = true) from (by simp [he]))) <| .len (show lenA false (AV.sl .sh (List.map encL a)) = some (AV.int .i64 (↑a.length : Int)) from len_map _) <| .cutQ k146_0 [(0, AV.sl .sh (List.map encL a)), (1, AV.sl .sh (List.map encL b)), (12, AV.int .i64 (↑a.length : Int)), (13, AV.int .i64 0)] ({ boxes := [], toks := [], loops := [] : Heap }) (fun T hT => (h T hT))) (by kernel_rfl)
  · rw [same2_len he]
    exact goG 60 []  trivial  (.len (show lenA false (AV.sl .sh (List.map encL a)) = some (AV.int .i64 (↑a.length : Int)) from len_map _) <| .len (show lenA false (AV.sl .sh (List.map encL b)) = some (AV.int .i64 (↑b.length : Int)) from len_map _) <| .yes (show ((↑a.length : Int) != (↑b.length : Int)) = true from (by simp; omega)) <| .fin ((ARes.ret (AV.bool false), { boxes := [], toks := [], loops := [] : Heap })) rfl) (by kernel_rfl)
theorem sameV (a b : List Amount) (hn : a.length < 9223372036854775807) : Gives cfg 53 [.sl .sh (a.map encA), .sl .sh (b.map encA)] (.bool (same2 eqA a b)) := by
  refine Gives.run (l53 _ _) ?_
  have h := sameVp a b hn
  exact goG 60 []  trivial  (.callG ([AV.sl .sh (List.map encA a), AV.sl .sh (List.map encA b)]) (AV.bool (same2 eqA a b)) (show Gives cfg (130 : FuncId) [AV.sl .sh (List.map encA a), AV.sl .sh (List.map encA b)] (AV.bool (same2 eqA a b)) from h) ⟨rfl, rfl⟩ ⟨rfl, rfl⟩ <| .fin ((ARes.ret (AV.bool (same2 eqA a b)), { boxes := [], toks := [], loops := [] : Heap })) rfl) (by kernel_rfl)
end Go.Aa.T

set_option linter.unusedVariables false
set_option linter.unusedSimpArgs false
set_option maxRecDepth 100000
namespace Go.Aa.T
open Go.Aa Go.Proofs
def short1 (x : Amount) : Bool := decide (x.name.length ≤ 50)
def fewA (l : List Amount) : Bool := decide (l.length ≤ 20) && l.all short1
theorem fewA_len {l : List Amount} (h : fewA l = true) : l.length ≤ 20 := by
  simp only [fewA, Bool.and_eq_true, decide_eq_true_eq] at h; exact h.1
theorem fewA_loop (l : List Amount) (hn : l.length ≤ 20) : ∀ (post : List Amount) (i : Nat) (hd : l.drop i = post) (T : Env) (hT : Has T [(0, .sl .sh (l.map encA)), (3, .int .i64 i)]),
    Goes cfg a62 k62_0 T Heap.nil (IsRet (.bool (post.all short1))) := by
  intro post
  induction post with
  | nil =>
    intro i hd T hT
    have hge := drop_ge hd
    exact goG 60 _  hT  (.len (show lenA false (AV.sl .sh (List.map encA l)) = some (AV.int .i64 (↑l.length : Int)) from len_map _) <| .no (show (decide ((↑i : Int) < (↑l.length : Int))) = false from decide_eq_false (show ¬ ((↑i : Int) < (↑l.length : Int)) from (by omega))) <| .fin ((ARes.ret (AV.bool true), { boxes := [], toks := [], loops := [] : Heap })) rfl) (by kernel_rfl)
  | cons x post ih =>
    intro i hd T hT
    have hlt := drop_lt hd
    have hnx := drop_next hd
    exact goG 60 _  hT  (.len (show lenA false (AV.sl .sh (List.map encA l)) = some (AV.int .i64 (↑l.length : Int)) from len_map _) <| .yes (show (decide ((↑i : Int) < (↑l.length : Int))) = true from decide_eq_true (show (↑i : Int) < (↑l.length : Int) from (by omega))) <| .idx (show idxA 2 (AV.sl .sh (List.map encA l)) (AV.int .i64 (↑i : Int)) = some (AV.ref (encA x).cells) from idx_row hd (by rfl)) <| .len (show lenA true (AV.str x.name) = some (AV.int .i64 (↑x.name.length : Int)) from len_str _) <| .split ((50 : Int) < (↑x.name.length : Int)) (fun h1 => .yes (show (decide ((50 : Int) < (↑x.name.length : Int))) = true from decide_eq_true (show (50 : Int) < (↑x.name.length : Int) from h1)) <| .fin ((ARes.ret (AV.bool false), { boxes := [], toks := [], loops := [] : Heap })) (by simp only [IsRet]; grind [short1])) (fun h1 => .no (show (decide ((50 : Int) < (↑x.name.length : Int))) = false from decide_eq_false (show ¬ ((50 : Int) < (↑x.name.length : Int)) from h1)) <| .bin (show binA .add (AV.int .i64 (↑i : Int)) (AV.int .i64 1) = some (AV.int .i64 (↑(i + (1 : Nat)) : Int)) from inc_i (by omega)) <| .cutQ k62_0 [(0, AV.sl .sh (List.map encA l)), (3, AV.int .i64 (↑(i + (1 : Nat)) : Int))] ({ boxes := [], toks := [], loops := [] : Heap }) (fun T hT => (ih (i + (1 : Nat)) hnx T hT).to (by grind [short1])))) (by kernel_rfl)
theorem fewA_any (l : List Amount) : Gives cfg 62 [.sl .sh (l.map encA)] (.bool (fewA l)) := by
  refine Gives.run (l62 _ _) ?_
  have h := fun hn => fewA_loop l hn l 0 rfl
  exact goG 60 []  trivial  (.len (show lenA false (AV.sl .sh (List.map encA l)) = some (AV.int .i64 (↑l.length : Int)) from len_map _) <| .split ((20 : Int) < (↑l.length : Int)) (fun h1 => .yes (show (decide ((20 : Int) < (↑l.length : Int))) = true from decide_eq_true (show (20 : Int) < (↑l.length : Int) from h1)) <| .fin ((ARes.ret (AV.bool false), { boxes := [], toks := [], loops := [] : Heap })) (by simp only [IsRet]; grind [fewA])) (fun h1 => .no (show (decide ((20 : Int) < (↑l.length : Int))) = false from decide_eq_false (show ¬ ((20 : Int) < (↑l.length : Int)) from h1)) <| .cutQ k62_0 [(0, AV.sl .sh (List.map encA l)), (3, AV.int .i64 0)] ({ boxes := [], toks := [], loops := [] : Heap }) (fun T hT => (h (by omega) T hT).to (by grind [fewA])))) (by kernel_rfl)
theorem ofA_loop (l : List Amount) (hn : l.length ≤ 20) : ∀ (post : List Amount) (i : Nat) (acc : List AV) (hd : l.drop i = post) (ha : acc.length = i) (hl : lenOk 2 acc = true) (T : Env) (hT : Has T [(0, .sl .sh (l.map encA)), (3, rowS Heap.nil acc), (4, .int .i64 i)]),
    Goes cfg a36 k36_0 T (rowH Heap.nil acc) (IsRet (rowS Heap.nil (acc ++ post.map encA))) := by
  intro post
  induction post with
  | nil =>
    intro i acc hd ha hl T hT
    have hge := drop_ge hd
    exact goG 60 _  hT  (.len (show lenA false (AV.sl .sh (List.map encA l)) = some (AV.int .i64 (↑l.length : Int)) from len_map _) <| .no (show (decide ((↑i : Int) < (↑l.length : Int))) = false from decide_eq_false (show ¬ ((↑i : Int) < (↑l.length : Int)) from (by omega))) <| .fin ((ARes.ret (setD (setD (setD (setD (setD (setD (updL T [((0 : Nat), AV.sl .sh (List.map encA l)), ((3 : Nat), rowS Heap.nil acc), ((4 : Nat), AV.int .i64 (↑i : Int))]) { dst := some (5 : Nat), op := AOp.mov (Opd.t (4 : Nat)), guard := none, deps := [] : AOper }.dst (ev (updL T [((0 : Nat), AV.sl .sh (List.map encA l)), ((3 : Nat), rowS Heap.nil acc), ((4 : Nat), AV.int .i64 (↑i : Int))]) (Opd.t (4 : Nat)))) { dst := some (6 : Nat), op := AOp.mov (Opd.t (0 : Nat)), guard := none, deps := [] : AOper }.dst (ev (setD (updL T [((0 : Nat), AV.sl .sh (List.map encA l)), ((3 : Nat), rowS Heap.nil acc), ((4 : Nat), AV.int .i64 (↑i : Int))]) { dst := some (5 : Nat), op := AOp.mov (Opd.t (4 : Nat)), guard := none, deps := [] : AOper }.dst (ev (updL T [((0 : Nat), AV.sl .sh (List.map encA l)), ((3 : Nat), rowS Heap.nil acc), ((4 : Nat), AV.int .i64 (↑i : Int))]) (Opd.t (4 : Nat)))) (Opd.t (0 : Nat)))) { dst := some (7 : Nat), op := AOp.len false (Opd.t (6 : Nat)), guard := none, deps := [] : AOper }.dst (AV.int .i64 (↑l.length : Int))) { dst := some (8 : Nat), op := AOp.bin BinOp.lss (Opd.t (5 : Nat)) (Opd.t (7 : Nat)), guard := none, deps := [] : AOper }.dst (AV.bool (decide ((↑i : Int) < (↑l.length : Int))))) { dst := some (25 : Nat), op := AOp.mov (Opd.t (3 : Nat)), guard := none, deps := [] : AOper }.dst (ev (setD (setD (setD (setD (updL T [((0 : Nat), AV.sl .sh (List.map encA l)), ((3 : Nat), rowS Heap.nil acc), ((4 : Nat), AV.int .i64 (↑i : Int))]) { dst := some (5 : Nat), op := AOp.mov (Opd.t (4 : Nat)), guard := none, deps := [] : AOper }.dst (ev (updL T [((0 : Nat), AV.sl .sh (List.map encA l)), ((3 : Nat), rowS Heap.nil acc), ((4 : Nat), AV.int .i64 (↑i : Int))]) (Opd.t (4 : Nat)))) { dst := some (6 : Nat), op := AOp.mov (Opd.t (0 : Nat)), guard := none, deps := [] : AOper }.dst (ev (setD (updL T [((0 : Nat), AV.sl .sh (List.map encA l)), ((3 : Nat), rowS Heap.nil acc), ((4 : Nat), AV.int .i64 (↑i : Int))]) { dst := some (5 : Nat), op := AOp.mov (Opd.t (4 : Nat)), guard := none, deps := [] : AOper }.dst (ev (updL T [((0 : Nat), AV.sl .sh (List.map encA l)), ((3 : Nat), rowS Heap.nil acc), ((4 : Nat), AV.int .i64 (↑i : Int))]) (Opd.t (4 : Nat)))) (Opd.t (0 : Nat)))) { dst := some (7 : Nat), op := AOp.len false (Opd.t (6 : Nat)), guard := none, deps := [] : AOper }.dst (AV.int .i64 (↑l.length : Int))) { dst := some (8 : Nat), op := AOp.bin BinOp.lss (Opd.t (5 : Nat)) (Opd.t (7 : Nat)), guard := none, deps := [] : AOper }.dst (AV.bool (decide ((↑i : Int) < (↑l.length : Int))))) (Opd.t (3 : Nat)))) { dst := some (2 : Nat), op := AOp.mov (Opd.t (25 : Nat)), guard := none, deps := [] : AOper }.dst (ev (setD (setD (setD (setD (setD (updL T [((0 : Nat), AV.sl .sh (List.map encA l)), ((3 : Nat), rowS Heap.nil acc), ((4 : Nat), AV.int .i64 (↑i : Int))]) { dst := some (5 : Nat), op := AOp.mov (Opd.t (4 : Nat)), guard := none, deps := [] : AOper }.dst (ev (updL T [((0 : Nat), AV.sl .sh (List.map encA l)), ((3 : Nat), rowS Heap.nil acc), ((4 : Nat), AV.int .i64 (↑i : Int))]) (Opd.t (4 : Nat)))) { dst := some (6 : Nat), op := AOp.mov (Opd.t (0 : Nat)), guard := none, deps := [] : AOper }.dst (ev (setD (updL T [((0 : Nat), AV.sl .sh (List.map encA l)), ((3 : Nat), rowS Heap.nil acc), ((4 : Nat), AV.int .i64 (↑i : Int))]) { dst := some (5 : Nat), op := AOp.mov (Opd.t (4 : Nat)), guard := none, deps := [] : AOper }.dst (ev (updL T [((0 : Nat), AV.sl .sh (List.map encA l)), ((3 : Nat), rowS Heap.nil acc), ((4 : Nat), AV.int .i64 (↑i : Int))]) (Opd.t (4 : Nat)))) (Opd.t (0 : Nat)))) { dst := some (7 : Nat), op := AOp.len false (Opd.t (6 : Nat)), guard := none, deps := [] : AOper }.dst (AV.int .i64 (↑l.length : Int))) { dst := some (8 : Nat), op := AOp.bin BinOp.lss (Opd.t (5 : Nat)) (Opd.t (7 : Nat)), guard := none, deps := [] : AOper }.dst (AV.bool (decide ((↑i : Int) < (↑l.length : Int))))) { dst := some (25 : Nat), op := AOp.mov (Opd.t (3 : Nat)), guard := none, deps := [] : AOper }.dst (ev (setD (setD (setD (setD (updL T [((0 : Nat), AV.sl .sh (List.map encA l)), ((3 : Nat), rowS Heap.nil acc), ((4 : Nat), AV.int .i64 (↑i : Int))]) { dst := some (5 : Nat), op := AOp.mov (Opd.t (4 : Nat)), guard := none, deps := [] : AOper }.dst (ev (updL T [((0 : Nat), AV.sl .sh (List.map encA l)), ((3 : Nat), rowS Heap.nil acc), ((4 : Nat), AV.int .i64 (↑i : Int))]) (Opd.t (4 : Nat)))) { dst := some (6 : Nat), op := AOp.mov (Opd.t (0 : Nat)), guard := none, deps := [] : AOper }.dst (ev (setD (updL T [((0 : Nat), AV.sl .sh (List.map encA l)), ((3 : Nat), rowS Heap.nil acc), ((4 : Nat), AV.int .i64 (↑i : Int))]) { dst := some (5 : Nat), op := AOp.mov (Opd.t (4 : Nat)), guard := none, deps := [] : AOper }.dst (ev (updL T [((0 : Nat), AV.sl .sh (List.map encA l)), ((3 : Nat), rowS Heap.nil acc), ((4 : Nat), AV.int .i64 (↑i : Int))]) (Opd.t (4 : Nat)))) (Opd.t (0 : Nat)))) { dst := some (7 : Nat), op := AOp.len false (Opd.t (6 : Nat)), guard := none, deps := [] : AOper }.dst (AV.int .i64 (↑l.length : Int))) { dst := some (8 : Nat), op := AOp.bin BinOp.lss (Opd.t (5 : Nat)) (Opd.t (7 : Nat)), guard := none, deps := [] : AOper }.dst (AV.bool (decide ((↑i : Int) < (↑l.length : Int))))) (Opd.t (3 : Nat)))) (Opd.t (25 : Nat))) (2 : Nat)), rowH Heap.nil acc)) (by simp only [IsRet, List.map_nil, List.append_nil]; rfl)) (by kernel_rfl)
  | cons x post ih =>
    intro i acc hd ha hl T hT
    have hlt := drop_lt hd
    have hnx := drop_next hd
    exact goG 60 _  hT  (.len (show lenA false (AV.sl .sh (List.map encA l)) = some (AV.int .i64 (↑l.length : Int)) from len_map _) <| .yes (show (decide ((↑i : Int) < (↑l.length : Int))) = true from decide_eq_true (show (↑i : Int) < (↑l.length : Int) from (by simp; omega))) <| .idx (show idxA 2 (AV.sl .sh (List.map encA l)) (AV.int .i64 (↑i : Int)) = some (AV.ref (encA x).cells) from idx_row hd (by rfl)) <| .load (show loadA false 1 (rowH Heap.nil acc) (AV.ref [AV.str x.name]) = some (AV.str x.name) from rfl) <| .idx (show idxA 2 (AV.sl .sh (List.map encA l)) (AV.int .i64 (↑i : Int)) = some (AV.ref (encA x).cells) from idx_row hd (by rfl)) <| .load (show loadA false 1 (rowH Heap.nil acc) (AV.ref [AV.int .i64 x.n]) = some (AV.int .i64 x.n) from rfl) <| .append (show appendA (2 : Nat) (24 : Nat) (rowH Heap.nil acc) (rowS Heap.nil acc) (AV.sl .full [AV.agg [AV.str x.name, AV.int .i64 x.n]]) = some ((rowS Heap.nil (acc ++ [AV.agg [AV.str x.name, AV.int .i64 x.n]]), rowH Heap.nil (acc ++ [AV.agg [AV.str x.name, AV.int .i64 x.n]]))) from row_append (by omega) hl (by rfl) (by rfl)) <| .bin (show binA .add (AV.int .i64 (↑i : Int)) (AV.int .i64 1) = some (AV.int .i64 (↑(i + (1 : Nat)) : Int)) from inc_i (by omega)) <| .cutQ k36_0 [(0, AV.sl .sh (List.map encA l)), (3, rowS Heap.nil (acc ++ [AV.agg [AV.str x.name, AV.int .i64 x.n]])), (4, AV.int .i64 (↑(i + (1 : Nat)) : Int))] (rowH Heap.nil (acc ++ [AV.agg [AV.str x.name, AV.int .i64 x.n]])) (fun T hT => (ih (i + (1 : Nat)) (acc ++ [AV.agg [AV.str x.name, AV.int .i64 x.n]]) hnx (by simp; omega) (by exact lenOk_snoc (by assumption) rfl) T hT).to (by simp [encA]))) (by kernel_rfl)
theorem ofA_any (l : List Amount) (hn : l.length ≤ 20) : Gives cfg 36 [.sl .sh (l.map encA)] (rowS Heap.nil (l.map encA)) := by
  refine Gives.run (l36 _ _) ?_
  have h := ofA_loop l hn l 0 [] rfl rfl rfl
  exact goG 60 []  trivial  (.cutQ k36_0 [(0, AV.sl .sh (List.map encA l)), (3, AV.sl .full []), (4, AV.int .i64 0)] ({ boxes := [], toks := [], loops := [] : Heap }) (fun T hT => (h T hT))) (by kernel_rfl)

instance (n : Node) : Dat (encN n) := ⟨rfl, rfl⟩
def fewN (n : Node) : Bool := decide (n.name.length ≤ 50) && (fewA n.cap && (fewP n.labels && fewT n.taints))
theorem fewN_any (n : Node) : Gives cfg 96 [encN n] (.bool (fewN n)) := by
  refine Gives.run (l96 _ _) ?_
  exact goG 80 []  trivial  (.len (show lenA true (AV.str n.name) = some (AV.int .i64 (↑n.name.length : Int)) from len_str _) <| .split ((↑n.name.length : Int) ≤ (50 : Int)) (fun h1 => .yes (show (decide ((↑n.name.length : Int) ≤ (50 : Int))) = true from decide_eq_true (show (↑n.name.length : Int) ≤ (50 : Int) from h1)) <| .callG ([AV.sl .sh (List.map encA n.cap)]) (AV.bool (fewA n.cap)) (show Gives cfg (62 : FuncId) [AV.sl .sh (List.map encA n.cap)] (AV.bool (fewA n.cap)) from fewA_any _) ⟨rfl, rfl⟩ ⟨rfl, rfl⟩ <| .split (fewA n.cap = true) (fun h2 => .yes (show (fewA n.cap) = true from h2) <| .callG ([AV.sl .sh (List.map encP n.labels)]) (AV.bool (fewP n.labels)) (show Gives cfg (63 : FuncId) [AV.sl .sh (List.map encP n.labels)] (AV.bool (fewP n.labels)) from fewP_any _) ⟨rfl, rfl⟩ ⟨rfl, rfl⟩ <| .split (fewP n.labels = true) (fun h3 => .yes (show (fewP n.labels) = true from h3) <| .callG ([AV.sl .sh (List.map encT n.taints)]) (AV.bool (fewT n.taints)) (show Gives cfg (166 : FuncId) [AV.sl .sh (List.map encT n.taints)] (AV.bool (fewT n.taints)) from fewT_any _) ⟨rfl, rfl⟩ ⟨rfl, rfl⟩ <| .fin ((ARes.ret (AV.bool (fewT n.taints)), { boxes := [[AV.str n.name, AV.sl .sh (List.map encA n.cap), AV.sl .sh (List.map encP n.labels), AV.sl .sh (List.map encT n.taints), AV.bool n.cordon]], toks := [], loops := [] : Heap })) (by simp only [IsRet]; grind [fewN])) (fun h3 => .no (show (fewP n.labels) = false from Bool.eq_false_iff.2 (show ¬ (fewP n.labels = true) from h3)) <| .fin ((ARes.ret (AV.bool false), { boxes := [[AV.str n.name, AV.sl .sh (List.map encA n.cap), AV.sl .sh (List.map encP n.labels), AV.sl .sh (List.map encT n.taints), AV.bool n.cordon]], toks := [], loops := [] : Heap })) (by simp only [IsRet]; grind [fewN]))) (fun h2 => .no (show (fewA n.cap) = false from Bool.eq_false_iff.2 (show ¬ (fewA n.cap = true) from h2)) <| .ff <| .fin ((ARes.ret (AV.bool false), { boxes := [[AV.str n.name, AV.sl .sh (List.map encA n.cap), AV.sl .sh (List.map encP n.labels), AV.sl .sh (List.map encT n.taints), AV.bool n.cordon]], toks := [], loops := [] : Heap })) (by simp only [IsRet]; grind [fewN]))) (fun h1 => .no (show (decide ((↑n.name.length : Int) ≤ (50 : Int))) = false from decide_eq_false (show ¬ ((↑n.name.length : Int) ≤ (50 : Int)) from h1)) <| .ff <| .ff <| .fin ((ARes.ret (AV.bool false), { boxes := [[AV.str n.name, AV.sl .sh (List.map encA n.cap), AV.sl .sh (List.map encP n.labels), AV.sl .sh (List.map encT n.taints), AV.bool n.cordon]], toks := [], loops := [] : Heap })) (by simp only [IsRet]; grind [fewN]))) (by kernel_rfl)
structure FewNd (n : Node) : Prop where
  cap : n.cap.length ≤ 20
  labels : n.labels.length ≤ 20
  taints : n.taints.length ≤ 20
theorem fewNd {n : Node} (h : fewN n = true) : FewNd n := by
  simp only [fewN, Bool.and_eq_true, decide_eq_true_eq] at h
  exact ⟨fewA_len h.2.1, fewP_len h.2.2.1, fewT_len h.2.2.2⟩
theorem ofN1 (n : Node) (m1 : n.cap.length ≤ 20) (m2 : n.labels.length ≤ 20) (m3 : n.taints.length ≤ 20) : Gives cfg 147 [encN n] (encN n) := by
  refine Gives.run (l147 _ _) ?_
  exact goG 80 []  trivial  (.callG ([AV.sl .sh (List.map encA n.cap)]) (AV.sl .sh (List.map encA n.cap)) (show Gives cfg (36 : FuncId) [AV.sl .sh (List.map encA n.cap)] (rowS Heap.nil (List.map encA n.cap)) from ofA_any _ m1) ⟨rfl, rfl⟩ Res.p <| .callG ([AV.sl .sh (List.map encP n.labels)]) (AV.sl .sh (List.map encP n.labels)) (show Gives cfg (71 : FuncId) [AV.sl .sh (List.map encP n.labels)] (rowS Heap.nil (List.map encP n.labels)) from ofP_any _ m2) ⟨rfl, rfl⟩ Res.p <| .callG ([AV.sl .sh (List.map encT n.taints)]) (AV.sl .sh (List.map encT n.taints)) (show Gives cfg (198 : FuncId) [AV.sl .sh (List.map encT n.taints)] (rowS Heap.nil (List.map encT n.taints)) from ofT_any _ m3) ⟨rfl, rfl⟩ Res.p <| .fin ((ARes.ret (AV.agg [AV.str n.name, AV.sl .sh (List.map encA n.cap), AV.sl .sh (List.map encP n.labels), AV.sl .sh (List.map encT n.taints), AV.bool n.cordon]), { boxes := [[AV.str n.name, AV.sl .sh (List.map encA n.cap), AV.sl .sh (List.map encP n.labels), AV.sl .sh (List.map encT n.taints), AV.bool n.cordon], [AV.str n.name, AV.sl .sh (List.map encA n.cap), AV.sl .sh (List.map encP n.labels), AV.sl .sh (List.map encT n.taints), AV.bool n.cordon]], toks := [], loops := [] : Heap })) rfl) (by kernel_rfl)
theorem ofN_any (n : Node) (h : fewN n = true) : Gives cfg 147 [encN n] (encN n) := ofN1 n (fewNd h).cap (fewNd h).labels (fewNd h).taints
theorem ofNs_loop (l : List Node) (hn : l.length ≤ 40) (hf : ∀ x ∈ l, fewN x = true) : ∀ (post : List Node) (i : Nat) (acc : List AV) (hd : l.drop i = post) (ha : acc.length = i) (hl : lenOk 5 acc = true) (T : Env) (hT : Has T [(0, .sl .sh (l.map encN)), (3, rowS Heap.nil acc), (4, .int .i64 i)]),
    Goes cfg a74 k74_0 T (rowH Heap.nil acc) (IsRet (rowS Heap.nil (acc ++ post.map encN))) := by
  intro post
  induction post with
  | nil =>
    intro i acc hd ha hl T hT
    have hge := drop_ge hd
    exact goG 60 _  hT  (.len (show lenA false (AV.sl .sh (List.map encN l)) = some (AV.int .i64 (↑l.length : Int)) from len_map _) <| .no (show (decide ((↑i : Int) < (↑l.length : Int))) = false from decide_eq_false (show ¬ ((↑i : Int) < (↑l.length : Int)) from (by omega))) <| .fin ((ARes.ret (setD (setD (setD (setD (setD (setD (updL T [((0 : Nat), AV.sl .sh (List.map encN l)), ((3 : Nat), rowS Heap.nil acc), ((4 : Nat), AV.int .i64 (↑i : Int))]) { dst := some (5 : Nat), op := AOp.mov (Opd.t (4 : Nat)), guard := none, deps := [] : AOper }.dst (ev (updL T [((0 : Nat), AV.sl .sh (List.map encN l)), ((3 : Nat), rowS Heap.nil acc), ((4 : Nat), AV.int .i64 (↑i : Int))]) (Opd.t (4 : Nat)))) { dst := some (6 : Nat), op := AOp.mov (Opd.t (0 : Nat)), guard := none, deps := [] : AOper }.dst (ev (setD (updL T [((0 : Nat), AV.sl .sh (List.map encN l)), ((3 : Nat), rowS Heap.nil acc), ((4 : Nat), AV.int .i64 (↑i : Int))]) { dst := some (5 : Nat), op := AOp.mov (Opd.t (4 : Nat)), guard := none, deps := [] : AOper }.dst (ev (updL T [((0 : Nat), AV.sl .sh (List.map encN l)), ((3 : Nat), rowS Heap.nil acc), ((4 : Nat), AV.int .i64 (↑i : Int))]) (Opd.t (4 : Nat)))) (Opd.t (0 : Nat)))) { dst := some (7 : Nat), op := AOp.len false (Opd.t (6 : Nat)), guard := none, deps := [] : AOper }.dst (AV.int .i64 (↑l.length : Int))) { dst := some (8 : Nat), op := AOp.bin BinOp.lss (Opd.t (5 : Nat)) (Opd.t (7 : Nat)), guard := none, deps := [] : AOper }.dst (AV.bool (decide ((↑i : Int) < (↑l.length : Int))))) { dst := some (19 : Nat), op := AOp.mov (Opd.t (3 : Nat)), guard := none, deps := [] : AOper }.dst (ev (setD (setD (setD (setD (updL T [((0 : Nat), AV.sl .sh (List.map encN l)), ((3 : Nat), rowS Heap.nil acc), ((4 : Nat), AV.int .i64 (↑i : Int))]) { dst := some (5 : Nat), op := AOp.mov (Opd.t (4 : Nat)), guard := none, deps := [] : AOper }.dst (ev (updL T [((0 : Nat), AV.sl .sh (List.map encN l)), ((3 : Nat), rowS Heap.nil acc), ((4 : Nat), AV.int .i64 (↑i : Int))]) (Opd.t (4 : Nat)))) { dst := some (6 : Nat), op := AOp.mov (Opd.t (0 : Nat)), guard := none, deps := [] : AOper }.dst (ev (setD (updL T [((0 : Nat), AV.sl .sh (List.map encN l)), ((3 : Nat), rowS Heap.nil acc), ((4 : Nat), AV.int .i64 (↑i : Int))]) { dst := some (5 : Nat), op := AOp.mov (Opd.t (4 : Nat)), guard := none, deps := [] : AOper }.dst (ev (updL T [((0 : Nat), AV.sl .sh (List.map encN l)), ((3 : Nat), rowS Heap.nil acc), ((4 : Nat), AV.int .i64 (↑i : Int))]) (Opd.t (4 : Nat)))) (Opd.t (0 : Nat)))) { dst := some (7 : Nat), op := AOp.len false (Opd.t (6 : Nat)), guard := none, deps := [] : AOper }.dst (AV.int .i64 (↑l.length : Int))) { dst := some (8 : Nat), op := AOp.bin BinOp.lss (Opd.t (5 : Nat)) (Opd.t (7 : Nat)), guard := none, deps := [] : AOper }.dst (AV.bool (decide ((↑i : Int) < (↑l.length : Int))))) (Opd.t (3 : Nat)))) { dst := some (2 : Nat), op := AOp.mov (Opd.t (19 : Nat)), guard := none, deps := [] : AOper }.dst (ev (setD (setD (setD (setD (setD (updL T [((0 : Nat), AV.sl .sh (List.map encN l)), ((3 : Nat), rowS Heap.nil acc), ((4 : Nat), AV.int .i64 (↑i : Int))]) { dst := some (5 : Nat), op := AOp.mov (Opd.t (4 : Nat)), guard := none, deps := [] : AOper }.dst (ev (updL T [((0 : Nat), AV.sl .sh (List.map encN l)), ((3 : Nat), rowS Heap.nil acc), ((4 : Nat), AV.int .i64 (↑i : Int))]) (Opd.t (4 : Nat)))) { dst := some (6 : Nat), op := AOp.mov (Opd.t (0 : Nat)), guard := none, deps := [] : AOper }.dst (ev (setD (updL T [((0 : Nat), AV.sl .sh (List.map encN l)), ((3 : Nat), rowS Heap.nil acc), ((4 : Nat), AV.int .i64 (↑i : Int))]) { dst := some (5 : Nat), op := AOp.mov (Opd.t (4 : Nat)), guard := none, deps := [] : AOper }.dst (ev (updL T [((0 : Nat), AV.sl .sh (List.map encN l)), ((3 : Nat), rowS Heap.nil acc), ((4 : Nat), AV.int .i64 (↑i : Int))]) (Opd.t (4 : Nat)))) (Opd.t (0 : Nat)))) { dst := some (7 : Nat), op := AOp.len false (Opd.t (6 : Nat)), guard := none, deps := [] : AOper }.dst (AV.int .i64 (↑l.length : Int))) { dst := some (8 : Nat), op := AOp.bin BinOp.lss (Opd.t (5 : Nat)) (Opd.t (7 : Nat)), guard := none, deps := [] : AOper }.dst (AV.bool (decide ((↑i : Int) < (↑l.length : Int))))) { dst := some (19 : Nat), op := AOp.mov (Opd.t (3 : Nat)), guard := none, deps := [] : AOper }.dst (ev (setD (setD (setD (setD (updL T [((0 : Nat), AV.sl .sh (List.map encN l)), ((3 : Nat), rowS Heap.nil acc), ((4 : Nat), AV.int .i64 (↑i : Int))]) { dst := some (5 : Nat), op := AOp.mov (Opd.t (4 : Nat)), guard := none, deps := [] : AOper }.dst (ev (updL T [((0 : Nat), AV.sl .sh (List.map encN l)), ((3 : Nat), rowS Heap.nil acc), ((4 : Nat), AV.int .i64 (↑i : Int))]) (Opd.t (4 : Nat)))) { dst := some (6 : Nat), op := AOp.mov (Opd.t (0 : Nat)), guard := none, deps := [] : AOper }.dst (ev (setD (updL T [((0 : Nat), AV.sl .sh (List.map encN l)), ((3 : Nat), rowS Heap.nil acc), ((4 : Nat), AV.int .i64 (↑i : Int))]) { dst := some (5 : Nat), op := AOp.mov (Opd.t (4 : Nat)), guard := none, deps := [] : AOper }.dst (ev (updL T [((0 : Nat), AV.sl .sh (List.map encN l)), ((3 : Nat), rowS Heap.nil acc), ((4 : Nat), AV.int .i64 (↑i : Int))]) (Opd.t (4 : Nat)))) (Opd.t (0 : Nat)))) { dst := some (7 : Nat), op := AOp.len false (Opd.t (6 : Nat)), guard := none, deps := [] : AOper }.dst (AV.int .i64 (↑l.length : Int))) { dst := some (8 : Nat), op := AOp.bin BinOp.lss (Opd.t (5 : Nat)) (Opd.t (7 : Nat)), guard := none, deps := [] : AOper }.dst (AV.bool (decide ((↑i : Int) < (↑l.length : Int))))) (Opd.t (3 : Nat)))) (Opd.t (19 : Nat))) (2 : Nat)), rowH Heap.nil acc)) (by simp only [IsRet, List.map_nil, List.append_nil]; rfl)) (by kernel_rfl)
  | cons x post ih =>
    intro i acc hd ha hl T hT
    have hlt := drop_lt hd
    have hnx := drop_next hd
    have hx := hf x (drop_mem hd)
    exact goG 60 _  hT  (.len (show lenA false (AV.sl .sh (List.map encN l)) = some (AV.int .i64 (↑l.length : Int)) from len_map _) <| .yes (show (decide ((↑i : Int) < (↑l.length : Int))) = true from decide_eq_true (show (↑i : Int) < (↑l.length : Int) from (by simp; omega))) <| .idx (show idxA 5 (AV.sl .sh (List.map encN l)) (AV.int .i64 (↑i : Int)) = some (AV.ref (encN x).cells) from idx_row hd (by rfl)) <| .load (show loadA true 5 (rowH Heap.nil acc) (AV.ref [AV.str x.name, AV.sl .sh (List.map encA x.cap), AV.sl .sh (List.map encP x.labels), AV.sl .sh (List.map encT x.taints), AV.bool x.cordon]) = some (AV.agg [AV.str x.name, AV.sl .sh (List.map encA x.cap), AV.sl .sh (List.map encP x.labels), AV.sl .sh (List.map encT x.taints), AV.bool x.cordon]) from rfl) <| .callG ([AV.agg [AV.str x.name, AV.sl .sh (List.map encA x.cap), AV.sl .sh (List.map encP x.labels), AV.sl .sh (List.map encT x.taints), AV.bool x.cordon]]) (AV.agg [AV.str x.name, AV.sl .sh (List.map encA x.cap), AV.sl .sh (List.map encP x.labels), AV.sl .sh (List.map encT x.taints), AV.bool x.cordon]) (show Gives cfg (147 : FuncId) [encN x] (encN x) from ofN_any _ hx) ⟨rfl, rfl⟩ ⟨rfl, rfl⟩ <| .append (show appendA (5 : Nat) (96 : Nat) (rowH Heap.nil acc) (rowS Heap.nil acc) (AV.sl .full [AV.agg [AV.str x.name, AV.sl .sh (List.map encA x.cap), AV.sl .sh (List.map encP x.labels), AV.sl .sh (List.map encT x.taints), AV.bool x.cordon]]) = some ((rowS Heap.nil (acc ++ [AV.agg [AV.str x.name, AV.sl .sh (List.map encA x.cap), AV.sl .sh (List.map encP x.labels), AV.sl .sh (List.map encT x.taints), AV.bool x.cordon]]), rowH Heap.nil (acc ++ [AV.agg [AV.str x.name, AV.sl .sh (List.map encA x.cap), AV.sl .sh (List.map encP x.labels), AV.sl .sh (List.map encT x.taints), AV.bool x.cordon]]))) from row_append (by omega) hl (by rfl) (by rfl)) <| .bin (show binA .add (AV.int .i64 (↑i : Int)) (AV.int .i64 1) = some (AV.int .i64 (↑(i + (1 : Nat)) : Int)) from inc_i (by omega)) <| .cutQ k74_0 [(0, AV.sl .sh (List.map encN l)), (3, rowS Heap.nil (acc ++ [AV.agg [AV.str x.name, AV.sl .sh (List.map encA x.cap), AV.sl .sh (List.map encP x.labels), AV.sl .sh (List.map encT x.taints), AV.bool x.cordon]])), (4, AV.int .i64 (↑(i + (1 : Nat)) : Int))] (rowH Heap.nil (acc ++ [AV.agg [AV.str x.name, AV.sl .sh (List.map encA x.cap), AV.sl .sh (List.map encP x.labels), AV.sl .sh (List.map encT x.taints), AV.bool x.cordon]])) (fun T hT => (ih (i + (1 : Nat)) (acc ++ [AV.agg [AV.str x.name, AV.sl .sh (List.map encA x.cap), AV.sl .sh (List.map encP x.labels), AV.sl .sh (List.map encT x.taints), AV.bool x.cordon]]) hnx (by simp; omega) (by exact lenOk_snoc (by assumption) rfl) T hT).to (by simp [encN]))) (by kernel_rfl)
theorem ofNs_any (l : List Node) (hn : l.length ≤ 40) (hf : ∀ x ∈ l, fewN x = true) : Gives cfg 74 [.sl .sh (l.map encN)] (rowS Heap.nil (l.map encN)) := by
  refine Gives.run (l74 _ _) ?_
  have h := ofNs_loop l hn hf l 0 [] rfl rfl rfl
  exact goG 60 []  trivial  (.cutQ k74_0 [(0, AV.sl .sh (List.map encN l)), (3, AV.sl .full []), (4, AV.int .i64 0)] ({ boxes := [], toks := [], loops := [] : Heap }) (fun T hT => (h T hT))) (by kernel_rfl)

def sameNB (a b : Node) : Bool := a.name == b.name && (a.cordon == b.cordon && (same2 eqA a.cap b.cap && (same2 eqP a.labels b.labels && same2 eqT a.taints b.taints)))
theorem sameN_ref (a b : Node) (m1 : a.cap.length < 9223372036854775807) (m2 : a.labels.length < 9223372036854775807) (m3 : a.taints.length < 9223372036854775807) : Gives cfg 126 [encN a, encN b] (.bool (sameNB a b)) := by
  refine Gives.run (l126 _ _) ?_
  exact goG 90 []  trivial  (.split ((a.name == b.name) = true) (fun h1 => .yes (show (a.name == b.name) = true from h1) <| .split ((if false = true then !a.cordon == b.cordon else a.cordon == b.cordon) = true) (fun h2 => .yes (show (if false = true then !a.cordon == b.cordon else a.cordon == b.cordon) = true from h2) <| .callG ([AV.sl .sh (List.map encA a.cap), AV.sl .sh (List.map encA b.cap)]) (AV.bool (same2 eqA a.cap b.cap)) (show Gives cfg (35 : FuncId) [AV.sl .sh (List.map encA a.cap), AV.sl .sh (List.map encA b.cap)] (AV.bool (same2 eqA a.cap b.cap)) from sameVR _ _ m1) ⟨rfl, rfl⟩ ⟨rfl, rfl⟩ <| .split (same2 eqA a.cap b.cap = true) (fun h3 => .yes (show (same2 eqA a.cap b.cap) = true from h3) <| .callG ([AV.sl .sh (List.map encP a.labels), AV.sl .sh (List.map encP b.labels)]) (AV.bool (same2 eqP a.labels b.labels)) (show Gives cfg (113 : FuncId) [AV.sl .sh (List.map encP a.labels), AV.sl .sh (List.map encP b.labels)] (AV.bool (same2 eqP a.labels b.labels)) from samePR _ _ m2) ⟨rfl, rfl⟩ ⟨rfl, rfl⟩ <| .split (same2 eqP a.labels b.labels = true) (fun h4 => .yes (show (same2 eqP a.labels b.labels) = true from h4) <| .callG ([AV.sl .sh (List.map encT a.taints), AV.sl .sh (List.map encT b.taints)]) (AV.bool (same2 eqT a.taints b.taints)) (show Gives cfg (191 : FuncId) [AV.sl .sh (List.map encT a.taints), AV.sl .sh (List.map encT b.taints)] (AV.bool (same2 eqT a.taints b.taints)) from sameTR _ _ m3) ⟨rfl, rfl⟩ ⟨rfl, rfl⟩ <| .fin ((ARes.ret (AV.bool (same2 eqT a.taints b.taints)), { boxes := [[AV.str a.name, AV.sl .sh (List.map encA a.cap), AV.sl .sh (List.map encP a.labels), AV.sl .sh (List.map encT a.taints), AV.bool a.cordon], [AV.str b.name, AV.sl .sh (List.map encA b.cap), AV.sl .sh (List.map encP b.labels), AV.sl .sh (List.map encT b.taints), AV.bool b.cordon]], toks := [], loops := [] : Heap })) (by simp only [IsRet]; grind [sameNB])) (fun h4 => .no (show (same2 eqP a.labels b.labels) = false from Bool.eq_false_iff.2 (show ¬ (same2 eqP a.labels b.labels = true) from h4)) <| .fin ((ARes.ret (AV.bool false), { boxes := [[AV.str a.name, AV.sl .sh (List.map encA a.cap), AV.sl .sh (List.map encP a.labels), AV.sl .sh (List.map encT a.taints), AV.bool a.cordon], [AV.str b.name, AV.sl .sh (List.map encA b.cap), AV.sl .sh (List.map encP b.labels), AV.sl .sh (List.map encT b.taints), AV.bool b.cordon]], toks := [], loops := [] : Heap })) (by simp only [IsRet]; grind [sameNB]))) (fun h3 => .no (show (same2 eqA a.cap b.cap) = false from Bool.eq_false_iff.2 (show ¬ (same2 eqA a.cap b.cap = true) from h3)) <| .ff <| .fin ((ARes.ret (AV.bool false), { boxes := [[AV.str a.name, AV.sl .sh (List.map encA a.cap), AV.sl .sh (List.map encP a.labels), AV.sl .sh (List.map encT a.taints), AV.bool a.cordon], [AV.str b.name, AV.sl .sh (List.map encA b.cap), AV.sl .sh (List.map encP b.labels), AV.sl .sh (List.map encT b.taints), AV.bool b.cordon]], toks := [], loops := [] : Heap })) (by simp only [IsRet]; grind [sameNB]))) (fun h2 => .no (show (if false = true then !a.cordon == b.cordon else a.cordon == b.cordon) = false from Bool.eq_false_iff.2 (show ¬ ((if false = true then !a.cordon == b.cordon else a.cordon == b.cordon) = true) from h2)) <| .ff <| .ff <| .fin ((ARes.ret (AV.bool false), { boxes := [[AV.str a.name, AV.sl .sh (List.map encA a.cap), AV.sl .sh (List.map encP a.labels), AV.sl .sh (List.map encT a.taints), AV.bool a.cordon], [AV.str b.name, AV.sl .sh (List.map encA b.cap), AV.sl .sh (List.map encP b.labels), AV.sl .sh (List.map encT b.taints), AV.bool b.cordon]], toks := [], loops := [] : Heap })) (by simp only [IsRet]; grind [sameNB]))) (fun h1 => .no (show (a.name == b.name) = false from Bool.eq_false_iff.2 (show ¬ ((a.name == b.name) = true) from h1)) <| .ff <| .ff <| .ff <| .fin ((ARes.ret (AV.bool false), { boxes := [[AV.str a.name, AV.sl .sh (List.map encA a.cap), AV.sl .sh (List.map encP a.labels), AV.sl .sh (List.map encT a.taints), AV.bool a.cordon], [AV.str b.name, AV.sl .sh (List.map encA b.cap), AV.sl .sh (List.map encP b.labels), AV.sl .sh (List.map encT b.taints), AV.bool b.cordon]], toks := [], loops := [] : Heap })) (by simp only [IsRet]; grind [sameNB]))) (by kernel_rfl)
theorem sameN_any (a b : Node) (m1 : a.cap.length < 9223372036854775807) (m2 : a.labels.length < 9223372036854775807) (m3 : a.taints.length < 9223372036854775807) : Gives cfg 122 [encN a, encN b] (.bool (sameNB a b)) := by
  refine Gives.run (l122 _ _) ?_
  exact goG 90 []  trivial  (.split ((a.name == b.name) = true) (fun h1 => .yes (show (a.name == b.name) = true from h1) <| .split ((if false = true then !a.cordon == b.cordon else a.cordon == b.cordon) = true) (fun h2 => .yes (show (if false = true then !a.cordon == b.cordon else a.cordon == b.cordon) = true from h2) <| .callG ([AV.sl .sh (List.map encA a.cap), AV.sl .sh (List.map encA b.cap)]) (AV.bool (same2 eqA a.cap b.cap)) (show Gives cfg (53 : FuncId) [AV.sl .sh (List.map encA a.cap), AV.sl .sh (List.map encA b.cap)] (AV.bool (same2 eqA a.cap b.cap)) from sameV _ _ m1) ⟨rfl, rfl⟩ ⟨rfl, rfl⟩ <| .split (same2 eqA a.cap b.cap = true) (fun h3 => .yes (show (same2 eqA a.cap b.cap) = true from h3) <| .callG ([AV.sl .sh (List.map encP a.labels), AV.sl .sh (List.map encP b.labels)]) (AV.bool (same2 eqP a.labels b.labels)) (show Gives cfg (144 : FuncId) [AV.sl .sh (List.map encP a.labels), AV.sl .sh (List.map encP b.labels)] (AV.bool (same2 eqP a.labels b.labels)) from samePp _ _ m2) ⟨rfl, rfl⟩ ⟨rfl, rfl⟩ <| .split (same2 eqP a.labels b.labels = true) (fun h4 => .yes (show (same2 eqP a.labels b.labels) = true from h4) <| .callG ([AV.sl .sh (List.map encT a.taints), AV.sl .sh (List.map encT b.taints)]) (AV.bool (same2 eqT a.taints b.taints)) (show Gives cfg (189 : FuncId) [AV.sl .sh (List.map encT a.taints), AV.sl .sh (List.map encT b.taints)] (AV.bool (same2 eqT a.taints b.taints)) from sameTp _ _ m3) ⟨rfl, rfl⟩ ⟨rfl, rfl⟩ <| .fin ((ARes.ret (AV.bool (same2 eqT a.taints b.taints)), { boxes := [[AV.str a.name, AV.sl .sh (List.map encA a.cap), AV.sl .sh (List.map encP a.labels), AV.sl .sh (List.map encT a.taints), AV.bool a.cordon], [AV.str b.name, AV.sl .sh (List.map encA b.cap), AV.sl .sh (List.map encP b.labels), AV.sl .sh (List.map encT b.taints), AV.bool b.cordon]], toks := [], loops := [] : Heap })) (by simp only [IsRet]; grind [sameNB])) (fun h4 => .no (show (same2 eqP a.labels b.labels) = false from Bool.eq_false_iff.2 (show ¬ (same2 eqP a.labels b.labels = true) from h4)) <| .fin ((ARes.ret (AV.bool false), { boxes := [[AV.str a.name, AV.sl .sh (List.map encA a.cap), AV.sl .sh (List.map encP a.labels), AV.sl .sh (List.map encT a.taints), AV.bool a.cordon], [AV.str b.name, AV.sl .sh (List.map encA b.cap), AV.sl .sh (List.map encP b.labels), AV.sl .sh (List.map encT b.taints), AV.bool b.cordon]], toks := [], loops := [] : Heap })) (by simp only [IsRet]; grind [sameNB]))) (fun h3 => .no (show (same2 eqA a.cap b.cap) = false from Bool.eq_false_iff.2 (show ¬ (same2 eqA a.cap b.cap = true) from h3)) <| .ff <| .fin ((ARes.ret (AV.bool false), { boxes := [[AV.str a.name, AV.sl .sh (List.map encA a.cap), AV.sl .sh (List.map encP a.labels), AV.sl .sh (List.map encT a.taints), AV.bool a.cordon], [AV.str b.name, AV.sl .sh (List.map encA b.cap), AV.sl .sh (List.map encP b.labels), AV.sl .sh (List.map encT b.taints), AV.bool b.cordon]], toks := [], loops := [] : Heap })) (by simp only [IsRet]; grind [sameNB]))) (fun h2 => .no (show (if false = true then !a.cordon == b.cordon else a.cordon == b.cordon) = false from Bool.eq_false_iff.2 (show ¬ ((if false = true then !a.cordon == b.cordon else a.cordon == b.cordon) = true) from h2)) <| .ff <| .ff <| .fin ((ARes.ret (AV.bool false), { boxes := [[AV.str a.name, AV.sl .sh (List.map encA a.cap), AV.sl .sh (List.map encP a.labels), AV.sl .sh (List.map encT a.taints), AV.bool a.cordon], [AV.str b.name, AV.sl .sh (List.map encA b.cap), AV.sl .sh (List.map encP b.labels), AV.sl .sh (List.map encT b.taints), AV.bool b.cordon]], toks := [], loops := [] : Heap })) (by simp only [IsRet]; grind [sameNB]))) (fun h1 => .no (show (a.name == b.name) = false from Bool.eq_false_iff.2 (show ¬ ((a.name == b.name) = true) from h1)) <| .ff <| .ff <| .ff <| .fin ((ARes.ret (AV.bool false), { boxes := [[AV.str a.name, AV.sl .sh (List.map encA a.cap), AV.sl .sh (List.map encP a.labels), AV.sl .sh (List.map encT a.taints), AV.bool a.cordon], [AV.str b.name, AV.sl .sh (List.map encA b.cap), AV.sl .sh (List.map encP b.labels), AV.sl .sh (List.map encT b.taints), AV.bool b.cordon]], toks := [], loops := [] : Heap })) (by simp only [IsRet]; grind [sameNB]))) (by kernel_rfl)
theorem sameNB_iff (a b : Node) : sameNB a b = true ↔ a = b := by
  cases a; cases b
  simp only [sameNB, Bool.and_eq_true, beq_iff_eq, same2_iff eqA_iff, same2_iff eqP_iff, same2_iff eqT_iff, Node.mk.injEq]
  grind
end Go.Aa.T

set_option linter.unusedVariables false
set_option linter.unusedSimpArgs false
set_option maxRecDepth 100000
namespace Go.Aa.T
open Go.Aa Go.Proofs
def inI (a : Int) : Prop := -9223372036854775808 ≤ a ∧ a ≤ 9223372036854775807


section
variable {H : Heap} {g : FuncId} {k : Nat} {p : Amount → Bool}
end

end Go.Aa.T

set_option linter.unusedVariables false
set_option linter.unusedSimpArgs false
set_option maxRecDepth 100000
namespace Go.Aa.T
open Go.Aa Go.Proofs


section
variable (kk n : Nat) (B0 : List (List AV))
end
end Go.Aa.T

set_option linter.unusedVariables false
set_option linter.unusedSimpArgs false
set_option maxRecDepth 100000
namespace Go.Aa.T
open Go.Aa Go.Proofs
end Go.Aa.T

set_option linter.unusedVariables false
set_option linter.unusedSimpArgs false
set_option maxRecDepth 100000
namespace Go.Aa.T
open Go.Aa Go.Proofs

abbrev Rise (l : List (List UInt8)) : Prop := l.Pairwise fun x y => Op.bytesLess x y = true

abbrev nms (v : List Amount) : List (List UInt8) := v.map Amount.name
def rowT (l : List (List UInt8)) : AV := rowS Heap.nil (l.map .str)
end Go.Aa.T

set_option linter.unusedVariables false
set_option linter.unusedSimpArgs false
set_option maxRecDepth 100000
namespace Go.Aa.T
open Go.Aa Go.Proofs
def skF {X : Type} : List X → SK
  | [] => .full
  | _ :: _ => .own 0
instance {X : Type} (l : List X) (xs : List AV) : Shut (.sl (skF l) xs) (.sl .sh xs) := ⟨by cases l <;> exact ⟨rfl, rfl⟩⟩
section
variable {X : Type} (enc : X → AV)
def rowF (l : List X) : AV := .sl (skF l) (l.map enc)
instance (l : List X) : Shut (rowF enc l) (.sl .sh (l.map enc)) := ⟨by cases l <;> exact ⟨rfl, rfl⟩⟩
end
end Go.Aa.T

set_option linter.unusedVariables false
set_option linter.unusedSimpArgs false
set_option maxRecDepth 100000
namespace Go.Aa.T
open Go.Aa Go.Proofs
abbrev OfQ := List UInt8 → Int × Int
section
variable (g : OfQ) (f : FuncId) (x0 x1 : AV) (vs : List (List Amount))
end

def rgA (v : List Amount) : Prop := ∀ x ∈ v, inI x.n
end Go.Aa.T

set_option linter.unusedVariables false
set_option linter.unusedSimpArgs false
set_option maxRecDepth 100000
namespace Go.Aa.T
open Go.Aa Go.Proofs
structure Pod where
  name : List UInt8
  owner : List UInt8
  prio : Int
  need : List Amount
  labels : List Pair
  sel : List Term
  tols : List Tol
  key : List UInt8
  most : Int
  node : List UInt8
  hold : Bool
def encPd (p : Pod) : AV := .agg [.str p.name, .str p.owner, .int .i64 p.prio, .sl .sh (p.need.map encA), .sl .sh (p.labels.map encP), .sl .sh (p.sel.map encM), .sl .sh (p.tols.map encL), .str p.key, .int .i64 p.most, .str p.node, .bool p.hold]
structure PodOk (p : Pod) : Prop where
  name : isName p.name = true
  owner : p.owner = [] ∨ isName p.owner = true
  prio : -1 ≤ p.prio ∧ p.prio ≤ 1000000
  hold : p.hold = decide (p.prio = -1)
  need : ckV p.need = 0
  labels : ckS p.labels = 0
  sel : ckM p.sel = 0
  tols : ckL p.tols = 0
  key : p.key = [] ∨ isName p.key = true
  most : 0 ≤ p.most ∧ p.most ≤ 128 ∧ (p.key = [] ↔ p.most = 0)
  node : p.node = [] ∨ isName p.node = true

end Go.Aa.T

set_option linter.unusedVariables false
set_option linter.unusedSimpArgs false
set_option maxRecDepth 100000
namespace Go.Aa.T
open Go.Aa Go.Proofs
instance (n : Pod) : Dat (encPd n) := ⟨rfl, rfl⟩
def fewPd (p : Pod) : Bool := decide (p.name.length ≤ 50) && (decide (p.owner.length ≤ 50) && (decide (p.key.length ≤ 50) && (decide (p.node.length ≤ 50) && (fewA p.need && (fewP p.labels && (fewM p.sel && fewL p.tols))))))
theorem fewPd_any (p : Pod) : Gives cfg 17 [encPd p] (.bool (fewPd p)) := by
  refine Gives.run (l17 _ _) ?_
  exact goG 120 []  trivial  (.len (show lenA true (AV.str p.name) = some (AV.int .i64 (↑p.name.length : Int)) from len_str _) <| .split ((↑p.name.length : Int) ≤ (50 : Int)) (fun h1 => .yes (show (decide ((↑p.name.length : Int) ≤ (50 : Int))) = true from decide_eq_true (show (↑p.name.length : Int) ≤ (50 : Int) from h1)) <| .len (show lenA true (AV.str p.owner) = some (AV.int .i64 (↑p.owner.length : Int)) from len_str _) <| .split ((↑p.owner.length : Int) ≤ (50 : Int)) (fun h2 => .yes (show (decide ((↑p.owner.length : Int) ≤ (50 : Int))) = true from decide_eq_true (show (↑p.owner.length : Int) ≤ (50 : Int) from h2)) <| .len (show lenA true (AV.str p.key) = some (AV.int .i64 (↑p.key.length : Int)) from len_str _) <| .split ((↑p.key.length : Int) ≤ (50 : Int)) (fun h3 => .yes (show (decide ((↑p.key.length : Int) ≤ (50 : Int))) = true from decide_eq_true (show (↑p.key.length : Int) ≤ (50 : Int) from h3)) <| .len (show lenA true (AV.str p.node) = some (AV.int .i64 (↑p.node.length : Int)) from len_str _) <| .split ((↑p.node.length : Int) ≤ (50 : Int)) (fun h4 => .yes (show (decide ((↑p.node.length : Int) ≤ (50 : Int))) = true from decide_eq_true (show (↑p.node.length : Int) ≤ (50 : Int) from h4)) <| .callG ([AV.sl .sh (List.map encA p.need)]) (AV.bool (fewA p.need)) (show Gives cfg (62 : FuncId) [AV.sl .sh (List.map encA p.need)] (AV.bool (fewA p.need)) from fewA_any _) ⟨rfl, rfl⟩ ⟨rfl, rfl⟩ <| .split (fewA p.need = true) (fun h5 => .yes (show (fewA p.need) = true from h5) <| .callG ([AV.sl .sh (List.map encP p.labels)]) (AV.bool (fewP p.labels)) (show Gives cfg (63 : FuncId) [AV.sl .sh (List.map encP p.labels)] (AV.bool (fewP p.labels)) from fewP_any _) ⟨rfl, rfl⟩ ⟨rfl, rfl⟩ <| .split (fewP p.labels = true) (fun h6 => .yes (show (fewP p.labels) = true from h6) <| .callG ([AV.sl .sh (List.map encM p.sel)]) (AV.bool (fewM p.sel)) (show Gives cfg (64 : FuncId) [AV.sl .sh (List.map encM p.sel)] (AV.bool (fewM p.sel)) from fewM_any _) ⟨rfl, rfl⟩ ⟨rfl, rfl⟩ <| .split (fewM p.sel = true) (fun h7 => .yes (show (fewM p.sel) = true from h7) <| .callG ([AV.sl .sh (List.map encL p.tols)]) (AV.bool (fewL p.tols)) (show Gives cfg (65 : FuncId) [AV.sl .sh (List.map encL p.tols)] (AV.bool (fewL p.tols)) from fewL_any _) ⟨rfl, rfl⟩ ⟨rfl, rfl⟩ <| .fin ((ARes.ret (AV.bool (fewL p.tols)), { boxes := [[AV.str p.name, AV.str p.owner, AV.int .i64 p.prio, AV.sl .sh (List.map encA p.need), AV.sl .sh (List.map encP p.labels), AV.sl .sh (List.map encM p.sel), AV.sl .sh (List.map encL p.tols), AV.str p.key, AV.int .i64 p.most, AV.str p.node, AV.bool p.hold]], toks := [], loops := [] : Heap })) (by simp only [IsRet]; grind [fewPd])) (fun h7 => .no (show (fewM p.sel) = false from Bool.eq_false_iff.2 (show ¬ (fewM p.sel = true) from h7)) <| .fin ((ARes.ret (AV.bool false), { boxes := [[AV.str p.name, AV.str p.owner, AV.int .i64 p.prio, AV.sl .sh (List.map encA p.need), AV.sl .sh (List.map encP p.labels), AV.sl .sh (List.map encM p.sel), AV.sl .sh (List.map encL p.tols), AV.str p.key, AV.int .i64 p.most, AV.str p.node, AV.bool p.hold]], toks := [], loops := [] : Heap })) (by simp only [IsRet]; grind [fewPd]))) (fun h6 => .no (show (fewP p.labels) = false from Bool.eq_false_iff.2 (show ¬ (fewP p.labels = true) from h6)) <| .ff <| .fin ((ARes.ret (AV.bool false), { boxes := [[AV.str p.name, AV.str p.owner, AV.int .i64 p.prio, AV.sl .sh (List.map encA p.need), AV.sl .sh (List.map encP p.labels), AV.sl .sh (List.map encM p.sel), AV.sl .sh (List.map encL p.tols), AV.str p.key, AV.int .i64 p.most, AV.str p.node, AV.bool p.hold]], toks := [], loops := [] : Heap })) (by simp only [IsRet]; grind [fewPd]))) (fun h5 => .no (show (fewA p.need) = false from Bool.eq_false_iff.2 (show ¬ (fewA p.need = true) from h5)) <| .ff <| .ff <| .fin ((ARes.ret (AV.bool false), { boxes := [[AV.str p.name, AV.str p.owner, AV.int .i64 p.prio, AV.sl .sh (List.map encA p.need), AV.sl .sh (List.map encP p.labels), AV.sl .sh (List.map encM p.sel), AV.sl .sh (List.map encL p.tols), AV.str p.key, AV.int .i64 p.most, AV.str p.node, AV.bool p.hold]], toks := [], loops := [] : Heap })) (by simp only [IsRet]; grind [fewPd]))) (fun h4 => .no (show (decide ((↑p.node.length : Int) ≤ (50 : Int))) = false from decide_eq_false (show ¬ ((↑p.node.length : Int) ≤ (50 : Int)) from h4)) <| .ff <| .ff <| .ff <| .fin ((ARes.ret (AV.bool false), { boxes := [[AV.str p.name, AV.str p.owner, AV.int .i64 p.prio, AV.sl .sh (List.map encA p.need), AV.sl .sh (List.map encP p.labels), AV.sl .sh (List.map encM p.sel), AV.sl .sh (List.map encL p.tols), AV.str p.key, AV.int .i64 p.most, AV.str p.node, AV.bool p.hold]], toks := [], loops := [] : Heap })) (by simp only [IsRet]; grind [fewPd]))) (fun h3 => .no (show (decide ((↑p.key.length : Int) ≤ (50 : Int))) = false from decide_eq_false (show ¬ ((↑p.key.length : Int) ≤ (50 : Int)) from h3)) <| .ff <| .ff <| .ff <| .ff <| .fin ((ARes.ret (AV.bool false), { boxes := [[AV.str p.name, AV.str p.owner, AV.int .i64 p.prio, AV.sl .sh (List.map encA p.need), AV.sl .sh (List.map encP p.labels), AV.sl .sh (List.map encM p.sel), AV.sl .sh (List.map encL p.tols), AV.str p.key, AV.int .i64 p.most, AV.str p.node, AV.bool p.hold]], toks := [], loops := [] : Heap })) (by simp only [IsRet]; grind [fewPd]))) (fun h2 => .no (show (decide ((↑p.owner.length : Int) ≤ (50 : Int))) = false from decide_eq_false (show ¬ ((↑p.owner.length : Int) ≤ (50 : Int)) from h2)) <| .ff <| .ff <| .ff <| .ff <| .ff <| .fin ((ARes.ret (AV.bool false), { boxes := [[AV.str p.name, AV.str p.owner, AV.int .i64 p.prio, AV.sl .sh (List.map encA p.need), AV.sl .sh (List.map encP p.labels), AV.sl .sh (List.map encM p.sel), AV.sl .sh (List.map encL p.tols), AV.str p.key, AV.int .i64 p.most, AV.str p.node, AV.bool p.hold]], toks := [], loops := [] : Heap })) (by simp only [IsRet]; grind [fewPd]))) (fun h1 => .no (show (decide ((↑p.name.length : Int) ≤ (50 : Int))) = false from decide_eq_false (show ¬ ((↑p.name.length : Int) ≤ (50 : Int)) from h1)) <| .ff <| .ff <| .ff <| .ff <| .ff <| .ff <| .fin ((ARes.ret (AV.bool false), { boxes := [[AV.str p.name, AV.str p.owner, AV.int .i64 p.prio, AV.sl .sh (List.map encA p.need), AV.sl .sh (List.map encP p.labels), AV.sl .sh (List.map encM p.sel), AV.sl .sh (List.map encL p.tols), AV.str p.key, AV.int .i64 p.most, AV.str p.node, AV.bool p.hold]], toks := [], loops := [] : Heap })) (by simp only [IsRet]; grind [fewPd]))) (by kernel_rfl)
structure FewPod (p : Pod) : Prop where
  name : p.name.length ≤ 50
  owner : p.owner.length ≤ 50
  key : p.key.length ≤ 50
  node : p.node.length ≤ 50
  need : p.need.length ≤ 20
  labels : p.labels.length ≤ 20
  sel : p.sel.length ≤ 20
  tols : p.tols.length ≤ 20
  fneed : fewA p.need = true
  flabels : fewP p.labels = true
  fsel : fewM p.sel = true
  ftols : fewL p.tols = true
theorem fewPod {p : Pod} (h : fewPd p = true) : FewPod p := by
  simp only [fewPd, Bool.and_eq_true, decide_eq_true_eq] at h
  obtain ⟨h1, h2, h3, h4, h5, h6, h7, h8⟩ := h
  exact ⟨h1, h2, h3, h4, fewA_len h5, fewP_len h6, fewM_len h7, fewL_len h8, h5, h6, h7, h8⟩
theorem ofPd1 (p : Pod) (m1 : p.need.length ≤ 20) (m2 : p.labels.length ≤ 20) (m3 : p.sel.length ≤ 20) (m4 : p.tols.length ≤ 20) : Gives cfg 19 [encPd p] (encPd p) := by
  refine Gives.run (l19 _ _) ?_
  exact goG 120 []  trivial  (.callG ([AV.sl .sh (List.map encA p.need)]) (AV.sl .sh (List.map encA p.need)) (show Gives cfg (36 : FuncId) [AV.sl .sh (List.map encA p.need)] (rowS Heap.nil (List.map encA p.need)) from ofA_any _ m1) ⟨rfl, rfl⟩ Res.p <| .callG ([AV.sl .sh (List.map encP p.labels)]) (AV.sl .sh (List.map encP p.labels)) (show Gives cfg (71 : FuncId) [AV.sl .sh (List.map encP p.labels)] (rowS Heap.nil (List.map encP p.labels)) from ofP_any _ m2) ⟨rfl, rfl⟩ Res.p <| .callG ([AV.sl .sh (List.map encM p.sel)]) (AV.sl .sh (List.map encM p.sel)) (show Gives cfg (72 : FuncId) [AV.sl .sh (List.map encM p.sel)] (rowS Heap.nil (List.map encM p.sel)) from ofM_any _ m3) ⟨rfl, rfl⟩ Res.p <| .callG ([AV.sl .sh (List.map encL p.tols)]) (AV.sl .sh (List.map encL p.tols)) (show Gives cfg (73 : FuncId) [AV.sl .sh (List.map encL p.tols)] (rowS Heap.nil (List.map encL p.tols)) from ofL_any _ m4) ⟨rfl, rfl⟩ Res.p <| .fin ((ARes.ret (AV.agg [AV.str p.name, AV.str p.owner, AV.int .i64 p.prio, AV.sl .sh (List.map encA p.need), AV.sl .sh (List.map encP p.labels), AV.sl .sh (List.map encM p.sel), AV.sl .sh (List.map encL p.tols), AV.str p.key, AV.int .i64 p.most, AV.str p.node, AV.bool p.hold]), { boxes := [[AV.str p.name, AV.str p.owner, AV.int .i64 p.prio, AV.sl .sh (List.map encA p.need), AV.sl .sh (List.map encP p.labels), AV.sl .sh (List.map encM p.sel), AV.sl .sh (List.map encL p.tols), AV.str p.key, AV.int .i64 p.most, AV.str p.node, AV.bool p.hold], [AV.str p.name, AV.str p.owner, AV.int .i64 p.prio, AV.sl .sh (List.map encA p.need), AV.sl .sh (List.map encP p.labels), AV.sl .sh (List.map encM p.sel), AV.sl .sh (List.map encL p.tols), AV.str p.key, AV.int .i64 p.most, AV.str p.node, AV.bool p.hold]], toks := [], loops := [] : Heap })) rfl) (by kernel_rfl)
theorem ofPd_any (p : Pod) (h : fewPd p = true) : Gives cfg 19 [encPd p] (encPd p) := ofPd1 p (fewPod h).need (fewPod h).labels (fewPod h).sel (fewPod h).tols
theorem ofPds_loop (l : List Pod) (hn : l.length ≤ 140) (hf : ∀ x ∈ l, fewPd x = true) : ∀ (post : List Pod) (i : Nat) (acc : List AV) (hd : l.drop i = post) (ha : acc.length = i) (hl : lenOk 11 acc = true) (T : Env) (hT : Has T [(0, .sl .sh (l.map encPd)), (3, rowS Heap.nil acc), (4, .int .i64 i)]),
    Goes cfg a75 k75_0 T (rowH Heap.nil acc) (IsRet (rowS Heap.nil (acc ++ post.map encPd))) := by
  intro post
  induction post with
  | nil =>
    intro i acc hd ha hl T hT
    have hge := drop_ge hd
    exact goG 60 _  hT  (.len (show lenA false (AV.sl .sh (List.map encPd l)) = some (AV.int .i64 (↑l.length : Int)) from len_map _) <| .no (show (decide ((↑i : Int) < (↑l.length : Int))) = false from decide_eq_false (show ¬ ((↑i : Int) < (↑l.length : Int)) from (by omega))) <| .fin ((ARes.ret (setD (setD (setD (setD (setD (setD (updL T [((0 : Nat), AV.sl .sh (List.map encPd l)), ((3 : Nat), rowS Heap.nil acc), ((4 : Nat), AV.int .i64 (↑i : Int))]) { dst := some (5 : Nat), op := AOp.mov (Opd.t (4 : Nat)), guard := none, deps := [] : AOper }.dst (ev (updL T [((0 : Nat), AV.sl .sh (List.map encPd l)), ((3 : Nat), rowS Heap.nil acc), ((4 : Nat), AV.int .i64 (↑i : Int))]) (Opd.t (4 : Nat)))) { dst := some (6 : Nat), op := AOp.mov (Opd.t (0 : Nat)), guard := none, deps := [] : AOper }.dst (ev (setD (updL T [((0 : Nat), AV.sl .sh (List.map encPd l)), ((3 : Nat), rowS Heap.nil acc), ((4 : Nat), AV.int .i64 (↑i : Int))]) { dst := some (5 : Nat), op := AOp.mov (Opd.t (4 : Nat)), guard := none, deps := [] : AOper }.dst (ev (updL T [((0 : Nat), AV.sl .sh (List.map encPd l)), ((3 : Nat), rowS Heap.nil acc), ((4 : Nat), AV.int .i64 (↑i : Int))]) (Opd.t (4 : Nat)))) (Opd.t (0 : Nat)))) { dst := some (7 : Nat), op := AOp.len false (Opd.t (6 : Nat)), guard := none, deps := [] : AOper }.dst (AV.int .i64 (↑l.length : Int))) { dst := some (8 : Nat), op := AOp.bin BinOp.lss (Opd.t (5 : Nat)) (Opd.t (7 : Nat)), guard := none, deps := [] : AOper }.dst (AV.bool (decide ((↑i : Int) < (↑l.length : Int))))) { dst := some (19 : Nat), op := AOp.mov (Opd.t (3 : Nat)), guard := none, deps := [] : AOper }.dst (ev (setD (setD (setD (setD (updL T [((0 : Nat), AV.sl .sh (List.map encPd l)), ((3 : Nat), rowS Heap.nil acc), ((4 : Nat), AV.int .i64 (↑i : Int))]) { dst := some (5 : Nat), op := AOp.mov (Opd.t (4 : Nat)), guard := none, deps := [] : AOper }.dst (ev (updL T [((0 : Nat), AV.sl .sh (List.map encPd l)), ((3 : Nat), rowS Heap.nil acc), ((4 : Nat), AV.int .i64 (↑i : Int))]) (Opd.t (4 : Nat)))) { dst := some (6 : Nat), op := AOp.mov (Opd.t (0 : Nat)), guard := none, deps := [] : AOper }.dst (ev (setD (updL T [((0 : Nat), AV.sl .sh (List.map encPd l)), ((3 : Nat), rowS Heap.nil acc), ((4 : Nat), AV.int .i64 (↑i : Int))]) { dst := some (5 : Nat), op := AOp.mov (Opd.t (4 : Nat)), guard := none, deps := [] : AOper }.dst (ev (updL T [((0 : Nat), AV.sl .sh (List.map encPd l)), ((3 : Nat), rowS Heap.nil acc), ((4 : Nat), AV.int .i64 (↑i : Int))]) (Opd.t (4 : Nat)))) (Opd.t (0 : Nat)))) { dst := some (7 : Nat), op := AOp.len false (Opd.t (6 : Nat)), guard := none, deps := [] : AOper }.dst (AV.int .i64 (↑l.length : Int))) { dst := some (8 : Nat), op := AOp.bin BinOp.lss (Opd.t (5 : Nat)) (Opd.t (7 : Nat)), guard := none, deps := [] : AOper }.dst (AV.bool (decide ((↑i : Int) < (↑l.length : Int))))) (Opd.t (3 : Nat)))) { dst := some (2 : Nat), op := AOp.mov (Opd.t (19 : Nat)), guard := none, deps := [] : AOper }.dst (ev (setD (setD (setD (setD (setD (updL T [((0 : Nat), AV.sl .sh (List.map encPd l)), ((3 : Nat), rowS Heap.nil acc), ((4 : Nat), AV.int .i64 (↑i : Int))]) { dst := some (5 : Nat), op := AOp.mov (Opd.t (4 : Nat)), guard := none, deps := [] : AOper }.dst (ev (updL T [((0 : Nat), AV.sl .sh (List.map encPd l)), ((3 : Nat), rowS Heap.nil acc), ((4 : Nat), AV.int .i64 (↑i : Int))]) (Opd.t (4 : Nat)))) { dst := some (6 : Nat), op := AOp.mov (Opd.t (0 : Nat)), guard := none, deps := [] : AOper }.dst (ev (setD (updL T [((0 : Nat), AV.sl .sh (List.map encPd l)), ((3 : Nat), rowS Heap.nil acc), ((4 : Nat), AV.int .i64 (↑i : Int))]) { dst := some (5 : Nat), op := AOp.mov (Opd.t (4 : Nat)), guard := none, deps := [] : AOper }.dst (ev (updL T [((0 : Nat), AV.sl .sh (List.map encPd l)), ((3 : Nat), rowS Heap.nil acc), ((4 : Nat), AV.int .i64 (↑i : Int))]) (Opd.t (4 : Nat)))) (Opd.t (0 : Nat)))) { dst := some (7 : Nat), op := AOp.len false (Opd.t (6 : Nat)), guard := none, deps := [] : AOper }.dst (AV.int .i64 (↑l.length : Int))) { dst := some (8 : Nat), op := AOp.bin BinOp.lss (Opd.t (5 : Nat)) (Opd.t (7 : Nat)), guard := none, deps := [] : AOper }.dst (AV.bool (decide ((↑i : Int) < (↑l.length : Int))))) { dst := some (19 : Nat), op := AOp.mov (Opd.t (3 : Nat)), guard := none, deps := [] : AOper }.dst (ev (setD (setD (setD (setD (updL T [((0 : Nat), AV.sl .sh (List.map encPd l)), ((3 : Nat), rowS Heap.nil acc), ((4 : Nat), AV.int .i64 (↑i : Int))]) { dst := some (5 : Nat), op := AOp.mov (Opd.t (4 : Nat)), guard := none, deps := [] : AOper }.dst (ev (updL T [((0 : Nat), AV.sl .sh (List.map encPd l)), ((3 : Nat), rowS Heap.nil acc), ((4 : Nat), AV.int .i64 (↑i : Int))]) (Opd.t (4 : Nat)))) { dst := some (6 : Nat), op := AOp.mov (Opd.t (0 : Nat)), guard := none, deps := [] : AOper }.dst (ev (setD (updL T [((0 : Nat), AV.sl .sh (List.map encPd l)), ((3 : Nat), rowS Heap.nil acc), ((4 : Nat), AV.int .i64 (↑i : Int))]) { dst := some (5 : Nat), op := AOp.mov (Opd.t (4 : Nat)), guard := none, deps := [] : AOper }.dst (ev (updL T [((0 : Nat), AV.sl .sh (List.map encPd l)), ((3 : Nat), rowS Heap.nil acc), ((4 : Nat), AV.int .i64 (↑i : Int))]) (Opd.t (4 : Nat)))) (Opd.t (0 : Nat)))) { dst := some (7 : Nat), op := AOp.len false (Opd.t (6 : Nat)), guard := none, deps := [] : AOper }.dst (AV.int .i64 (↑l.length : Int))) { dst := some (8 : Nat), op := AOp.bin BinOp.lss (Opd.t (5 : Nat)) (Opd.t (7 : Nat)), guard := none, deps := [] : AOper }.dst (AV.bool (decide ((↑i : Int) < (↑l.length : Int))))) (Opd.t (3 : Nat)))) (Opd.t (19 : Nat))) (2 : Nat)), rowH Heap.nil acc)) (by simp only [IsRet, List.map_nil, List.append_nil]; rfl)) (by kernel_rfl)
  | cons x post ih =>
    intro i acc hd ha hl T hT
    have hlt := drop_lt hd
    have hnx := drop_next hd
    have hx := hf x (drop_mem hd)
    exact goG 60 _  hT  (.len (show lenA false (AV.sl .sh (List.map encPd l)) = some (AV.int .i64 (↑l.length : Int)) from len_map _) <| .yes (show (decide ((↑i : Int) < (↑l.length : Int))) = true from decide_eq_true (show (↑i : Int) < (↑l.length : Int) from (by simp; omega))) <| .idx (show idxA 11 (AV.sl .sh (List.map encPd l)) (AV.int .i64 (↑i : Int)) = some (AV.ref (encPd x).cells) from idx_row hd (by rfl)) <| .load (show loadA true 11 (rowH Heap.nil acc) (AV.ref [AV.str x.name, AV.str x.owner, AV.int .i64 x.prio, AV.sl .sh (List.map encA x.need), AV.sl .sh (List.map encP x.labels), AV.sl .sh (List.map encM x.sel), AV.sl .sh (List.map encL x.tols), AV.str x.key, AV.int .i64 x.most, AV.str x.node, AV.bool x.hold]) = some (AV.agg [AV.str x.name, AV.str x.owner, AV.int .i64 x.prio, AV.sl .sh (List.map encA x.need), AV.sl .sh (List.map encP x.labels), AV.sl .sh (List.map encM x.sel), AV.sl .sh (List.map encL x.tols), AV.str x.key, AV.int .i64 x.most, AV.str x.node, AV.bool x.hold]) from rfl) <| .callG ([AV.agg [AV.str x.name, AV.str x.owner, AV.int .i64 x.prio, AV.sl .sh (List.map encA x.need), AV.sl .sh (List.map encP x.labels), AV.sl .sh (List.map encM x.sel), AV.sl .sh (List.map encL x.tols), AV.str x.key, AV.int .i64 x.most, AV.str x.node, AV.bool x.hold]]) (AV.agg [AV.str x.name, AV.str x.owner, AV.int .i64 x.prio, AV.sl .sh (List.map encA x.need), AV.sl .sh (List.map encP x.labels), AV.sl .sh (List.map encM x.sel), AV.sl .sh (List.map encL x.tols), AV.str x.key, AV.int .i64 x.most, AV.str x.node, AV.bool x.hold]) (show Gives cfg (19 : FuncId) [encPd x] (encPd x) from ofPd_any _ hx) ⟨rfl, rfl⟩ ⟨rfl, rfl⟩ <| .append (show appendA (11 : Nat) (184 : Nat) (rowH Heap.nil acc) (rowS Heap.nil acc) (AV.sl .full [AV.agg [AV.str x.name, AV.str x.owner, AV.int .i64 x.prio, AV.sl .sh (List.map encA x.need), AV.sl .sh (List.map encP x.labels), AV.sl .sh (List.map encM x.sel), AV.sl .sh (List.map encL x.tols), AV.str x.key, AV.int .i64 x.most, AV.str x.node, AV.bool x.hold]]) = some ((rowS Heap.nil (acc ++ [AV.agg [AV.str x.name, AV.str x.owner, AV.int .i64 x.prio, AV.sl .sh (List.map encA x.need), AV.sl .sh (List.map encP x.labels), AV.sl .sh (List.map encM x.sel), AV.sl .sh (List.map encL x.tols), AV.str x.key, AV.int .i64 x.most, AV.str x.node, AV.bool x.hold]]), rowH Heap.nil (acc ++ [AV.agg [AV.str x.name, AV.str x.owner, AV.int .i64 x.prio, AV.sl .sh (List.map encA x.need), AV.sl .sh (List.map encP x.labels), AV.sl .sh (List.map encM x.sel), AV.sl .sh (List.map encL x.tols), AV.str x.key, AV.int .i64 x.most, AV.str x.node, AV.bool x.hold]]))) from row_append (by omega) hl (by rfl) (by rfl)) <| .bin (show binA .add (AV.int .i64 (↑i : Int)) (AV.int .i64 1) = some (AV.int .i64 (↑(i + (1 : Nat)) : Int)) from inc_i (by omega)) <| .cutQ k75_0 [(0, AV.sl .sh (List.map encPd l)), (3, rowS Heap.nil (acc ++ [AV.agg [AV.str x.name, AV.str x.owner, AV.int .i64 x.prio, AV.sl .sh (List.map encA x.need), AV.sl .sh (List.map encP x.labels), AV.sl .sh (List.map encM x.sel), AV.sl .sh (List.map encL x.tols), AV.str x.key, AV.int .i64 x.most, AV.str x.node, AV.bool x.hold]])), (4, AV.int .i64 (↑(i + (1 : Nat)) : Int))] (rowH Heap.nil (acc ++ [AV.agg [AV.str x.name, AV.str x.owner, AV.int .i64 x.prio, AV.sl .sh (List.map encA x.need), AV.sl .sh (List.map encP x.labels), AV.sl .sh (List.map encM x.sel), AV.sl .sh (List.map encL x.tols), AV.str x.key, AV.int .i64 x.most, AV.str x.node, AV.bool x.hold]])) (fun T hT => (ih (i + (1 : Nat)) (acc ++ [AV.agg [AV.str x.name, AV.str x.owner, AV.int .i64 x.prio, AV.sl .sh (List.map encA x.need), AV.sl .sh (List.map encP x.labels), AV.sl .sh (List.map encM x.sel), AV.sl .sh (List.map encL x.tols), AV.str x.key, AV.int .i64 x.most, AV.str x.node, AV.bool x.hold]]) hnx (by simp; omega) (by exact lenOk_snoc (by assumption) rfl) T hT).to (by simp [encPd]))) (by kernel_rfl)
theorem ofPds_any (l : List Pod) (hn : l.length ≤ 140) (hf : ∀ x ∈ l, fewPd x = true) : Gives cfg 75 [.sl .sh (l.map encPd)] (rowS Heap.nil (l.map encPd)) := by
  refine Gives.run (l75 _ _) ?_
  have h := ofPds_loop l hn hf l 0 [] rfl rfl rfl
  exact goG 60 []  trivial  (.cutQ k75_0 [(0, AV.sl .sh (List.map encPd l)), (3, AV.sl .full []), (4, AV.int .i64 0)] ({ boxes := [], toks := [], loops := [] : Heap }) (fun T hT => (h T hT))) (by kernel_rfl)
def samePB (a b : Pod) : Bool := a.name == b.name && (a.owner == b.owner && (a.prio == b.prio && (same2 eqA a.need b.need && (same2 eqP a.labels b.labels && (same2 eqM a.sel b.sel && (same2 eqL a.tols b.tols && (a.key == b.key && (a.most == b.most && (a.node == b.node && a.hold == b.hold)))))))))
theorem samePd_ref (a b : Pod) (m1 : a.need.length < 9223372036854775807) (m2 : a.labels.length < 9223372036854775807) (m3 : a.sel.length < 9223372036854775807) (m4 : a.tols.length < 9223372036854775807) : Gives cfg 43 [encPd a, encPd b] (.bool (samePB a b)) := by
  refine Gives.run (l43 _ _) ?_
  exact goG 120 []  trivial  (.split ((a.name == b.name) = true) (fun h1 => .yes (show (a.name == b.name) = true from h1) <| .split ((a.owner == b.owner) = true) (fun h2 => .yes (show (a.owner == b.owner) = true from h2) <| .split ((a.prio == b.prio) = true) (fun h3 => .yes (show (a.prio == b.prio) = true from h3) <| .callG ([AV.sl .sh (List.map encA a.need), AV.sl .sh (List.map encA b.need)]) (AV.bool (same2 eqA a.need b.need)) (show Gives cfg (35 : FuncId) [AV.sl .sh (List.map encA a.need), AV.sl .sh (List.map encA b.need)] (AV.bool (same2 eqA a.need b.need)) from sameVR _ _ m1) ⟨rfl, rfl⟩ ⟨rfl, rfl⟩ <| .split (same2 eqA a.need b.need = true) (fun h4 => .yes (show (same2 eqA a.need b.need) = true from h4) <| .callG ([AV.sl .sh (List.map encP a.labels), AV.sl .sh (List.map encP b.labels)]) (AV.bool (same2 eqP a.labels b.labels)) (show Gives cfg (113 : FuncId) [AV.sl .sh (List.map encP a.labels), AV.sl .sh (List.map encP b.labels)] (AV.bool (same2 eqP a.labels b.labels)) from samePR _ _ m2) ⟨rfl, rfl⟩ ⟨rfl, rfl⟩ <| .split (same2 eqP a.labels b.labels = true) (fun h5 => .yes (show (same2 eqP a.labels b.labels) = true from h5) <| .callG ([AV.sl .sh (List.map encM a.sel), AV.sl .sh (List.map encM b.sel)]) (AV.bool (same2 eqM a.sel b.sel)) (show Gives cfg (114 : FuncId) [AV.sl .sh (List.map encM a.sel), AV.sl .sh (List.map encM b.sel)] (AV.bool (same2 eqM a.sel b.sel)) from sameMR _ _ m3) ⟨rfl, rfl⟩ ⟨rfl, rfl⟩ <| .split (same2 eqM a.sel b.sel = true) (fun h6 => .yes (show (same2 eqM a.sel b.sel) = true from h6) <| .callG ([AV.sl .sh (List.map encL a.tols), AV.sl .sh (List.map encL b.tols)]) (AV.bool (same2 eqL a.tols b.tols)) (show Gives cfg (115 : FuncId) [AV.sl .sh (List.map encL a.tols), AV.sl .sh (List.map encL b.tols)] (AV.bool (same2 eqL a.tols b.tols)) from sameLR _ _ m4) ⟨rfl, rfl⟩ ⟨rfl, rfl⟩ <| .split (same2 eqL a.tols b.tols = true) (fun h7 => .yes (show (same2 eqL a.tols b.tols) = true from h7) <| .split ((a.key == b.key) = true) (fun h8 => .yes (show (a.key == b.key) = true from h8) <| .split ((a.most == b.most) = true) (fun h9 => .yes (show (a.most == b.most) = true from h9) <| .split ((a.node == b.node) = true) (fun h10 => .yes (show (a.node == b.node) = true from h10) <| .fin ((ARes.ret (AV.bool (if false = true then !a.hold == b.hold else a.hold == b.hold)), { boxes := [[AV.str a.name, AV.str a.owner, AV.int .i64 a.prio, AV.sl .sh (List.map encA a.need), AV.sl .sh (List.map encP a.labels), AV.sl .sh (List.map encM a.sel), AV.sl .sh (List.map encL a.tols), AV.str a.key, AV.int .i64 a.most, AV.str a.node, AV.bool a.hold], [AV.str b.name, AV.str b.owner, AV.int .i64 b.prio, AV.sl .sh (List.map encA b.need), AV.sl .sh (List.map encP b.labels), AV.sl .sh (List.map encM b.sel), AV.sl .sh (List.map encL b.tols), AV.str b.key, AV.int .i64 b.most, AV.str b.node, AV.bool b.hold]], toks := [], loops := [] : Heap })) (by simp only [IsRet]; grind [samePB])) (fun h10 => .no (show (a.node == b.node) = false from Bool.eq_false_iff.2 (show ¬ ((a.node == b.node) = true) from h10)) <| .fin ((ARes.ret (AV.bool false), { boxes := [[AV.str a.name, AV.str a.owner, AV.int .i64 a.prio, AV.sl .sh (List.map encA a.need), AV.sl .sh (List.map encP a.labels), AV.sl .sh (List.map encM a.sel), AV.sl .sh (List.map encL a.tols), AV.str a.key, AV.int .i64 a.most, AV.str a.node, AV.bool a.hold], [AV.str b.name, AV.str b.owner, AV.int .i64 b.prio, AV.sl .sh (List.map encA b.need), AV.sl .sh (List.map encP b.labels), AV.sl .sh (List.map encM b.sel), AV.sl .sh (List.map encL b.tols), AV.str b.key, AV.int .i64 b.most, AV.str b.node, AV.bool b.hold]], toks := [], loops := [] : Heap })) (by simp only [IsRet]; grind [samePB]))) (fun h9 => .no (show (a.most == b.most) = false from Bool.eq_false_iff.2 (show ¬ ((a.most == b.most) = true) from h9)) <| .ff <| .fin ((ARes.ret (AV.bool false), { boxes := [[AV.str a.name, AV.str a.owner, AV.int .i64 a.prio, AV.sl .sh (List.map encA a.need), AV.sl .sh (List.map encP a.labels), AV.sl .sh (List.map encM a.sel), AV.sl .sh (List.map encL a.tols), AV.str a.key, AV.int .i64 a.most, AV.str a.node, AV.bool a.hold], [AV.str b.name, AV.str b.owner, AV.int .i64 b.prio, AV.sl .sh (List.map encA b.need), AV.sl .sh (List.map encP b.labels), AV.sl .sh (List.map encM b.sel), AV.sl .sh (List.map encL b.tols), AV.str b.key, AV.int .i64 b.most, AV.str b.node, AV.bool b.hold]], toks := [], loops := [] : Heap })) (by simp only [IsRet]; grind [samePB]))) (fun h8 => .no (show (a.key == b.key) = false from Bool.eq_false_iff.2 (show ¬ ((a.key == b.key) = true) from h8)) <| .ff <| .ff <| .fin ((ARes.ret (AV.bool false), { boxes := [[AV.str a.name, AV.str a.owner, AV.int .i64 a.prio, AV.sl .sh (List.map encA a.need), AV.sl .sh (List.map encP a.labels), AV.sl .sh (List.map encM a.sel), AV.sl .sh (List.map encL a.tols), AV.str a.key, AV.int .i64 a.most, AV.str a.node, AV.bool a.hold], [AV.str b.name, AV.str b.owner, AV.int .i64 b.prio, AV.sl .sh (List.map encA b.need), AV.sl .sh (List.map encP b.labels), AV.sl .sh (List.map encM b.sel), AV.sl .sh (List.map encL b.tols), AV.str b.key, AV.int .i64 b.most, AV.str b.node, AV.bool b.hold]], toks := [], loops := [] : Heap })) (by simp only [IsRet]; grind [samePB]))) (fun h7 => .no (show (same2 eqL a.tols b.tols) = false from Bool.eq_false_iff.2 (show ¬ (same2 eqL a.tols b.tols = true) from h7)) <| .ff <| .ff <| .ff <| .fin ((ARes.ret (AV.bool false), { boxes := [[AV.str a.name, AV.str a.owner, AV.int .i64 a.prio, AV.sl .sh (List.map encA a.need), AV.sl .sh (List.map encP a.labels), AV.sl .sh (List.map encM a.sel), AV.sl .sh (List.map encL a.tols), AV.str a.key, AV.int .i64 a.most, AV.str a.node, AV.bool a.hold], [AV.str b.name, AV.str b.owner, AV.int .i64 b.prio, AV.sl .sh (List.map encA b.need), AV.sl .sh (List.map encP b.labels), AV.sl .sh (List.map encM b.sel), AV.sl .sh (List.map encL b.tols), AV.str b.key, AV.int .i64 b.most, AV.str b.node, AV.bool b.hold]], toks := [], loops := [] : Heap })) (by simp only [IsRet]; grind [samePB]))) (fun h6 => .no (show (same2 eqM a.sel b.sel) = false from Bool.eq_false_iff.2 (show ¬ (same2 eqM a.sel b.sel = true) from h6)) <| .ff <| .ff <| .ff <| .ff <| .fin ((ARes.ret (AV.bool false), { boxes := [[AV.str a.name, AV.str a.owner, AV.int .i64 a.prio, AV.sl .sh (List.map encA a.need), AV.sl .sh (List.map encP a.labels), AV.sl .sh (List.map encM a.sel), AV.sl .sh (List.map encL a.tols), AV.str a.key, AV.int .i64 a.most, AV.str a.node, AV.bool a.hold], [AV.str b.name, AV.str b.owner, AV.int .i64 b.prio, AV.sl .sh (List.map encA b.need), AV.sl .sh (List.map encP b.labels), AV.sl .sh (List.map encM b.sel), AV.sl .sh (List.map encL b.tols), AV.str b.key, AV.int .i64 b.most, AV.str b.node, AV.bool b.hold]], toks := [], loops := [] : Heap })) (by simp only [IsRet]; grind [samePB]))) (fun h5 => .no (show (same2 eqP a.labels b.labels) = false from Bool.eq_false_iff.2 (show ¬ (same2 eqP a.labels b.labels = true) from h5)) <| .ff <| .ff <| .ff <| .ff <| .ff <| .fin ((ARes.ret (AV.bool false), { boxes := [[AV.str a.name, AV.str a.owner, AV.int .i64 a.prio, AV.sl .sh (List.map encA a.need), AV.sl .sh (List.map encP a.labels), AV.sl .sh (List.map encM a.sel), AV.sl .sh (List.map encL a.tols), AV.str a.key, AV.int .i64 a.most, AV.str a.node, AV.bool a.hold], [AV.str b.name, AV.str b.owner, AV.int .i64 b.prio, AV.sl .sh (List.map encA b.need), AV.sl .sh (List.map encP b.labels), AV.sl .sh (List.map encM b.sel), AV.sl .sh (List.map encL b.tols), AV.str b.key, AV.int .i64 b.most, AV.str b.node, AV.bool b.hold]], toks := [], loops := [] : Heap })) (by simp only [IsRet]; grind [samePB]))) (fun h4 => .no (show (same2 eqA a.need b.need) = false from Bool.eq_false_iff.2 (show ¬ (same2 eqA a.need b.need = true) from h4)) <| .ff <| .ff <| .ff <| .ff <| .ff <| .ff <| .fin ((ARes.ret (AV.bool false), { boxes := [[AV.str a.name, AV.str a.owner, AV.int .i64 a.prio, AV.sl .sh (List.map encA a.need), AV.sl .sh (List.map encP a.labels), AV.sl .sh (List.map encM a.sel), AV.sl .sh (List.map encL a.tols), AV.str a.key, AV.int .i64 a.most, AV.str a.node, AV.bool a.hold], [AV.str b.name, AV.str b.owner, AV.int .i64 b.prio, AV.sl .sh (List.map encA b.need), AV.sl .sh (List.map encP b.labels), AV.sl .sh (List.map encM b.sel), AV.sl .sh (List.map encL b.tols), AV.str b.key, AV.int .i64 b.most, AV.str b.node, AV.bool b.hold]], toks := [], loops := [] : Heap })) (by simp only [IsRet]; grind [samePB]))) (fun h3 => .no (show (a.prio == b.prio) = false from Bool.eq_false_iff.2 (show ¬ ((a.prio == b.prio) = true) from h3)) <| .ff <| .ff <| .ff <| .ff <| .ff <| .ff <| .ff <| .fin ((ARes.ret (AV.bool false), { boxes := [[AV.str a.name, AV.str a.owner, AV.int .i64 a.prio, AV.sl .sh (List.map encA a.need), AV.sl .sh (List.map encP a.labels), AV.sl .sh (List.map encM a.sel), AV.sl .sh (List.map encL a.tols), AV.str a.key, AV.int .i64 a.most, AV.str a.node, AV.bool a.hold], [AV.str b.name, AV.str b.owner, AV.int .i64 b.prio, AV.sl .sh (List.map encA b.need), AV.sl .sh (List.map encP b.labels), AV.sl .sh (List.map encM b.sel), AV.sl .sh (List.map encL b.tols), AV.str b.key, AV.int .i64 b.most, AV.str b.node, AV.bool b.hold]], toks := [], loops := [] : Heap })) (by simp only [IsRet]; grind [samePB]))) (fun h2 => .no (show (a.owner == b.owner) = false from Bool.eq_false_iff.2 (show ¬ ((a.owner == b.owner) = true) from h2)) <| .ff <| .ff <| .ff <| .ff <| .ff <| .ff <| .ff <| .ff <| .fin ((ARes.ret (AV.bool false), { boxes := [[AV.str a.name, AV.str a.owner, AV.int .i64 a.prio, AV.sl .sh (List.map encA a.need), AV.sl .sh (List.map encP a.labels), AV.sl .sh (List.map encM a.sel), AV.sl .sh (List.map encL a.tols), AV.str a.key, AV.int .i64 a.most, AV.str a.node, AV.bool a.hold], [AV.str b.name, AV.str b.owner, AV.int .i64 b.prio, AV.sl .sh (List.map encA b.need), AV.sl .sh (List.map encP b.labels), AV.sl .sh (List.map encM b.sel), AV.sl .sh (List.map encL b.tols), AV.str b.key, AV.int .i64 b.most, AV.str b.node, AV.bool b.hold]], toks := [], loops := [] : Heap })) (by simp only [IsRet]; grind [samePB]))) (fun h1 => .no (show (a.name == b.name) = false from Bool.eq_false_iff.2 (show ¬ ((a.name == b.name) = true) from h1)) <| .ff <| .ff <| .ff <| .ff <| .ff <| .ff <| .ff <| .ff <| .ff <| .fin ((ARes.ret (AV.bool false), { boxes := [[AV.str a.name, AV.str a.owner, AV.int .i64 a.prio, AV.sl .sh (List.map encA a.need), AV.sl .sh (List.map encP a.labels), AV.sl .sh (List.map encM a.sel), AV.sl .sh (List.map encL a.tols), AV.str a.key, AV.int .i64 a.most, AV.str a.node, AV.bool a.hold], [AV.str b.name, AV.str b.owner, AV.int .i64 b.prio, AV.sl .sh (List.map encA b.need), AV.sl .sh (List.map encP b.labels), AV.sl .sh (List.map encM b.sel), AV.sl .sh (List.map encL b.tols), AV.str b.key, AV.int .i64 b.most, AV.str b.node, AV.bool b.hold]], toks := [], loops := [] : Heap })) (by simp only [IsRet]; grind [samePB]))) (by kernel_rfl)
theorem samePd_any (a b : Pod) (m1 : a.need.length < 9223372036854775807) (m2 : a.labels.length < 9223372036854775807) (m3 : a.sel.length < 9223372036854775807) (m4 : a.tols.length < 9223372036854775807) : Gives cfg 61 [encPd a, encPd b] (.bool (samePB a b)) := by
  refine Gives.run (l61 _ _) ?_
  exact goG 120 []  trivial  (.split ((a.name == b.name) = true) (fun h1 => .yes (show (a.name == b.name) = true from h1) <| .split ((a.owner == b.owner) = true) (fun h2 => .yes (show (a.owner == b.owner) = true from h2) <| .split ((a.prio == b.prio) = true) (fun h3 => .yes (show (a.prio == b.prio) = true from h3) <| .callG ([AV.sl .sh (List.map encA a.need), AV.sl .sh (List.map encA b.need)]) (AV.bool (same2 eqA a.need b.need)) (show Gives cfg (53 : FuncId) [AV.sl .sh (List.map encA a.need), AV.sl .sh (List.map encA b.need)] (AV.bool (same2 eqA a.need b.need)) from sameV _ _ m1) ⟨rfl, rfl⟩ ⟨rfl, rfl⟩ <| .split (same2 eqA a.need b.need = true) (fun h4 => .yes (show (same2 eqA a.need b.need) = true from h4) <| .callG ([AV.sl .sh (List.map encP a.labels), AV.sl .sh (List.map encP b.labels)]) (AV.bool (same2 eqP a.labels b.labels)) (show Gives cfg (144 : FuncId) [AV.sl .sh (List.map encP a.labels), AV.sl .sh (List.map encP b.labels)] (AV.bool (same2 eqP a.labels b.labels)) from samePp _ _ m2) ⟨rfl, rfl⟩ ⟨rfl, rfl⟩ <| .split (same2 eqP a.labels b.labels = true) (fun h5 => .yes (show (same2 eqP a.labels b.labels) = true from h5) <| .callG ([AV.sl .sh (List.map encM a.sel), AV.sl .sh (List.map encM b.sel)]) (AV.bool (same2 eqM a.sel b.sel)) (show Gives cfg (145 : FuncId) [AV.sl .sh (List.map encM a.sel), AV.sl .sh (List.map encM b.sel)] (AV.bool (same2 eqM a.sel b.sel)) from sameMp _ _ m3) ⟨rfl, rfl⟩ ⟨rfl, rfl⟩ <| .split (same2 eqM a.sel b.sel = true) (fun h6 => .yes (show (same2 eqM a.sel b.sel) = true from h6) <| .callG ([AV.sl .sh (List.map encL a.tols), AV.sl .sh (List.map encL b.tols)]) (AV.bool (same2 eqL a.tols b.tols)) (show Gives cfg (146 : FuncId) [AV.sl .sh (List.map encL a.tols), AV.sl .sh (List.map encL b.tols)] (AV.bool (same2 eqL a.tols b.tols)) from sameLp _ _ m4) ⟨rfl, rfl⟩ ⟨rfl, rfl⟩ <| .split (same2 eqL a.tols b.tols = true) (fun h7 => .yes (show (same2 eqL a.tols b.tols) = true from h7) <| .split ((a.key == b.key) = true) (fun h8 => .yes (show (a.key == b.key) = true from h8) <| .split ((a.most == b.most) = true) (fun h9 => .yes (show (a.most == b.most) = true from h9) <| .split ((a.node == b.node) = true) (fun h10 => .yes (show (a.node == b.node) = true from h10) <| .fin ((ARes.ret (AV.bool (if false = true then !a.hold == b.hold else a.hold == b.hold)), { boxes := [[AV.str a.name, AV.str a.owner, AV.int .i64 a.prio, AV.sl .sh (List.map encA a.need), AV.sl .sh (List.map encP a.labels), AV.sl .sh (List.map encM a.sel), AV.sl .sh (List.map encL a.tols), AV.str a.key, AV.int .i64 a.most, AV.str a.node, AV.bool a.hold], [AV.str b.name, AV.str b.owner, AV.int .i64 b.prio, AV.sl .sh (List.map encA b.need), AV.sl .sh (List.map encP b.labels), AV.sl .sh (List.map encM b.sel), AV.sl .sh (List.map encL b.tols), AV.str b.key, AV.int .i64 b.most, AV.str b.node, AV.bool b.hold]], toks := [], loops := [] : Heap })) (by simp only [IsRet]; grind [samePB])) (fun h10 => .no (show (a.node == b.node) = false from Bool.eq_false_iff.2 (show ¬ ((a.node == b.node) = true) from h10)) <| .fin ((ARes.ret (AV.bool false), { boxes := [[AV.str a.name, AV.str a.owner, AV.int .i64 a.prio, AV.sl .sh (List.map encA a.need), AV.sl .sh (List.map encP a.labels), AV.sl .sh (List.map encM a.sel), AV.sl .sh (List.map encL a.tols), AV.str a.key, AV.int .i64 a.most, AV.str a.node, AV.bool a.hold], [AV.str b.name, AV.str b.owner, AV.int .i64 b.prio, AV.sl .sh (List.map encA b.need), AV.sl .sh (List.map encP b.labels), AV.sl .sh (List.map encM b.sel), AV.sl .sh (List.map encL b.tols), AV.str b.key, AV.int .i64 b.most, AV.str b.node, AV.bool b.hold]], toks := [], loops := [] : Heap })) (by simp only [IsRet]; grind [samePB]))) (fun h9 => .no (show (a.most == b.most) = false from Bool.eq_false_iff.2 (show ¬ ((a.most == b.most) = true) from h9)) <| .ff <| .fin ((ARes.ret (AV.bool false), { boxes := [[AV.str a.name, AV.str a.owner, AV.int .i64 a.prio, AV.sl .sh (List.map encA a.need), AV.sl .sh (List.map encP a.labels), AV.sl .sh (List.map encM a.sel), AV.sl .sh (List.map encL a.tols), AV.str a.key, AV.int .i64 a.most, AV.str a.node, AV.bool a.hold], [AV.str b.name, AV.str b.owner, AV.int .i64 b.prio, AV.sl .sh (List.map encA b.need), AV.sl .sh (List.map encP b.labels), AV.sl .sh (List.map encM b.sel), AV.sl .sh (List.map encL b.tols), AV.str b.key, AV.int .i64 b.most, AV.str b.node, AV.bool b.hold]], toks := [], loops := [] : Heap })) (by simp only [IsRet]; grind [samePB]))) (fun h8 => .no (show (a.key == b.key) = false from Bool.eq_false_iff.2 (show ¬ ((a.key == b.key) = true) from h8)) <| .ff <| .ff <| .fin ((ARes.ret (AV.bool false), { boxes := [[AV.str a.name, AV.str a.owner, AV.int .i64 a.prio, AV.sl .sh (List.map encA a.need), AV.sl .sh (List.map encP a.labels), AV.sl .sh (List.map encM a.sel), AV.sl .sh (List.map encL a.tols), AV.str a.key, AV.int .i64 a.most, AV.str a.node, AV.bool a.hold], [AV.str b.name, AV.str b.owner, AV.int .i64 b.prio, AV.sl .sh (List.map encA b.need), AV.sl .sh (List.map encP b.labels), AV.sl .sh (List.map encM b.sel), AV.sl .sh (List.map encL b.tols), AV.str b.key, AV.int .i64 b.most, AV.str b.node, AV.bool b.hold]], toks := [], loops := [] : Heap })) (by simp only [IsRet]; grind [samePB]))) (fun h7 => .no (show (same2 eqL a.tols b.tols) = false from Bool.eq_false_iff.2 (show ¬ (same2 eqL a.tols b.tols = true) from h7)) <| .ff <| .ff <| .ff <| .fin ((ARes.ret (AV.bool false), { boxes := [[AV.str a.name, AV.str a.owner, AV.int .i64 a.prio, AV.sl .sh (List.map encA a.need), AV.sl .sh (List.map encP a.labels), AV.sl .sh (List.map encM a.sel), AV.sl .sh (List.map encL a.tols), AV.str a.key, AV.int .i64 a.most, AV.str a.node, AV.bool a.hold], [AV.str b.name, AV.str b.owner, AV.int .i64 b.prio, AV.sl .sh (List.map encA b.need), AV.sl .sh (List.map encP b.labels), AV.sl .sh (List.map encM b.sel), AV.sl .sh (List.map encL b.tols), AV.str b.key, AV.int .i64 b.most, AV.str b.node, AV.bool b.hold]], toks := [], loops := [] : Heap })) (by simp only [IsRet]; grind [samePB]))) (fun h6 => .no (show (same2 eqM a.sel b.sel) = false from Bool.eq_false_iff.2 (show ¬ (same2 eqM a.sel b.sel = true) from h6)) <| .ff <| .ff <| .ff <| .ff <| .fin ((ARes.ret (AV.bool false), { boxes := [[AV.str a.name, AV.str a.owner, AV.int .i64 a.prio, AV.sl .sh (List.map encA a.need), AV.sl .sh (List.map encP a.labels), AV.sl .sh (List.map encM a.sel), AV.sl .sh (List.map encL a.tols), AV.str a.key, AV.int .i64 a.most, AV.str a.node, AV.bool a.hold], [AV.str b.name, AV.str b.owner, AV.int .i64 b.prio, AV.sl .sh (List.map encA b.need), AV.sl .sh (List.map encP b.labels), AV.sl .sh (List.map encM b.sel), AV.sl .sh (List.map encL b.tols), AV.str b.key, AV.int .i64 b.most, AV.str b.node, AV.bool b.hold]], toks := [], loops := [] : Heap })) (by simp only [IsRet]; grind [samePB]))) (fun h5 => .no (show (same2 eqP a.labels b.labels) = false from Bool.eq_false_iff.2 (show ¬ (same2 eqP a.labels b.labels = true) from h5)) <| .ff <| .ff <| .ff <| .ff <| .ff <| .fin ((ARes.ret (AV.bool false), { boxes := [[AV.str a.name, AV.str a.owner, AV.int .i64 a.prio, AV.sl .sh (List.map encA a.need), AV.sl .sh (List.map encP a.labels), AV.sl .sh (List.map encM a.sel), AV.sl .sh (List.map encL a.tols), AV.str a.key, AV.int .i64 a.most, AV.str a.node, AV.bool a.hold], [AV.str b.name, AV.str b.owner, AV.int .i64 b.prio, AV.sl .sh (List.map encA b.need), AV.sl .sh (List.map encP b.labels), AV.sl .sh (List.map encM b.sel), AV.sl .sh (List.map encL b.tols), AV.str b.key, AV.int .i64 b.most, AV.str b.node, AV.bool b.hold]], toks := [], loops := [] : Heap })) (by simp only [IsRet]; grind [samePB]))) (fun h4 => .no (show (same2 eqA a.need b.need) = false from Bool.eq_false_iff.2 (show ¬ (same2 eqA a.need b.need = true) from h4)) <| .ff <| .ff <| .ff <| .ff <| .ff <| .ff <| .fin ((ARes.ret (AV.bool false), { boxes := [[AV.str a.name, AV.str a.owner, AV.int .i64 a.prio, AV.sl .sh (List.map encA a.need), AV.sl .sh (List.map encP a.labels), AV.sl .sh (List.map encM a.sel), AV.sl .sh (List.map encL a.tols), AV.str a.key, AV.int .i64 a.most, AV.str a.node, AV.bool a.hold], [AV.str b.name, AV.str b.owner, AV.int .i64 b.prio, AV.sl .sh (List.map encA b.need), AV.sl .sh (List.map encP b.labels), AV.sl .sh (List.map encM b.sel), AV.sl .sh (List.map encL b.tols), AV.str b.key, AV.int .i64 b.most, AV.str b.node, AV.bool b.hold]], toks := [], loops := [] : Heap })) (by simp only [IsRet]; grind [samePB]))) (fun h3 => .no (show (a.prio == b.prio) = false from Bool.eq_false_iff.2 (show ¬ ((a.prio == b.prio) = true) from h3)) <| .ff <| .ff <| .ff <| .ff <| .ff <| .ff <| .ff <| .fin ((ARes.ret (AV.bool false), { boxes := [[AV.str a.name, AV.str a.owner, AV.int .i64 a.prio, AV.sl .sh (List.map encA a.need), AV.sl .sh (List.map encP a.labels), AV.sl .sh (List.map encM a.sel), AV.sl .sh (List.map encL a.tols), AV.str a.key, AV.int .i64 a.most, AV.str a.node, AV.bool a.hold], [AV.str b.name, AV.str b.owner, AV.int .i64 b.prio, AV.sl .sh (List.map encA b.need), AV.sl .sh (List.map encP b.labels), AV.sl .sh (List.map encM b.sel), AV.sl .sh (List.map encL b.tols), AV.str b.key, AV.int .i64 b.most, AV.str b.node, AV.bool b.hold]], toks := [], loops := [] : Heap })) (by simp only [IsRet]; grind [samePB]))) (fun h2 => .no (show (a.owner == b.owner) = false from Bool.eq_false_iff.2 (show ¬ ((a.owner == b.owner) = true) from h2)) <| .ff <| .ff <| .ff <| .ff <| .ff <| .ff <| .ff <| .ff <| .fin ((ARes.ret (AV.bool false), { boxes := [[AV.str a.name, AV.str a.owner, AV.int .i64 a.prio, AV.sl .sh (List.map encA a.need), AV.sl .sh (List.map encP a.labels), AV.sl .sh (List.map encM a.sel), AV.sl .sh (List.map encL a.tols), AV.str a.key, AV.int .i64 a.most, AV.str a.node, AV.bool a.hold], [AV.str b.name, AV.str b.owner, AV.int .i64 b.prio, AV.sl .sh (List.map encA b.need), AV.sl .sh (List.map encP b.labels), AV.sl .sh (List.map encM b.sel), AV.sl .sh (List.map encL b.tols), AV.str b.key, AV.int .i64 b.most, AV.str b.node, AV.bool b.hold]], toks := [], loops := [] : Heap })) (by simp only [IsRet]; grind [samePB]))) (fun h1 => .no (show (a.name == b.name) = false from Bool.eq_false_iff.2 (show ¬ ((a.name == b.name) = true) from h1)) <| .ff <| .ff <| .ff <| .ff <| .ff <| .ff <| .ff <| .ff <| .ff <| .fin ((ARes.ret (AV.bool false), { boxes := [[AV.str a.name, AV.str a.owner, AV.int .i64 a.prio, AV.sl .sh (List.map encA a.need), AV.sl .sh (List.map encP a.labels), AV.sl .sh (List.map encM a.sel), AV.sl .sh (List.map encL a.tols), AV.str a.key, AV.int .i64 a.most, AV.str a.node, AV.bool a.hold], [AV.str b.name, AV.str b.owner, AV.int .i64 b.prio, AV.sl .sh (List.map encA b.need), AV.sl .sh (List.map encP b.labels), AV.sl .sh (List.map encM b.sel), AV.sl .sh (List.map encL b.tols), AV.str b.key, AV.int .i64 b.most, AV.str b.node, AV.bool b.hold]], toks := [], loops := [] : Heap })) (by simp only [IsRet]; grind [samePB]))) (by kernel_rfl)
theorem samePB_iff (a b : Pod) : samePB a b = true ↔ a = b := by
  cases a; cases b
  simp only [samePB, Bool.and_eq_true, beq_iff_eq, same2_iff eqA_iff, same2_iff eqP_iff, same2_iff eqM_iff, same2_iff eqL_iff, Pod.mk.injEq]
end Go.Aa.T

set_option linter.unusedVariables false
set_option linter.unusedSimpArgs false
set_option maxRecDepth 100000
namespace Go.Aa.T
open Go.Aa Go.Proofs
structure Bud where
  name : List UInt8
  sel : List Term
  floor : Int
def encB (b : Bud) : AV := .agg [.str b.name, .sl .sh (b.sel.map encM), .int .i64 b.floor]
instance (n : Bud) : Dat (encB n) := ⟨rfl, rfl⟩
def fewB1 (b : Bud) : Bool := decide (b.name.length ≤ 50) && fewM b.sel
def fewBs (l : List Bud) : Bool := decide (l.length ≤ 20) && l.all fewB1
theorem fewBs_len {l : List Bud} (h : fewBs l = true) : l.length ≤ 20 := by
  simp only [fewBs, Bool.and_eq_true, decide_eq_true_eq] at h; exact h.1
theorem fewBs_all {l : List Bud} (h : fewBs l = true) : ∀ x ∈ l, fewB1 x = true := by
  simp only [fewBs, Bool.and_eq_true, decide_eq_true_eq, List.all_eq_true] at h; exact h.2
theorem fewB1_sel {b : Bud} (h : fewB1 b = true) : b.sel.length ≤ 20 := by
  simp only [fewB1, Bool.and_eq_true, decide_eq_true_eq] at h; exact fewM_len h.2
theorem fewBs_loop (l : List Bud) (hn : l.length ≤ 20) : ∀ (post : List Bud) (i : Nat) (hd : l.drop i = post) (T : Env) (hT : Has T [(0, .sl .sh (l.map encB)), (3, .int .i64 i)]),
    Goes cfg a95 k95_0 T Heap.nil (IsRet (.bool (post.all fewB1))) := by
  intro post
  induction post with
  | nil =>
    intro i hd T hT
    have hge := drop_ge hd
    exact goG 60 _  hT  (.len (show lenA false (AV.sl .sh (List.map encB l)) = some (AV.int .i64 (↑l.length : Int)) from len_map _) <| .no (show (decide ((↑i : Int) < (↑l.length : Int))) = false from decide_eq_false (show ¬ ((↑i : Int) < (↑l.length : Int)) from (by omega))) <| .fin ((ARes.ret (AV.bool true), { boxes := [], toks := [], loops := [] : Heap })) rfl) (by kernel_rfl)
  | cons x post ih =>
    intro i hd T hT
    have hlt := drop_lt hd
    have hnx := drop_next hd
    exact goG 60 _  hT  (.len (show lenA false (AV.sl .sh (List.map encB l)) = some (AV.int .i64 (↑l.length : Int)) from len_map _) <| .yes (show (decide ((↑i : Int) < (↑l.length : Int))) = true from decide_eq_true (show (↑i : Int) < (↑l.length : Int) from (by omega))) <| .idx (show idxA 3 (AV.sl .sh (List.map encB l)) (AV.int .i64 (↑i : Int)) = some (AV.ref (encB x).cells) from idx_row hd (by rfl)) <| .len (show lenA true (AV.str x.name) = some (AV.int .i64 (↑x.name.length : Int)) from len_str _) <| .split ((50 : Int) < (↑x.name.length : Int)) (fun h1 => .yes (show (decide ((50 : Int) < (↑x.name.length : Int))) = true from decide_eq_true (show (50 : Int) < (↑x.name.length : Int) from h1)) <| .tt <| .fin ((ARes.ret (AV.bool false), { boxes := [], toks := [], loops := [] : Heap })) (by simp only [IsRet]; grind [fewB1])) (fun h1 => .no (show (decide ((50 : Int) < (↑x.name.length : Int))) = false from decide_eq_false (show ¬ ((50 : Int) < (↑x.name.length : Int)) from h1)) <| .idx (show idxA 3 (AV.sl .sh (List.map encB l)) (AV.int .i64 (↑i : Int)) = some (AV.ref (encB x).cells) from idx_row hd (by rfl)) <| .callG ([AV.sl .sh (List.map encM x.sel)]) (AV.bool (fewM x.sel)) (show Gives cfg (64 : FuncId) [AV.sl .sh (List.map encM x.sel)] (AV.bool (fewM x.sel)) from fewM_any _) ⟨rfl, rfl⟩ ⟨rfl, rfl⟩ <| .split (fewM x.sel = true) (fun h2 => .no (show (!fewM x.sel) = false from by have hh : fewM x.sel = true := h2; simp [hh]) <| .bin (show binA .add (AV.int .i64 (↑i : Int)) (AV.int .i64 1) = some (AV.int .i64 (↑(i + (1 : Nat)) : Int)) from inc_i (by omega)) <| .cutQ k95_0 [(0, AV.sl .sh (List.map encB l)), (3, AV.int .i64 (↑(i + (1 : Nat)) : Int))] ({ boxes := [], toks := [], loops := [] : Heap }) (fun T hT => (ih (i + (1 : Nat)) hnx T hT).to (by grind [fewB1]))) (fun h2 => .yes (show (!fewM x.sel) = true from by have hh : ¬ (fewM x.sel = true) := h2; simp [hh]) <| .fin ((ARes.ret (AV.bool false), { boxes := [], toks := [], loops := [] : Heap })) (by simp only [IsRet]; grind [fewB1])))) (by kernel_rfl)
theorem fewBs_any (l : List Bud) : Gives cfg 95 [.sl .sh (l.map encB)] (.bool (fewBs l)) := by
  refine Gives.run (l95 _ _) ?_
  have h := fun hn => fewBs_loop l hn l 0 rfl
  exact goG 60 []  trivial  (.len (show lenA false (AV.sl .sh (List.map encB l)) = some (AV.int .i64 (↑l.length : Int)) from len_map _) <| .split ((20 : Int) < (↑l.length : Int)) (fun h1 => .yes (show (decide ((20 : Int) < (↑l.length : Int))) = true from decide_eq_true (show (20 : Int) < (↑l.length : Int) from h1)) <| .fin ((ARes.ret (AV.bool false), { boxes := [], toks := [], loops := [] : Heap })) (by simp only [IsRet]; grind [fewBs])) (fun h1 => .no (show (decide ((20 : Int) < (↑l.length : Int))) = false from decide_eq_false (show ¬ ((20 : Int) < (↑l.length : Int)) from h1)) <| .cutQ k95_0 [(0, AV.sl .sh (List.map encB l)), (3, AV.int .i64 0)] ({ boxes := [], toks := [], loops := [] : Heap }) (fun T hT => (h (by omega) T hT).to (by grind [fewBs])))) (by kernel_rfl)
theorem ofB1 (b : Bud) (m1 : b.sel.length ≤ 20) : Gives cfg 148 [encB b] (encB b) := by
  refine Gives.run (l148 _ _) ?_
  exact goG 80 []  trivial  (.callG ([AV.sl .sh (List.map encM b.sel)]) (AV.sl .sh (List.map encM b.sel)) (show Gives cfg (72 : FuncId) [AV.sl .sh (List.map encM b.sel)] (rowS Heap.nil (List.map encM b.sel)) from ofM_any _ m1) ⟨rfl, rfl⟩ Res.p <| .fin ((ARes.ret (AV.agg [AV.str b.name, AV.sl .sh (List.map encM b.sel), AV.int .i64 b.floor]), { boxes := [[AV.str b.name, AV.sl .sh (List.map encM b.sel), AV.int .i64 b.floor], [AV.str b.name, AV.sl .sh (List.map encM b.sel), AV.int .i64 b.floor]], toks := [], loops := [] : Heap })) rfl) (by kernel_rfl)
theorem ofB_any (b : Bud) (h : fewB1 b = true) : Gives cfg 148 [encB b] (encB b) := ofB1 b (fewB1_sel h)
theorem ofBs_loop (l : List Bud) (hn : l.length ≤ 20) (hf : ∀ x ∈ l, fewB1 x = true) : ∀ (post : List Bud) (i : Nat) (acc : List AV) (hd : l.drop i = post) (ha : acc.length = i) (hl : lenOk 3 acc = true) (T : Env) (hT : Has T [(0, .sl .sh (l.map encB)), (3, rowS Heap.nil acc), (4, .int .i64 i)]),
    Goes cfg a76 k76_0 T (rowH Heap.nil acc) (IsRet (rowS Heap.nil (acc ++ post.map encB))) := by
  intro post
  induction post with
  | nil =>
    intro i acc hd ha hl T hT
    have hge := drop_ge hd
    exact goG 60 _  hT  (.len (show lenA false (AV.sl .sh (List.map encB l)) = some (AV.int .i64 (↑l.length : Int)) from len_map _) <| .no (show (decide ((↑i : Int) < (↑l.length : Int))) = false from decide_eq_false (show ¬ ((↑i : Int) < (↑l.length : Int)) from (by omega))) <| .fin ((ARes.ret (setD (setD (setD (setD (setD (setD (updL T [((0 : Nat), AV.sl .sh (List.map encB l)), ((3 : Nat), rowS Heap.nil acc), ((4 : Nat), AV.int .i64 (↑i : Int))]) { dst := some (5 : Nat), op := AOp.mov (Opd.t (4 : Nat)), guard := none, deps := [] : AOper }.dst (ev (updL T [((0 : Nat), AV.sl .sh (List.map encB l)), ((3 : Nat), rowS Heap.nil acc), ((4 : Nat), AV.int .i64 (↑i : Int))]) (Opd.t (4 : Nat)))) { dst := some (6 : Nat), op := AOp.mov (Opd.t (0 : Nat)), guard := none, deps := [] : AOper }.dst (ev (setD (updL T [((0 : Nat), AV.sl .sh (List.map encB l)), ((3 : Nat), rowS Heap.nil acc), ((4 : Nat), AV.int .i64 (↑i : Int))]) { dst := some (5 : Nat), op := AOp.mov (Opd.t (4 : Nat)), guard := none, deps := [] : AOper }.dst (ev (updL T [((0 : Nat), AV.sl .sh (List.map encB l)), ((3 : Nat), rowS Heap.nil acc), ((4 : Nat), AV.int .i64 (↑i : Int))]) (Opd.t (4 : Nat)))) (Opd.t (0 : Nat)))) { dst := some (7 : Nat), op := AOp.len false (Opd.t (6 : Nat)), guard := none, deps := [] : AOper }.dst (AV.int .i64 (↑l.length : Int))) { dst := some (8 : Nat), op := AOp.bin BinOp.lss (Opd.t (5 : Nat)) (Opd.t (7 : Nat)), guard := none, deps := [] : AOper }.dst (AV.bool (decide ((↑i : Int) < (↑l.length : Int))))) { dst := some (19 : Nat), op := AOp.mov (Opd.t (3 : Nat)), guard := none, deps := [] : AOper }.dst (ev (setD (setD (setD (setD (updL T [((0 : Nat), AV.sl .sh (List.map encB l)), ((3 : Nat), rowS Heap.nil acc), ((4 : Nat), AV.int .i64 (↑i : Int))]) { dst := some (5 : Nat), op := AOp.mov (Opd.t (4 : Nat)), guard := none, deps := [] : AOper }.dst (ev (updL T [((0 : Nat), AV.sl .sh (List.map encB l)), ((3 : Nat), rowS Heap.nil acc), ((4 : Nat), AV.int .i64 (↑i : Int))]) (Opd.t (4 : Nat)))) { dst := some (6 : Nat), op := AOp.mov (Opd.t (0 : Nat)), guard := none, deps := [] : AOper }.dst (ev (setD (updL T [((0 : Nat), AV.sl .sh (List.map encB l)), ((3 : Nat), rowS Heap.nil acc), ((4 : Nat), AV.int .i64 (↑i : Int))]) { dst := some (5 : Nat), op := AOp.mov (Opd.t (4 : Nat)), guard := none, deps := [] : AOper }.dst (ev (updL T [((0 : Nat), AV.sl .sh (List.map encB l)), ((3 : Nat), rowS Heap.nil acc), ((4 : Nat), AV.int .i64 (↑i : Int))]) (Opd.t (4 : Nat)))) (Opd.t (0 : Nat)))) { dst := some (7 : Nat), op := AOp.len false (Opd.t (6 : Nat)), guard := none, deps := [] : AOper }.dst (AV.int .i64 (↑l.length : Int))) { dst := some (8 : Nat), op := AOp.bin BinOp.lss (Opd.t (5 : Nat)) (Opd.t (7 : Nat)), guard := none, deps := [] : AOper }.dst (AV.bool (decide ((↑i : Int) < (↑l.length : Int))))) (Opd.t (3 : Nat)))) { dst := some (2 : Nat), op := AOp.mov (Opd.t (19 : Nat)), guard := none, deps := [] : AOper }.dst (ev (setD (setD (setD (setD (setD (updL T [((0 : Nat), AV.sl .sh (List.map encB l)), ((3 : Nat), rowS Heap.nil acc), ((4 : Nat), AV.int .i64 (↑i : Int))]) { dst := some (5 : Nat), op := AOp.mov (Opd.t (4 : Nat)), guard := none, deps := [] : AOper }.dst (ev (updL T [((0 : Nat), AV.sl .sh (List.map encB l)), ((3 : Nat), rowS Heap.nil acc), ((4 : Nat), AV.int .i64 (↑i : Int))]) (Opd.t (4 : Nat)))) { dst := some (6 : Nat), op := AOp.mov (Opd.t (0 : Nat)), guard := none, deps := [] : AOper }.dst (ev (setD (updL T [((0 : Nat), AV.sl .sh (List.map encB l)), ((3 : Nat), rowS Heap.nil acc), ((4 : Nat), AV.int .i64 (↑i : Int))]) { dst := some (5 : Nat), op := AOp.mov (Opd.t (4 : Nat)), guard := none, deps := [] : AOper }.dst (ev (updL T [((0 : Nat), AV.sl .sh (List.map encB l)), ((3 : Nat), rowS Heap.nil acc), ((4 : Nat), AV.int .i64 (↑i : Int))]) (Opd.t (4 : Nat)))) (Opd.t (0 : Nat)))) { dst := some (7 : Nat), op := AOp.len false (Opd.t (6 : Nat)), guard := none, deps := [] : AOper }.dst (AV.int .i64 (↑l.length : Int))) { dst := some (8 : Nat), op := AOp.bin BinOp.lss (Opd.t (5 : Nat)) (Opd.t (7 : Nat)), guard := none, deps := [] : AOper }.dst (AV.bool (decide ((↑i : Int) < (↑l.length : Int))))) { dst := some (19 : Nat), op := AOp.mov (Opd.t (3 : Nat)), guard := none, deps := [] : AOper }.dst (ev (setD (setD (setD (setD (updL T [((0 : Nat), AV.sl .sh (List.map encB l)), ((3 : Nat), rowS Heap.nil acc), ((4 : Nat), AV.int .i64 (↑i : Int))]) { dst := some (5 : Nat), op := AOp.mov (Opd.t (4 : Nat)), guard := none, deps := [] : AOper }.dst (ev (updL T [((0 : Nat), AV.sl .sh (List.map encB l)), ((3 : Nat), rowS Heap.nil acc), ((4 : Nat), AV.int .i64 (↑i : Int))]) (Opd.t (4 : Nat)))) { dst := some (6 : Nat), op := AOp.mov (Opd.t (0 : Nat)), guard := none, deps := [] : AOper }.dst (ev (setD (updL T [((0 : Nat), AV.sl .sh (List.map encB l)), ((3 : Nat), rowS Heap.nil acc), ((4 : Nat), AV.int .i64 (↑i : Int))]) { dst := some (5 : Nat), op := AOp.mov (Opd.t (4 : Nat)), guard := none, deps := [] : AOper }.dst (ev (updL T [((0 : Nat), AV.sl .sh (List.map encB l)), ((3 : Nat), rowS Heap.nil acc), ((4 : Nat), AV.int .i64 (↑i : Int))]) (Opd.t (4 : Nat)))) (Opd.t (0 : Nat)))) { dst := some (7 : Nat), op := AOp.len false (Opd.t (6 : Nat)), guard := none, deps := [] : AOper }.dst (AV.int .i64 (↑l.length : Int))) { dst := some (8 : Nat), op := AOp.bin BinOp.lss (Opd.t (5 : Nat)) (Opd.t (7 : Nat)), guard := none, deps := [] : AOper }.dst (AV.bool (decide ((↑i : Int) < (↑l.length : Int))))) (Opd.t (3 : Nat)))) (Opd.t (19 : Nat))) (2 : Nat)), rowH Heap.nil acc)) (by simp only [IsRet, List.map_nil, List.append_nil]; rfl)) (by kernel_rfl)
  | cons x post ih =>
    intro i acc hd ha hl T hT
    have hlt := drop_lt hd
    have hnx := drop_next hd
    have hx := hf x (drop_mem hd)
    exact goG 60 _  hT  (.len (show lenA false (AV.sl .sh (List.map encB l)) = some (AV.int .i64 (↑l.length : Int)) from len_map _) <| .yes (show (decide ((↑i : Int) < (↑l.length : Int))) = true from decide_eq_true (show (↑i : Int) < (↑l.length : Int) from (by simp; omega))) <| .idx (show idxA 3 (AV.sl .sh (List.map encB l)) (AV.int .i64 (↑i : Int)) = some (AV.ref (encB x).cells) from idx_row hd (by rfl)) <| .load (show loadA true 3 (rowH Heap.nil acc) (AV.ref [AV.str x.name, AV.sl .sh (List.map encM x.sel), AV.int .i64 x.floor]) = some (AV.agg [AV.str x.name, AV.sl .sh (List.map encM x.sel), AV.int .i64 x.floor]) from rfl) <| .callG ([AV.agg [AV.str x.name, AV.sl .sh (List.map encM x.sel), AV.int .i64 x.floor]]) (AV.agg [AV.str x.name, AV.sl .sh (List.map encM x.sel), AV.int .i64 x.floor]) (show Gives cfg (148 : FuncId) [encB x] (encB x) from ofB_any _ hx) ⟨rfl, rfl⟩ ⟨rfl, rfl⟩ <| .append (show appendA (3 : Nat) (48 : Nat) (rowH Heap.nil acc) (rowS Heap.nil acc) (AV.sl .full [AV.agg [AV.str x.name, AV.sl .sh (List.map encM x.sel), AV.int .i64 x.floor]]) = some ((rowS Heap.nil (acc ++ [AV.agg [AV.str x.name, AV.sl .sh (List.map encM x.sel), AV.int .i64 x.floor]]), rowH Heap.nil (acc ++ [AV.agg [AV.str x.name, AV.sl .sh (List.map encM x.sel), AV.int .i64 x.floor]]))) from row_append (by omega) hl (by rfl) (by rfl)) <| .bin (show binA .add (AV.int .i64 (↑i : Int)) (AV.int .i64 1) = some (AV.int .i64 (↑(i + (1 : Nat)) : Int)) from inc_i (by omega)) <| .cutQ k76_0 [(0, AV.sl .sh (List.map encB l)), (3, rowS Heap.nil (acc ++ [AV.agg [AV.str x.name, AV.sl .sh (List.map encM x.sel), AV.int .i64 x.floor]])), (4, AV.int .i64 (↑(i + (1 : Nat)) : Int))] (rowH Heap.nil (acc ++ [AV.agg [AV.str x.name, AV.sl .sh (List.map encM x.sel), AV.int .i64 x.floor]])) (fun T hT => (ih (i + (1 : Nat)) (acc ++ [AV.agg [AV.str x.name, AV.sl .sh (List.map encM x.sel), AV.int .i64 x.floor]]) hnx (by simp; omega) (by exact lenOk_snoc (by assumption) rfl) T hT).to (by simp [encB]))) (by kernel_rfl)
theorem ofBs_any (l : List Bud) (hn : l.length ≤ 20) (hf : ∀ x ∈ l, fewB1 x = true) : Gives cfg 76 [.sl .sh (l.map encB)] (rowS Heap.nil (l.map encB)) := by
  refine Gives.run (l76 _ _) ?_
  have h := ofBs_loop l hn hf l 0 [] rfl rfl rfl
  exact goG 60 []  trivial  (.cutQ k76_0 [(0, AV.sl .sh (List.map encB l)), (3, AV.sl .full []), (4, AV.int .i64 0)] ({ boxes := [], toks := [], loops := [] : Heap }) (fun T hT => (h T hT))) (by kernel_rfl)

end Go.Aa.T

set_option linter.unusedVariables false
set_option linter.unusedSimpArgs false
set_option maxRecDepth 100000
namespace Go.Aa.T
open Go.Aa Go.Proofs

structure VOk (v : List Amount) : Prop where
  len : v.length ≤ 8
  name : ∀ x ∈ v, isName x.name = true
  pos : ∀ x ∈ v, 0 < x.n
  rise : Rise (nms v)


def kq : Bool → SK
  | true => .sh
  | false => .full
instance (c : Bool) (l : List AV) : Shut (.sl (kq c) l) (.sl .sh l) := ⟨by cases c <;> exact ⟨rfl, rfl⟩⟩
def resV (c : Bool) (p : List Amount × Int) : AV := .tuple [.sl (kq c) (p.1.map encA), .int .i64 p.2]
instance (c : Bool) (p : List Amount × Int) : Res (resV c p) (.tuple [.sl .sh (p.1.map encA), .int .i64 p.2]) := ⟨by
  cases c <;> exact ⟨rfl, rfl⟩⟩
def resW (c : Bool) (l : List Amount) (e : Int) : AV := .tuple [.sl (kq c) (l.map encA), .int .i64 e]
instance (c : Bool) (l : List Amount) (e : Int) : Res (resW c l e) (.tuple [.sl .sh (l.map encA), .int .i64 e]) := ⟨by
  cases c <;> exact ⟨rfl, rfl⟩⟩
instance (l : List (List UInt8)) : Shut (rowT l) (.sl .sh (l.map .str)) := inferInstanceAs (Shut (rowS Heap.nil (l.map .str)) _)
end Go.Aa.T

set_option linter.unusedVariables false
set_option linter.unusedSimpArgs false
set_option maxRecDepth 100000
namespace Go.Aa.T
open Go.Aa Go.Proofs
structure St where
  nodes : List Node
  pods : List Pod
  buds : List Bud
def encSt (s : St) : AV := .agg [.sl .sh (s.nodes.map encN), .sl .sh (s.pods.map encPd), .sl .sh (s.buds.map encB)]
instance (s : St) : Dat (encSt s) := ⟨rfl, rfl⟩

structure Vin (v : List Amount) : Prop where
  len : v.length < 9223372036854775807
  rg : rgA v
end Go.Aa.T

set_option linter.unusedVariables false
set_option linter.unusedSimpArgs false
set_option maxRecDepth 100000
namespace Go.Aa.T
open Go.Aa Go.Proofs
structure StIn (s : St) : Prop where
  nodes : s.nodes.length < 9223372036854775807
  pods : s.pods.length ≤ 1000
  cap : ∀ n ∈ s.nodes, Vin n.cap
  need : ∀ p ∈ s.pods, Vin p.need



end Go.Aa.T

set_option linter.unusedVariables false
set_option linter.unusedSimpArgs false
set_option maxRecDepth 100000
namespace Go.Aa.T
open Go.Aa Go.Proofs
section
variable {call : CallF} {i p : Nat} {o : AOper} {ops : List AOper} {T : Env} {H H' : Heap} {u v : AV}
end
theorem Goes.imp {A : AFunc} {k : List AIt} {T : Env} {H : Heap} {R R' : ARes × Heap → Prop} (h : Goes cfg A k T H R) (hi : ∀ r, R r → R' r) : Goes cfg A k T H R' := by
  obtain ⟨r, h1, h2⟩ := h
  exact ⟨r, h1, hi r h2⟩
end Go.Aa.T

set_option linter.unusedVariables false
set_option linter.unusedSimpArgs false
set_option maxRecDepth 100000
namespace Go.Aa.T
open Go.Aa Go.Proofs
def fewSt (s : St) : Bool := decide (s.nodes.length ≤ 34) && (decide (s.pods.length ≤ 130) && (fewBs s.buds && (s.nodes.all fewN && s.pods.all fewPd)))
structure FewS (s : St) : Prop where
  nodes : s.nodes.length ≤ 34
  pods : s.pods.length ≤ 130
  buds : fewBs s.buds = true
  node : ∀ n ∈ s.nodes, fewN n = true
  pod : ∀ p ∈ s.pods, fewPd p = true
theorem fewS {s : St} (h : fewSt s = true) : FewS s := by
  simp only [fewSt, Bool.and_eq_true, decide_eq_true_eq, List.all_eq_true] at h
  exact ⟨h.1, h.2.1, h.2.2.1, h.2.2.2.1, h.2.2.2.2⟩
theorem fewSt_pods (s : St) (hs : s.pods.length ≤ 130) : ∀ (post : List Pod) (i : Nat) (hd : s.pods.drop i = post) (T : Env) (hT : Has T [(1, .ptr 0 0), (4, .int .i64 i)]),
    Goes cfg a30 k30_1 T ⟨[(encSt s).cells], [], []⟩ (IsRet (.bool (post.all fewPd))) := by
  intro post
  induction post with
  | nil =>
    intro i hd T hT
    have hge := drop_ge hd
    exact goG 60 _  hT  (.len (show lenA false (AV.sl .sh (List.map encPd s.pods)) = some (AV.int .i64 (↑s.pods.length : Int)) from len_map _) <| .no (show (decide ((↑i : Int) < (↑s.pods.length : Int))) = false from decide_eq_false (show ¬ ((↑i : Int) < (↑s.pods.length : Int)) from (by omega))) <| .fin ((ARes.ret (AV.bool true), { boxes := [[AV.sl .sh (List.map encN s.nodes), AV.sl .sh (List.map encPd s.pods), AV.sl .sh (List.map encB s.buds)]], toks := [], loops := [] : Heap })) rfl) (by kernel_rfl)
  | cons x post ih =>
    intro i hd T hT
    have hlt := drop_lt hd
    have hnx := drop_next hd
    have hx := fewPd_any x
    have hxi : idxA 11 (.sl .sh (s.pods.map encPd)) (.int .i64 (i : Nat)) = some (.ref (encPd x).cells) := idx_row (f := encPd) hd rfl
    rw [List.all_cons]
    cases hb : fewPd x with
    | true =>
      rw [hb] at hx
      exact goG 60 _  hT  (.len (show lenA false (AV.sl .sh (List.map encPd s.pods)) = some (AV.int .i64 (↑s.pods.length : Int)) from len_map _) <| .yes (show (decide ((↑i : Int) < (↑s.pods.length : Int))) = true from decide_eq_true (show (↑i : Int) < (↑s.pods.length : Int) from (by omega))) <| .idx (show idxA 11 (AV.sl .sh (List.map encPd s.pods)) (AV.int .i64 (↑i : Int)) = some (AV.ref (encPd x).cells) from hxi) <| .callG ([AV.agg [AV.str x.name, AV.str x.owner, AV.int .i64 x.prio, AV.sl .sh (List.map encA x.need), AV.sl .sh (List.map encP x.labels), AV.sl .sh (List.map encM x.sel), AV.sl .sh (List.map encL x.tols), AV.str x.key, AV.int .i64 x.most, AV.str x.node, AV.bool x.hold]]) (AV.bool true) (show Gives cfg (17 : FuncId) [encPd x] (AV.bool true) from hx) ⟨rfl, rfl⟩ ⟨rfl, rfl⟩ <| .ff <| .bin (show binA .add (AV.int .i64 (↑i : Int)) (AV.int .i64 1) = some (AV.int .i64 (↑(i + (1 : Nat)) : Int)) from inc_i (by omega)) <| .cutQ k30_1 [(1, AV.ptr 0 0), (4, AV.int .i64 (↑(i + (1 : Nat)) : Int))] ({ boxes := [[AV.sl .sh (List.map encN s.nodes), AV.sl .sh (List.map encPd s.pods), AV.sl .sh (List.map encB s.buds)]], toks := [], loops := [] : Heap }) (fun T hT => (ih (i + (1 : Nat)) hnx T hT))) (by kernel_rfl)
    | false =>
      rw [hb] at hx
      exact goG 60 _  hT  (.len (show lenA false (AV.sl .sh (List.map encPd s.pods)) = some (AV.int .i64 (↑s.pods.length : Int)) from len_map _) <| .yes (show (decide ((↑i : Int) < (↑s.pods.length : Int))) = true from decide_eq_true (show (↑i : Int) < (↑s.pods.length : Int) from (by omega))) <| .idx (show idxA 11 (AV.sl .sh (List.map encPd s.pods)) (AV.int .i64 (↑i : Int)) = some (AV.ref (encPd x).cells) from hxi) <| .callG ([AV.agg [AV.str x.name, AV.str x.owner, AV.int .i64 x.prio, AV.sl .sh (List.map encA x.need), AV.sl .sh (List.map encP x.labels), AV.sl .sh (List.map encM x.sel), AV.sl .sh (List.map encL x.tols), AV.str x.key, AV.int .i64 x.most, AV.str x.node, AV.bool x.hold]]) (AV.bool false) (show Gives cfg (17 : FuncId) [encPd x] (AV.bool false) from hx) ⟨rfl, rfl⟩ ⟨rfl, rfl⟩ <| .tt <| .fin ((ARes.ret (AV.bool false), { boxes := [[AV.sl .sh (List.map encN s.nodes), AV.sl .sh (List.map encPd s.pods), AV.sl .sh (List.map encB s.buds)]], toks := [], loops := [] : Heap })) rfl) (by kernel_rfl)
theorem fewSt_nodes (s : St) (hs : s.nodes.length ≤ 34) (hp : s.pods.length ≤ 130) : ∀ (post : List Node) (i : Nat) (hd : s.nodes.drop i = post) (T : Env) (hT : Has T [(1, .ptr 0 0), (3, .int .i64 i)]),
    Goes cfg a30 k30_0 T ⟨[(encSt s).cells], [], []⟩ (IsRet (.bool (post.all fewN && s.pods.all fewPd))) := by
  intro post
  induction post with
  | nil =>
    intro i hd T hT
    have hge := drop_ge hd
    have h2 := fewSt_pods s hp s.pods 0 rfl
    rw [show (([] : List Node).all fewN && s.pods.all fewPd) = s.pods.all fewPd from rfl]
    exact goG 60 _  hT  (.len (show lenA false (AV.sl .sh (List.map encN s.nodes)) = some (AV.int .i64 (↑s.nodes.length : Int)) from len_map _) <| .no (show (decide ((↑i : Int) < (↑s.nodes.length : Int))) = false from decide_eq_false (show ¬ ((↑i : Int) < (↑s.nodes.length : Int)) from (by omega))) <| .cutQ k30_1 [(1, AV.ptr 0 0), (4, AV.int .i64 0)] ({ boxes := [[AV.sl .sh (List.map encN s.nodes), AV.sl .sh (List.map encPd s.pods), AV.sl .sh (List.map encB s.buds)]], toks := [], loops := [] : Heap }) (fun T hT => (h2 T hT))) (by kernel_rfl)
  | cons x post ih =>
    intro i hd T hT
    have hlt := drop_lt hd
    have hnx := drop_next hd
    have hx := fewN_any x
    have hxi : idxA 5 (.sl .sh (s.nodes.map encN)) (.int .i64 (i : Nat)) = some (.ref (encN x).cells) := idx_row (f := encN) hd rfl
    rw [List.all_cons]
    cases hb : fewN x with
    | true =>
      rw [hb] at hx
      rw [Bool.true_and]
      exact goG 60 _  hT  (.len (show lenA false (AV.sl .sh (List.map encN s.nodes)) = some (AV.int .i64 (↑s.nodes.length : Int)) from len_map _) <| .yes (show (decide ((↑i : Int) < (↑s.nodes.length : Int))) = true from decide_eq_true (show (↑i : Int) < (↑s.nodes.length : Int) from (by omega))) <| .idx (show idxA 5 (AV.sl .sh (List.map encN s.nodes)) (AV.int .i64 (↑i : Int)) = some (AV.ref (encN x).cells) from hxi) <| .callG ([AV.agg [AV.str x.name, AV.sl .sh (List.map encA x.cap), AV.sl .sh (List.map encP x.labels), AV.sl .sh (List.map encT x.taints), AV.bool x.cordon]]) (AV.bool true) (show Gives cfg (96 : FuncId) [encN x] (AV.bool true) from hx) ⟨rfl, rfl⟩ ⟨rfl, rfl⟩ <| .ff <| .bin (show binA .add (AV.int .i64 (↑i : Int)) (AV.int .i64 1) = some (AV.int .i64 (↑(i + (1 : Nat)) : Int)) from inc_i (by omega)) <| .cutQ k30_0 [(1, AV.ptr 0 0), (3, AV.int .i64 (↑(i + (1 : Nat)) : Int))] ({ boxes := [[AV.sl .sh (List.map encN s.nodes), AV.sl .sh (List.map encPd s.pods), AV.sl .sh (List.map encB s.buds)]], toks := [], loops := [] : Heap }) (fun T hT => (ih (i + (1 : Nat)) hnx T hT))) (by kernel_rfl)
    | false =>
      rw [hb] at hx
      exact goG 60 _  hT  (.len (show lenA false (AV.sl .sh (List.map encN s.nodes)) = some (AV.int .i64 (↑s.nodes.length : Int)) from len_map _) <| .yes (show (decide ((↑i : Int) < (↑s.nodes.length : Int))) = true from decide_eq_true (show (↑i : Int) < (↑s.nodes.length : Int) from (by omega))) <| .idx (show idxA 5 (AV.sl .sh (List.map encN s.nodes)) (AV.int .i64 (↑i : Int)) = some (AV.ref (encN x).cells) from hxi) <| .callG ([AV.agg [AV.str x.name, AV.sl .sh (List.map encA x.cap), AV.sl .sh (List.map encP x.labels), AV.sl .sh (List.map encT x.taints), AV.bool x.cordon]]) (AV.bool false) (show Gives cfg (96 : FuncId) [encN x] (AV.bool false) from hx) ⟨rfl, rfl⟩ ⟨rfl, rfl⟩ <| .tt <| .fin ((ARes.ret (AV.bool false), { boxes := [[AV.sl .sh (List.map encN s.nodes), AV.sl .sh (List.map encPd s.pods), AV.sl .sh (List.map encB s.buds)]], toks := [], loops := [] : Heap })) rfl) (by kernel_rfl)
theorem fewSt_any (s : St) : Gives cfg 30 [encSt s] (.bool (fewSt s)) := by
  refine Gives.run (l30 _ _) ?_
  have hb := fewBs_any s.buds
  unfold fewSt
  by_cases h1 : s.nodes.length ≤ 34
  · by_cases h2 : s.pods.length ≤ 130
    · have h3 := fewSt_nodes s h1 h2 s.nodes 0 rfl
      rw [decide_eq_true h1, decide_eq_true h2, Bool.true_and, Bool.true_and]
      cases hq : fewBs s.buds with
      | true =>
        rw [hq] at hb
        rw [Bool.true_and]
        exact goG 90 []  trivial  (.len (show lenA false (AV.sl .sh (List.map encN s.nodes)) = some (AV.int .i64 (↑s.nodes.length : Int)) from len_map _) <| .no (show (decide ((34 : Int) < (↑s.nodes.length : Int))) = false from decide_eq_false (show ¬ ((34 : Int) < (↑s.nodes.length : Int)) from (by omega))) <| .len (show lenA false (AV.sl .sh (List.map encPd s.pods)) = some (AV.int .i64 (↑s.pods.length : Int)) from len_map _) <| .no (show (decide ((130 : Int) < (↑s.pods.length : Int))) = false from decide_eq_false (show ¬ ((130 : Int) < (↑s.pods.length : Int)) from (by omega))) <| .callG ([AV.sl .sh (List.map encB s.buds)]) (AV.bool true) (show Gives cfg (95 : FuncId) [AV.sl .sh (List.map encB s.buds)] (AV.bool true) from hb) ⟨rfl, rfl⟩ ⟨rfl, rfl⟩ <| .ff <| .cutQ k30_0 [(1, AV.ptr 0 0), (3, AV.int .i64 0)] ({ boxes := [[AV.sl .sh (List.map encN s.nodes), AV.sl .sh (List.map encPd s.pods), AV.sl .sh (List.map encB s.buds)]], toks := [], loops := [] : Heap }) (fun T hT => (h3 T hT))) (by kernel_rfl)
      | false =>
        rw [hq] at hb
        exact goG 90 []  trivial  (.len (show lenA false (AV.sl .sh (List.map encN s.nodes)) = some (AV.int .i64 (↑s.nodes.length : Int)) from len_map _) <| .no (show (decide ((34 : Int) < (↑s.nodes.length : Int))) = false from decide_eq_false (show ¬ ((34 : Int) < (↑s.nodes.length : Int)) from (by omega))) <| .len (show lenA false (AV.sl .sh (List.map encPd s.pods)) = some (AV.int .i64 (↑s.pods.length : Int)) from len_map _) <| .no (show (decide ((130 : Int) < (↑s.pods.length : Int))) = false from decide_eq_false (show ¬ ((130 : Int) < (↑s.pods.length : Int)) from (by omega))) <| .callG ([AV.sl .sh (List.map encB s.buds)]) (AV.bool false) (show Gives cfg (95 : FuncId) [AV.sl .sh (List.map encB s.buds)] (AV.bool false) from hb) ⟨rfl, rfl⟩ ⟨rfl, rfl⟩ <| .tt <| .fin ((ARes.ret (AV.bool false), { boxes := [[AV.sl .sh (List.map encN s.nodes), AV.sl .sh (List.map encPd s.pods), AV.sl .sh (List.map encB s.buds)]], toks := [], loops := [] : Heap })) rfl) (by kernel_rfl)
    · rw [decide_eq_false h2, Bool.false_and, Bool.and_false]
      exact goG 90 []  trivial  (.len (show lenA false (AV.sl .sh (List.map encN s.nodes)) = some (AV.int .i64 (↑s.nodes.length : Int)) from len_map _) <| .no (show (decide ((34 : Int) < (↑s.nodes.length : Int))) = false from decide_eq_false (show ¬ ((34 : Int) < (↑s.nodes.length : Int)) from (by omega))) <| .len (show lenA false (AV.sl .sh (List.map encPd s.pods)) = some (AV.int .i64 (↑s.pods.length : Int)) from len_map _) <| .yes (show (decide ((130 : Int) < (↑s.pods.length : Int))) = true from decide_eq_true (show (130 : Int) < (↑s.pods.length : Int) from (by omega))) <| .tt <| .fin ((ARes.ret (AV.bool false), { boxes := [[AV.sl .sh (List.map encN s.nodes), AV.sl .sh (List.map encPd s.pods), AV.sl .sh (List.map encB s.buds)]], toks := [], loops := [] : Heap })) rfl) (by kernel_rfl)
  · rw [decide_eq_false h1, Bool.false_and]
    exact goG 90 []  trivial  (.len (show lenA false (AV.sl .sh (List.map encN s.nodes)) = some (AV.int .i64 (↑s.nodes.length : Int)) from len_map _) <| .yes (show (decide ((34 : Int) < (↑s.nodes.length : Int))) = true from decide_eq_true (show (34 : Int) < (↑s.nodes.length : Int) from (by omega))) <| .tt <| .tt <| .fin ((ARes.ret (AV.bool false), { boxes := [[AV.sl .sh (List.map encN s.nodes), AV.sl .sh (List.map encPd s.pods), AV.sl .sh (List.map encB s.buds)]], toks := [], loops := [] : Heap })) rfl) (by kernel_rfl)
theorem ofSt_any (s : St) (h : FewS s) : Gives cfg 20 [encSt s] (encSt s) := by
  refine Gives.run (l20 _ _) ?_
  have h1 := ofNs_any s.nodes (by have := h.nodes; omega) h.node
  have h2 := ofPds_any s.pods (by have := h.pods; omega) h.pod
  have h3 := ofBs_any s.buds (fewBs_len h.buds) (fewBs_all h.buds)
  exact goG 90 []  trivial  (.callG ([AV.sl .sh (List.map encN s.nodes)]) (AV.sl .sh (List.map encN s.nodes)) (show Gives cfg (74 : FuncId) [AV.sl .sh (List.map encN s.nodes)] (rowS Heap.nil (List.map encN s.nodes)) from h1) ⟨rfl, rfl⟩ Res.p <| .callG ([AV.sl .sh (List.map encPd s.pods)]) (AV.sl .sh (List.map encPd s.pods)) (show Gives cfg (75 : FuncId) [AV.sl .sh (List.map encPd s.pods)] (rowS Heap.nil (List.map encPd s.pods)) from h2) ⟨rfl, rfl⟩ Res.p <| .callG ([AV.sl .sh (List.map encB s.buds)]) (AV.sl .sh (List.map encB s.buds)) (show Gives cfg (76 : FuncId) [AV.sl .sh (List.map encB s.buds)] (rowS Heap.nil (List.map encB s.buds)) from h3) ⟨rfl, rfl⟩ Res.p <| .fin ((ARes.ret (AV.agg [AV.sl .sh (List.map encN s.nodes), AV.sl .sh (List.map encPd s.pods), AV.sl .sh (List.map encB s.buds)]), { boxes := [[AV.sl .sh (List.map encN s.nodes), AV.sl .sh (List.map encPd s.pods), AV.sl .sh (List.map encB s.buds)], [AV.sl .sh (List.map encN s.nodes), AV.sl .sh (List.map encPd s.pods), AV.sl .sh (List.map encB s.buds)]], toks := [], loops := [] : Heap })) rfl) (by kernel_rfl)


structure RgS (s : St) : Prop where
  cap : ∀ n ∈ s.nodes, rgA n.cap
  need : ∀ p ∈ s.pods, rgA p.need
end Go.Aa.T
