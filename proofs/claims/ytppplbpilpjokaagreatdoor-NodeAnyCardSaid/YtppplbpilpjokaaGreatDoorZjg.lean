/-
  WHAT THE LAW LEANS ON, part 7 of 8: a machine of values and its soundness; the functions of the law upon it; what they come to.
-/
import Derived.Test.YtppplbpilpjokaaGreatDoorZjf
import Derived.Lib.ItoaLen

set_option linter.unusedVariables false
set_option linter.unusedSimpArgs false
set_option maxRecDepth 100000
namespace Go.Aa.T
open Go.Aa Go.Proofs

def same2 {X : Type} (e : X → X → Bool) : List X → List X → Bool
  | [], [] => true
  | x :: a, y :: b => e x y && same2 e a b
  | _, _ => false
theorem same2_len {X : Type} {e : X → X → Bool} : ∀ {a b : List X}, a.length ≠ b.length → same2 e a b = false
  | [], [], h => absurd rfl h
  | [], _ :: _, _ => rfl
  | _ :: _, [], _ => rfl
  | x :: a, y :: b, h => by
    simp only [List.length_cons, ne_eq, Nat.add_right_cancel_iff] at h
    simp only [same2, same2_len h, Bool.and_false]
theorem same2_iff {X : Type} {e : X → X → Bool} (he : ∀ x y, e x y = true ↔ x = y) : ∀ {a b : List X}, same2 e a b = true ↔ a = b
  | [], [] => by simp [same2]
  | [], _ :: _ => by simp [same2]
  | _ :: _, [] => by simp [same2]
  | x :: a, y :: b => by simp [same2, he, same2_iff he]
def eqA (x y : Amount) : Bool := x.name == y.name && x.n == y.n
def eqP (x y : Pair) : Bool := x.key == y.key && x.val == y.val
def eqT (x y : Taint) : Bool := x.key == y.key && (x.val == y.val && x.hard == y.hard)
theorem eqA_iff (x y : Amount) : eqA x y = true ↔ x = y := by cases x; cases y; simp [eqA]
theorem eqP_iff (x y : Pair) : eqP x y = true ↔ x = y := by cases x; cases y; simp [eqP]
theorem eqT_iff (x y : Taint) : eqT x y = true ↔ x = y := by cases x; cases y; simp [eqT]
theorem sameVR_loop (a b : List Amount) (hn : a.length < 9223372036854775807) (he : a.length = b.length) : ∀ (post q : List Amount) (i : Nat) (hd : a.drop i = post) (hq : b.drop i = q) (T : Env) (hT : Has T [(0, .sl .sh (a.map encA)), (1, .sl .sh (b.map encA)), (5, .int .i64 i)]),
    Goes cfg a88 k88_0 T Heap.nil (IsRet (.bool (same2 eqA post q))) := by
  intro post
  induction post with
  | nil =>
    intro q i hd hq T hT
    have hge := drop_ge hd
    have e : q = [] := by rw [← hq]; exact List.drop_eq_nil_of_le (by omega)
    subst e
    exact goG 60 _  hT  (.len (show lenA false (AV.sl .sh (List.map encA a)) = some (AV.int .i64 (↑a.length : Int)) from len_map _) <| .no (show (decide ((↑i : Int) < (↑a.length : Int))) = false from decide_eq_false (show ¬ ((↑i : Int) < (↑a.length : Int)) from (by omega))) <| .fin ((ARes.ret (AV.bool true), { boxes := [], toks := [], loops := [] : Heap })) rfl) (by kernel_rfl)
  | cons x post ih =>
    intro q i hd hq T hT
    have hlt := drop_lt hd
    have hnx := drop_next hd
    cases q with
    | nil => have := drop_ge hq; omega
    | cons y q =>
      have hnq := drop_next hq
      exact goG 60 _  hT  (.len (show lenA false (AV.sl .sh (List.map encA a)) = some (AV.int .i64 (↑a.length : Int)) from len_map _) <| .yes (show (decide ((↑i : Int) < (↑a.length : Int))) = true from decide_eq_true (show (↑i : Int) < (↑a.length : Int) from (by omega))) <| .idx (show idxA 2 (AV.sl .sh (List.map encA a)) (AV.int .i64 (↑i : Int)) = some (AV.ref (encA x).cells) from idx_row hd (by rfl)) <| .idx (show idxA 2 (AV.sl .sh (List.map encA b)) (AV.int .i64 (↑i : Int)) = some (AV.ref (encA y).cells) from idx_row hq (by rfl)) <| .split ((if true = true then !(x.name == y.name && (x.n == y.n && true)) else x.name == y.name && (x.n == y.n && true)) = true) (fun h1 => .yes (show (if true = true then !(x.name == y.name && (x.n == y.n && true)) else x.name == y.name && (x.n == y.n && true)) = true from h1) <| .fin ((ARes.ret (AV.bool false), { boxes := [], toks := [], loops := [] : Heap })) (by simp only [IsRet]; grind [same2, eqA])) (fun h1 => .no (show (if true = true then !(x.name == y.name && (x.n == y.n && true)) else x.name == y.name && (x.n == y.n && true)) = false from Bool.eq_false_iff.2 (show ¬ ((if true = true then !(x.name == y.name && (x.n == y.n && true)) else x.name == y.name && (x.n == y.n && true)) = true) from h1)) <| .bin (show binA .add (AV.int .i64 (↑i : Int)) (AV.int .i64 1) = some (AV.int .i64 (↑(i + (1 : Nat)) : Int)) from inc_i (by omega)) <| .cutQ k88_0 [(0, AV.sl .sh (List.map encA a)), (1, AV.sl .sh (List.map encA b)), (5, AV.int .i64 (↑(i + (1 : Nat)) : Int))] ({ boxes := [], toks := [], loops := [] : Heap }) (fun T hT => (ih (q) (i + (1 : Nat)) hnx hnq T hT).to (by grind [same2, eqA])))) (by kernel_rfl)
theorem sameVR (a b : List Amount) (hn : a.length < 9223372036854775807) : Gives cfg 88 [.sl .sh (a.map encA), .sl .sh (b.map encA)] (.bool (same2 eqA a b)) := by
  refine Gives.run (l88 _ _) ?_
  by_cases he : a.length = b.length
  · have h := sameVR_loop a b hn he a b 0 rfl rfl
    exact goG 60 []  trivial  (.len (show lenA false (AV.sl .sh (List.map encA a)) = some (AV.int .i64 (↑a.length : Int)) from len_map _) <| .len (show lenA false (AV.sl .sh (List.map encA b)) = some (AV.int .i64 (↑b.length : Int)) from len_map _) <| .no (show ((↑a.length : Int) != (↑b.length : Int)) = false from Bool.eq_false_iff.2 (show ¬ (((↑a.length : Int) != (↑b.length : Int)) = true) from (by simp [he]))) <| .cutQ k88_0 [(0, AV.sl .sh (List.map encA a)), (1, AV.sl .sh (List.map encA b)), (5, AV.int .i64 0)] ({ boxes := [], toks := [], loops := [] : Heap }) (fun T hT => (h T hT))) (by kernel_rfl)
  · rw [same2_len he]
    exact goG 60 []  trivial  (.len (show lenA false (AV.sl .sh (List.map encA a)) = some (AV.int .i64 (↑a.length : Int)) from len_map _) <| .len (show lenA false (AV.sl .sh (List.map encA b)) = some (AV.int .i64 (↑b.length : Int)) from len_map _) <| .yes (show ((↑a.length : Int) != (↑b.length : Int)) = true from (by simp; omega)) <| .fin ((ARes.ret (AV.bool false), { boxes := [], toks := [], loops := [] : Heap })) rfl) (by kernel_rfl)
theorem samePR_loop (a b : List Pair) (hn : a.length < 9223372036854775807) (he : a.length = b.length) : ∀ (post q : List Pair) (i : Nat) (hd : a.drop i = post) (hq : b.drop i = q) (T : Env) (hT : Has T [(0, .sl .sh (a.map encP)), (1, .sl .sh (b.map encP)), (5, .int .i64 i)]),
    Goes cfg a89 k89_0 T Heap.nil (IsRet (.bool (same2 eqP post q))) := by
  intro post
  induction post with
  | nil =>
    intro q i hd hq T hT
    have hge := drop_ge hd
    have e : q = [] := by rw [← hq]; exact List.drop_eq_nil_of_le (by omega)
    subst e
    exact goG 60 _  hT  (.len (show lenA false (AV.sl .sh (List.map encP a)) = some (AV.int .i64 (↑a.length : Int)) from len_map _) <| .no (show (decide ((↑i : Int) < (↑a.length : Int))) = false from decide_eq_false (show ¬ ((↑i : Int) < (↑a.length : Int)) from (by omega))) <| .fin ((ARes.ret (AV.bool true), { boxes := [], toks := [], loops := [] : Heap })) rfl) (by kernel_rfl)
  | cons x post ih =>
    intro q i hd hq T hT
    have hlt := drop_lt hd
    have hnx := drop_next hd
    cases q with
    | nil => have := drop_ge hq; omega
    | cons y q =>
      have hnq := drop_next hq
      exact goG 60 _  hT  (.len (show lenA false (AV.sl .sh (List.map encP a)) = some (AV.int .i64 (↑a.length : Int)) from len_map _) <| .yes (show (decide ((↑i : Int) < (↑a.length : Int))) = true from decide_eq_true (show (↑i : Int) < (↑a.length : Int) from (by omega))) <| .idx (show idxA 2 (AV.sl .sh (List.map encP a)) (AV.int .i64 (↑i : Int)) = some (AV.ref (encP x).cells) from idx_row hd (by rfl)) <| .idx (show idxA 2 (AV.sl .sh (List.map encP b)) (AV.int .i64 (↑i : Int)) = some (AV.ref (encP y).cells) from idx_row hq (by rfl)) <| .split ((if true = true then !(x.key == y.key && (x.val == y.val && true)) else x.key == y.key && (x.val == y.val && true)) = true) (fun h1 => .yes (show (if true = true then !(x.key == y.key && (x.val == y.val && true)) else x.key == y.key && (x.val == y.val && true)) = true from h1) <| .fin ((ARes.ret (AV.bool false), { boxes := [], toks := [], loops := [] : Heap })) (by simp only [IsRet]; grind [same2, eqP])) (fun h1 => .no (show (if true = true then !(x.key == y.key && (x.val == y.val && true)) else x.key == y.key && (x.val == y.val && true)) = false from Bool.eq_false_iff.2 (show ¬ ((if true = true then !(x.key == y.key && (x.val == y.val && true)) else x.key == y.key && (x.val == y.val && true)) = true) from h1)) <| .bin (show binA .add (AV.int .i64 (↑i : Int)) (AV.int .i64 1) = some (AV.int .i64 (↑(i + (1 : Nat)) : Int)) from inc_i (by omega)) <| .cutQ k89_0 [(0, AV.sl .sh (List.map encP a)), (1, AV.sl .sh (List.map encP b)), (5, AV.int .i64 (↑(i + (1 : Nat)) : Int))] ({ boxes := [], toks := [], loops := [] : Heap }) (fun T hT => (ih (q) (i + (1 : Nat)) hnx hnq T hT).to (by grind [same2, eqP])))) (by kernel_rfl)
theorem samePR (a b : List Pair) (hn : a.length < 9223372036854775807) : Gives cfg 89 [.sl .sh (a.map encP), .sl .sh (b.map encP)] (.bool (same2 eqP a b)) := by
  refine Gives.run (l89 _ _) ?_
  by_cases he : a.length = b.length
  · have h := samePR_loop a b hn he a b 0 rfl rfl
    exact goG 60 []  trivial  (.len (show lenA false (AV.sl .sh (List.map encP a)) = some (AV.int .i64 (↑a.length : Int)) from len_map _) <| .len (show lenA false (AV.sl .sh (List.map encP b)) = some (AV.int .i64 (↑b.length : Int)) from len_map _) <| .no (show ((↑a.length : Int) != (↑b.length : Int)) = false from Bool.eq_false_iff.2 (show ¬ (((↑a.length : Int) != (↑b.length : Int)) = true) from (by simp [he]))) <| .cutQ k89_0 [(0, AV.sl .sh (List.map encP a)), (1, AV.sl .sh (List.map encP b)), (5, AV.int .i64 0)] ({ boxes := [], toks := [], loops := [] : Heap }) (fun T hT => (h T hT))) (by kernel_rfl)
  · rw [same2_len he]
    exact goG 60 []  trivial  (.len (show lenA false (AV.sl .sh (List.map encP a)) = some (AV.int .i64 (↑a.length : Int)) from len_map _) <| .len (show lenA false (AV.sl .sh (List.map encP b)) = some (AV.int .i64 (↑b.length : Int)) from len_map _) <| .yes (show ((↑a.length : Int) != (↑b.length : Int)) = true from (by simp; omega)) <| .fin ((ARes.ret (AV.bool false), { boxes := [], toks := [], loops := [] : Heap })) rfl) (by kernel_rfl)
theorem sameTR_loop (a b : List Taint) (hn : a.length < 9223372036854775807) (he : a.length = b.length) : ∀ (post q : List Taint) (i : Nat) (hd : a.drop i = post) (hq : b.drop i = q) (T : Env) (hT : Has T [(0, .sl .sh (a.map encT)), (1, .sl .sh (b.map encT)), (5, .int .i64 i)]),
    Goes cfg a90 k90_0 T Heap.nil (IsRet (.bool (same2 eqT post q))) := by
  intro post
  induction post with
  | nil =>
    intro q i hd hq T hT
    have hge := drop_ge hd
    have e : q = [] := by rw [← hq]; exact List.drop_eq_nil_of_le (by omega)
    subst e
    exact goG 60 _  hT  (.len (show lenA false (AV.sl .sh (List.map encT a)) = some (AV.int .i64 (↑a.length : Int)) from len_map _) <| .no (show (decide ((↑i : Int) < (↑a.length : Int))) = false from decide_eq_false (show ¬ ((↑i : Int) < (↑a.length : Int)) from (by omega))) <| .fin ((ARes.ret (AV.bool true), { boxes := [], toks := [], loops := [] : Heap })) rfl) (by kernel_rfl)
  | cons x post ih =>
    intro q i hd hq T hT
    have hlt := drop_lt hd
    have hnx := drop_next hd
    cases q with
    | nil => have := drop_ge hq; omega
    | cons y q =>
      have hnq := drop_next hq
      exact goG 60 _  hT  (.len (show lenA false (AV.sl .sh (List.map encT a)) = some (AV.int .i64 (↑a.length : Int)) from len_map _) <| .yes (show (decide ((↑i : Int) < (↑a.length : Int))) = true from decide_eq_true (show (↑i : Int) < (↑a.length : Int) from (by omega))) <| .idx (show idxA 3 (AV.sl .sh (List.map encT a)) (AV.int .i64 (↑i : Int)) = some (AV.ref (encT x).cells) from idx_row hd (by rfl)) <| .idx (show idxA 3 (AV.sl .sh (List.map encT b)) (AV.int .i64 (↑i : Int)) = some (AV.ref (encT y).cells) from idx_row hq (by rfl)) <| .split ((if true = true then !(x.key == y.key && (x.val == y.val && (x.hard == y.hard && true))) else x.key == y.key && (x.val == y.val && (x.hard == y.hard && true))) = true) (fun h1 => .yes (show (if true = true then !(x.key == y.key && (x.val == y.val && (x.hard == y.hard && true))) else x.key == y.key && (x.val == y.val && (x.hard == y.hard && true))) = true from h1) <| .fin ((ARes.ret (AV.bool false), { boxes := [], toks := [], loops := [] : Heap })) (by simp only [IsRet]; grind [same2, eqT])) (fun h1 => .no (show (if true = true then !(x.key == y.key && (x.val == y.val && (x.hard == y.hard && true))) else x.key == y.key && (x.val == y.val && (x.hard == y.hard && true))) = false from Bool.eq_false_iff.2 (show ¬ ((if true = true then !(x.key == y.key && (x.val == y.val && (x.hard == y.hard && true))) else x.key == y.key && (x.val == y.val && (x.hard == y.hard && true))) = true) from h1)) <| .bin (show binA .add (AV.int .i64 (↑i : Int)) (AV.int .i64 1) = some (AV.int .i64 (↑(i + (1 : Nat)) : Int)) from inc_i (by omega)) <| .cutQ k90_0 [(0, AV.sl .sh (List.map encT a)), (1, AV.sl .sh (List.map encT b)), (5, AV.int .i64 (↑(i + (1 : Nat)) : Int))] ({ boxes := [], toks := [], loops := [] : Heap }) (fun T hT => (ih (q) (i + (1 : Nat)) hnx hnq T hT).to (by grind [same2, eqT])))) (by kernel_rfl)
theorem sameTR (a b : List Taint) (hn : a.length < 9223372036854775807) : Gives cfg 90 [.sl .sh (a.map encT), .sl .sh (b.map encT)] (.bool (same2 eqT a b)) := by
  refine Gives.run (l90 _ _) ?_
  by_cases he : a.length = b.length
  · have h := sameTR_loop a b hn he a b 0 rfl rfl
    exact goG 60 []  trivial  (.len (show lenA false (AV.sl .sh (List.map encT a)) = some (AV.int .i64 (↑a.length : Int)) from len_map _) <| .len (show lenA false (AV.sl .sh (List.map encT b)) = some (AV.int .i64 (↑b.length : Int)) from len_map _) <| .no (show ((↑a.length : Int) != (↑b.length : Int)) = false from Bool.eq_false_iff.2 (show ¬ (((↑a.length : Int) != (↑b.length : Int)) = true) from (by simp [he]))) <| .cutQ k90_0 [(0, AV.sl .sh (List.map encT a)), (1, AV.sl .sh (List.map encT b)), (5, AV.int .i64 0)] ({ boxes := [], toks := [], loops := [] : Heap }) (fun T hT => (h T hT))) (by kernel_rfl)
  · rw [same2_len he]
    exact goG 60 []  trivial  (.len (show lenA false (AV.sl .sh (List.map encT a)) = some (AV.int .i64 (↑a.length : Int)) from len_map _) <| .len (show lenA false (AV.sl .sh (List.map encT b)) = some (AV.int .i64 (↑b.length : Int)) from len_map _) <| .yes (show ((↑a.length : Int) != (↑b.length : Int)) = true from (by simp; omega)) <| .fin ((ARes.ret (AV.bool false), { boxes := [], toks := [], loops := [] : Heap })) rfl) (by kernel_rfl)
theorem sameVp_loop (a b : List Amount) (hn : a.length < 9223372036854775807) (he : a.length = b.length) : ∀ (post q : List Amount) (i : Nat) (hd : a.drop i = post) (hq : b.drop i = q) (T : Env) (hT : Has T [(0, .sl .sh (a.map encA)), (1, .sl .sh (b.map encA)), (12, .int .i64 a.length), (13, .int .i64 i)]),
    Goes cfg a146 k146_0 T Heap.nil (IsRet (.bool (same2 eqA post q))) := by
  intro post
  induction post with
  | nil =>
    intro q i hd hq T hT
    have hge := drop_ge hd
    have e : q = [] := by rw [← hq]; exact List.drop_eq_nil_of_le (by omega)
    subst e
    exact goG 60 _  hT  (.no (show (decide ((↑i : Int) < (↑a.length : Int))) = false from decide_eq_false (show ¬ ((↑i : Int) < (↑a.length : Int)) from (by omega))) <| .fin ((ARes.ret (AV.bool true), { boxes := [], toks := [], loops := [] : Heap })) rfl) (by kernel_rfl)
  | cons x post ih =>
    intro q i hd hq T hT
    have hlt := drop_lt hd
    have hnx := drop_next hd
    cases q with
    | nil => have := drop_ge hq; omega
    | cons y q =>
      have hnq := drop_next hq
      exact goG 60 _  hT  (.yes (show (decide ((↑i : Int) < (↑a.length : Int))) = true from decide_eq_true (show (↑i : Int) < (↑a.length : Int) from (by omega))) <| .idx (show idxA 2 (AV.sl .sh (List.map encA a)) (AV.int .i64 (↑i : Int)) = some (AV.ref (encA x).cells) from idx_row hd (by rfl)) <| .idx (show idxA 2 (AV.sl .sh (List.map encA b)) (AV.int .i64 (↑i : Int)) = some (AV.ref (encA y).cells) from idx_row hq (by rfl)) <| .split ((if true = true then !(x.name == y.name && (x.n == y.n && true)) else x.name == y.name && (x.n == y.n && true)) = true) (fun h1 => .yes (show (if true = true then !(x.name == y.name && (x.n == y.n && true)) else x.name == y.name && (x.n == y.n && true)) = true from h1) <| .fin ((ARes.ret (AV.bool false), { boxes := [], toks := [], loops := [] : Heap })) (by simp only [IsRet]; grind [same2, eqA])) (fun h1 => .no (show (if true = true then !(x.name == y.name && (x.n == y.n && true)) else x.name == y.name && (x.n == y.n && true)) = false from Bool.eq_false_iff.2 (show ¬ ((if true = true then !(x.name == y.name && (x.n == y.n && true)) else x.name == y.name && (x.n == y.n && true)) = true) from h1)) <| .bin (show binA .add (AV.int .i64 (↑i : Int)) (AV.int .i64 1) = some (AV.int .i64 (↑(i + (1 : Nat)) : Int)) from inc_i (by omega)) <| .cutQ k146_0 [(0, AV.sl .sh (List.map encA a)), (1, AV.sl .sh (List.map encA b)), (12, AV.int .i64 (↑a.length : Int)), (13, AV.int .i64 (↑(i + (1 : Nat)) : Int))] ({ boxes := [], toks := [], loops := [] : Heap }) (fun T hT => (ih (q) (i + (1 : Nat)) hnx hnq T hT).to (by grind [same2, eqA])))) (by kernel_rfl)
theorem sameVp (a b : List Amount) (hn : a.length < 9223372036854775807) : Gives cfg 146 [.sl .sh (a.map encA), .sl .sh (b.map encA)] (.bool (same2 eqA a b)) := by
  refine Gives.run (l146 _ _) ?_
  by_cases he : a.length = b.length
  · have h := sameVp_loop a b hn he a b 0 rfl rfl
    exact goG 60 []  trivial  (.len (show lenA false (AV.sl .sh (List.map encA a)) = some (AV.int .i64 (↑a.length : Int)) from len_map _) <| .len (show lenA false (AV.sl .sh (List.map encA b)) = some (AV.int .i64 (↑b.length : Int)) from len_map _) <| .no (show ((↑a.length : Int) != (↑b.length : Int)) = false from Bool.eq_false_iff.2 (show ¬ (((↑a.length : Int) != (↑b.length : Int)) = true) from (by simp [he]))) <| .len (show lenA false (AV.sl .sh (List.map encA a)) = some (AV.int .i64 (↑a.length : Int)) from len_map _) <| .cutQ k146_0 [(0, AV.sl .sh (List.map encA a)), (1, AV.sl .sh (List.map encA b)), (12, AV.int .i64 (↑a.length : Int)), (13, AV.int .i64 0)] ({ boxes := [], toks := [], loops := [] : Heap }) (fun T hT => (h T hT))) (by kernel_rfl)
  · rw [same2_len he]
    exact goG 60 []  trivial  (.len (show lenA false (AV.sl .sh (List.map encA a)) = some (AV.int .i64 (↑a.length : Int)) from len_map _) <| .len (show lenA false (AV.sl .sh (List.map encA b)) = some (AV.int .i64 (↑b.length : Int)) from len_map _) <| .yes (show ((↑a.length : Int) != (↑b.length : Int)) = true from (by simp; omega)) <| .fin ((ARes.ret (AV.bool false), { boxes := [], toks := [], loops := [] : Heap })) rfl) (by kernel_rfl)
theorem samePp_loop (a b : List Pair) (hn : a.length < 9223372036854775807) (he : a.length = b.length) : ∀ (post q : List Pair) (i : Nat) (hd : a.drop i = post) (hq : b.drop i = q) (T : Env) (hT : Has T [(0, .sl .sh (a.map encP)), (1, .sl .sh (b.map encP)), (12, .int .i64 a.length), (13, .int .i64 i)]),
    Goes cfg a86 k86_0 T Heap.nil (IsRet (.bool (same2 eqP post q))) := by
  intro post
  induction post with
  | nil =>
    intro q i hd hq T hT
    have hge := drop_ge hd
    have e : q = [] := by rw [← hq]; exact List.drop_eq_nil_of_le (by omega)
    subst e
    exact goG 60 _  hT  (.no (show (decide ((↑i : Int) < (↑a.length : Int))) = false from decide_eq_false (show ¬ ((↑i : Int) < (↑a.length : Int)) from (by omega))) <| .fin ((ARes.ret (AV.bool true), { boxes := [], toks := [], loops := [] : Heap })) rfl) (by kernel_rfl)
  | cons x post ih =>
    intro q i hd hq T hT
    have hlt := drop_lt hd
    have hnx := drop_next hd
    cases q with
    | nil => have := drop_ge hq; omega
    | cons y q =>
      have hnq := drop_next hq
      exact goG 60 _  hT  (.yes (show (decide ((↑i : Int) < (↑a.length : Int))) = true from decide_eq_true (show (↑i : Int) < (↑a.length : Int) from (by omega))) <| .idx (show idxA 2 (AV.sl .sh (List.map encP a)) (AV.int .i64 (↑i : Int)) = some (AV.ref (encP x).cells) from idx_row hd (by rfl)) <| .idx (show idxA 2 (AV.sl .sh (List.map encP b)) (AV.int .i64 (↑i : Int)) = some (AV.ref (encP y).cells) from idx_row hq (by rfl)) <| .split ((if true = true then !(x.key == y.key && (x.val == y.val && true)) else x.key == y.key && (x.val == y.val && true)) = true) (fun h1 => .yes (show (if true = true then !(x.key == y.key && (x.val == y.val && true)) else x.key == y.key && (x.val == y.val && true)) = true from h1) <| .fin ((ARes.ret (AV.bool false), { boxes := [], toks := [], loops := [] : Heap })) (by simp only [IsRet]; grind [same2, eqP])) (fun h1 => .no (show (if true = true then !(x.key == y.key && (x.val == y.val && true)) else x.key == y.key && (x.val == y.val && true)) = false from Bool.eq_false_iff.2 (show ¬ ((if true = true then !(x.key == y.key && (x.val == y.val && true)) else x.key == y.key && (x.val == y.val && true)) = true) from h1)) <| .bin (show binA .add (AV.int .i64 (↑i : Int)) (AV.int .i64 1) = some (AV.int .i64 (↑(i + (1 : Nat)) : Int)) from inc_i (by omega)) <| .cutQ k86_0 [(0, AV.sl .sh (List.map encP a)), (1, AV.sl .sh (List.map encP b)), (12, AV.int .i64 (↑a.length : Int)), (13, AV.int .i64 (↑(i + (1 : Nat)) : Int))] ({ boxes := [], toks := [], loops := [] : Heap }) (fun T hT => (ih (q) (i + (1 : Nat)) hnx hnq T hT).to (by grind [same2, eqP])))) (by kernel_rfl)
theorem samePp (a b : List Pair) (hn : a.length < 9223372036854775807) : Gives cfg 86 [.sl .sh (a.map encP), .sl .sh (b.map encP)] (.bool (same2 eqP a b)) := by
  refine Gives.run (l86 _ _) ?_
  by_cases he : a.length = b.length
  · have h := samePp_loop a b hn he a b 0 rfl rfl
    exact goG 60 []  trivial  (.len (show lenA false (AV.sl .sh (List.map encP a)) = some (AV.int .i64 (↑a.length : Int)) from len_map _) <| .len (show lenA false (AV.sl .sh (List.map encP b)) = some (AV.int .i64 (↑b.length : Int)) from len_map _) <| .no (show ((↑a.length : Int) != (↑b.length : Int)) = false from Bool.eq_false_iff.2 (show ¬ (((↑a.length : Int) != (↑b.length : Int)) = true) from (by simp [he]))) <| .len (show lenA false (AV.sl .sh (List.map encP a)) = some (AV.int .i64 (↑a.length : Int)) from len_map _) <| .cutQ k86_0 [(0, AV.sl .sh (List.map encP a)), (1, AV.sl .sh (List.map encP b)), (12, AV.int .i64 (↑a.length : Int)), (13, AV.int .i64 0)] ({ boxes := [], toks := [], loops := [] : Heap }) (fun T hT => (h T hT))) (by kernel_rfl)
  · rw [same2_len he]
    exact goG 60 []  trivial  (.len (show lenA false (AV.sl .sh (List.map encP a)) = some (AV.int .i64 (↑a.length : Int)) from len_map _) <| .len (show lenA false (AV.sl .sh (List.map encP b)) = some (AV.int .i64 (↑b.length : Int)) from len_map _) <| .yes (show ((↑a.length : Int) != (↑b.length : Int)) = true from (by simp; omega)) <| .fin ((ARes.ret (AV.bool false), { boxes := [], toks := [], loops := [] : Heap })) rfl) (by kernel_rfl)
theorem sameTp_loop (a b : List Taint) (hn : a.length < 9223372036854775807) (he : a.length = b.length) : ∀ (post q : List Taint) (i : Nat) (hd : a.drop i = post) (hq : b.drop i = q) (T : Env) (hT : Has T [(0, .sl .sh (a.map encT)), (1, .sl .sh (b.map encT)), (12, .int .i64 a.length), (13, .int .i64 i)]),
    Goes cfg a87 k87_0 T Heap.nil (IsRet (.bool (same2 eqT post q))) := by
  intro post
  induction post with
  | nil =>
    intro q i hd hq T hT
    have hge := drop_ge hd
    have e : q = [] := by rw [← hq]; exact List.drop_eq_nil_of_le (by omega)
    subst e
    exact goG 60 _  hT  (.no (show (decide ((↑i : Int) < (↑a.length : Int))) = false from decide_eq_false (show ¬ ((↑i : Int) < (↑a.length : Int)) from (by omega))) <| .fin ((ARes.ret (AV.bool true), { boxes := [], toks := [], loops := [] : Heap })) rfl) (by kernel_rfl)
  | cons x post ih =>
    intro q i hd hq T hT
    have hlt := drop_lt hd
    have hnx := drop_next hd
    cases q with
    | nil => have := drop_ge hq; omega
    | cons y q =>
      have hnq := drop_next hq
      exact goG 60 _  hT  (.yes (show (decide ((↑i : Int) < (↑a.length : Int))) = true from decide_eq_true (show (↑i : Int) < (↑a.length : Int) from (by omega))) <| .idx (show idxA 3 (AV.sl .sh (List.map encT a)) (AV.int .i64 (↑i : Int)) = some (AV.ref (encT x).cells) from idx_row hd (by rfl)) <| .idx (show idxA 3 (AV.sl .sh (List.map encT b)) (AV.int .i64 (↑i : Int)) = some (AV.ref (encT y).cells) from idx_row hq (by rfl)) <| .split ((if true = true then !(x.key == y.key && (x.val == y.val && (x.hard == y.hard && true))) else x.key == y.key && (x.val == y.val && (x.hard == y.hard && true))) = true) (fun h1 => .yes (show (if true = true then !(x.key == y.key && (x.val == y.val && (x.hard == y.hard && true))) else x.key == y.key && (x.val == y.val && (x.hard == y.hard && true))) = true from h1) <| .fin ((ARes.ret (AV.bool false), { boxes := [], toks := [], loops := [] : Heap })) (by simp only [IsRet]; grind [same2, eqT])) (fun h1 => .no (show (if true = true then !(x.key == y.key && (x.val == y.val && (x.hard == y.hard && true))) else x.key == y.key && (x.val == y.val && (x.hard == y.hard && true))) = false from Bool.eq_false_iff.2 (show ¬ ((if true = true then !(x.key == y.key && (x.val == y.val && (x.hard == y.hard && true))) else x.key == y.key && (x.val == y.val && (x.hard == y.hard && true))) = true) from h1)) <| .bin (show binA .add (AV.int .i64 (↑i : Int)) (AV.int .i64 1) = some (AV.int .i64 (↑(i + (1 : Nat)) : Int)) from inc_i (by omega)) <| .cutQ k87_0 [(0, AV.sl .sh (List.map encT a)), (1, AV.sl .sh (List.map encT b)), (12, AV.int .i64 (↑a.length : Int)), (13, AV.int .i64 (↑(i + (1 : Nat)) : Int))] ({ boxes := [], toks := [], loops := [] : Heap }) (fun T hT => (ih (q) (i + (1 : Nat)) hnx hnq T hT).to (by grind [same2, eqT])))) (by kernel_rfl)
theorem sameTp (a b : List Taint) (hn : a.length < 9223372036854775807) : Gives cfg 87 [.sl .sh (a.map encT), .sl .sh (b.map encT)] (.bool (same2 eqT a b)) := by
  refine Gives.run (l87 _ _) ?_
  by_cases he : a.length = b.length
  · have h := sameTp_loop a b hn he a b 0 rfl rfl
    exact goG 60 []  trivial  (.len (show lenA false (AV.sl .sh (List.map encT a)) = some (AV.int .i64 (↑a.length : Int)) from len_map _) <| .len (show lenA false (AV.sl .sh (List.map encT b)) = some (AV.int .i64 (↑b.length : Int)) from len_map _) <| .no (show ((↑a.length : Int) != (↑b.length : Int)) = false from Bool.eq_false_iff.2 (show ¬ (((↑a.length : Int) != (↑b.length : Int)) = true) from (by simp [he]))) <| .len (show lenA false (AV.sl .sh (List.map encT a)) = some (AV.int .i64 (↑a.length : Int)) from len_map _) <| .cutQ k87_0 [(0, AV.sl .sh (List.map encT a)), (1, AV.sl .sh (List.map encT b)), (12, AV.int .i64 (↑a.length : Int)), (13, AV.int .i64 0)] ({ boxes := [], toks := [], loops := [] : Heap }) (fun T hT => (h T hT))) (by kernel_rfl)
  · rw [same2_len he]
    exact goG 60 []  trivial  (.len (show lenA false (AV.sl .sh (List.map encT a)) = some (AV.int .i64 (↑a.length : Int)) from len_map _) <| .len (show lenA false (AV.sl .sh (List.map encT b)) = some (AV.int .i64 (↑b.length : Int)) from len_map _) <| .yes (show ((↑a.length : Int) != (↑b.length : Int)) = true from (by simp; omega)) <| .fin ((ARes.ret (AV.bool false), { boxes := [], toks := [], loops := [] : Heap })) rfl) (by kernel_rfl)
theorem sameV (a b : List Amount) (hn : a.length < 9223372036854775807) : Gives cfg 85 [.sl .sh (a.map encA), .sl .sh (b.map encA)] (.bool (same2 eqA a b)) := by
  refine Gives.run (l85 _ _) ?_
  have h := sameVp a b hn
  exact goG 60 []  trivial  (.callG ([AV.sl .sh (List.map encA a), AV.sl .sh (List.map encA b)]) (AV.bool (same2 eqA a b)) (show Gives cfg (146 : FuncId) [AV.sl .sh (List.map encA a), AV.sl .sh (List.map encA b)] (AV.bool (same2 eqA a b)) from h) ⟨rfl, rfl⟩ ⟨rfl, rfl⟩ <| .fin ((ARes.ret (AV.bool (same2 eqA a b)), { boxes := [], toks := [], loops := [] : Heap })) rfl) (by kernel_rfl)
end Go.Aa.T

set_option linter.unusedVariables false
set_option linter.unusedSimpArgs false
set_option maxRecDepth 100000
namespace Go.Aa.T
open Go.Aa Go.Proofs
def short1 (x : Amount) : Bool := decide (x.name.length ≤ 50)
def fewA (l : List Amount) : Bool := decide (l.length ≤ 20) && l.all short1
theorem fewA_len {l : List Amount} (h : fewA l = true) : l.length ≤ 20 := by
  simp only [fewA, Bool.and_eq_true, decide_eq_true_eq] at h; exact h.1
theorem fewA_loop (l : List Amount) (hn : l.length ≤ 20) : ∀ (post : List Amount) (i : Nat) (hd : l.drop i = post) (T : Env) (hT : Has T [(0, .sl .sh (l.map encA)), (3, .int .i64 i)]),
    Goes cfg a59 k59_0 T Heap.nil (IsRet (.bool (post.all short1))) := by
  intro post
  induction post with
  | nil =>
    intro i hd T hT
    have hge := drop_ge hd
    exact goG 60 _  hT  (.len (show lenA false (AV.sl .sh (List.map encA l)) = some (AV.int .i64 (↑l.length : Int)) from len_map _) <| .no (show (decide ((↑i : Int) < (↑l.length : Int))) = false from decide_eq_false (show ¬ ((↑i : Int) < (↑l.length : Int)) from (by omega))) <| .fin ((ARes.ret (AV.bool true), { boxes := [], toks := [], loops := [] : Heap })) rfl) (by kernel_rfl)
  | cons x post ih =>
    intro i hd T hT
    have hlt := drop_lt hd
    have hnx := drop_next hd
    exact goG 60 _  hT  (.len (show lenA false (AV.sl .sh (List.map encA l)) = some (AV.int .i64 (↑l.length : Int)) from len_map _) <| .yes (show (decide ((↑i : Int) < (↑l.length : Int))) = true from decide_eq_true (show (↑i : Int) < (↑l.length : Int) from (by omega))) <| .idx (show idxA 2 (AV.sl .sh (List.map encA l)) (AV.int .i64 (↑i : Int)) = some (AV.ref (encA x).cells) from idx_row hd (by rfl)) <| .len (show lenA true (AV.str x.name) = some (AV.int .i64 (↑x.name.length : Int)) from len_str _) <| .split ((50 : Int) < (↑x.name.length : Int)) (fun h1 => .yes (show (decide ((50 : Int) < (↑x.name.length : Int))) = true from decide_eq_true (show (50 : Int) < (↑x.name.length : Int) from h1)) <| .fin ((ARes.ret (AV.bool false), { boxes := [], toks := [], loops := [] : Heap })) (by simp only [IsRet]; grind [short1])) (fun h1 => .no (show (decide ((50 : Int) < (↑x.name.length : Int))) = false from decide_eq_false (show ¬ ((50 : Int) < (↑x.name.length : Int)) from h1)) <| .bin (show binA .add (AV.int .i64 (↑i : Int)) (AV.int .i64 1) = some (AV.int .i64 (↑(i + (1 : Nat)) : Int)) from inc_i (by omega)) <| .cutQ k59_0 [(0, AV.sl .sh (List.map encA l)), (3, AV.int .i64 (↑(i + (1 : Nat)) : Int))] ({ boxes := [], toks := [], loops := [] : Heap }) (fun T hT => (ih (i + (1 : Nat)) hnx T hT).to (by grind [short1])))) (by kernel_rfl)
theorem fewA_any (l : List Amount) : Gives cfg 59 [.sl .sh (l.map encA)] (.bool (fewA l)) := by
  refine Gives.run (l59 _ _) ?_
  have h := fun hn => fewA_loop l hn l 0 rfl
  exact goG 60 []  trivial  (.len (show lenA false (AV.sl .sh (List.map encA l)) = some (AV.int .i64 (↑l.length : Int)) from len_map _) <| .split ((20 : Int) < (↑l.length : Int)) (fun h1 => .yes (show (decide ((20 : Int) < (↑l.length : Int))) = true from decide_eq_true (show (20 : Int) < (↑l.length : Int) from h1)) <| .fin ((ARes.ret (AV.bool false), { boxes := [], toks := [], loops := [] : Heap })) (by simp only [IsRet]; grind [fewA])) (fun h1 => .no (show (decide ((20 : Int) < (↑l.length : Int))) = false from decide_eq_false (show ¬ ((20 : Int) < (↑l.length : Int)) from h1)) <| .cutQ k59_0 [(0, AV.sl .sh (List.map encA l)), (3, AV.int .i64 0)] ({ boxes := [], toks := [], loops := [] : Heap }) (fun T hT => (h (by omega) T hT).to (by grind [fewA])))) (by kernel_rfl)
theorem ofA_loop (l : List Amount) (hn : l.length ≤ 20) : ∀ (post : List Amount) (i : Nat) (acc : List AV) (hd : l.drop i = post) (ha : acc.length = i) (hl : lenOk 2 acc = true) (T : Env) (hT : Has T [(0, .sl .sh (l.map encA)), (3, rowS Heap.nil acc), (4, .int .i64 i)]),
    Goes cfg a73 k73_0 T (rowH Heap.nil acc) (IsRet (rowS Heap.nil (acc ++ post.map encA))) := by
  intro post
  induction post with
  | nil =>
    intro i acc hd ha hl T hT
    have hge := drop_ge hd
    exact goG 60 _  hT  (.len (show lenA false (AV.sl .sh (List.map encA l)) = some (AV.int .i64 (↑l.length : Int)) from len_map _) <| .no (show (decide ((↑i : Int) < (↑l.length : Int))) = false from decide_eq_false (show ¬ ((↑i : Int) < (↑l.length : Int)) from (by omega))) <| .fin ((ARes.ret (setD (setD (setD (setD (setD (setD (updL T [((0 : Nat), AV.sl .sh (List.map encA l)), ((3 : Nat), rowS Heap.nil acc), ((4 : Nat), AV.int .i64 (↑i : Int))]) { dst := some (5 : Nat), op := AOp.mov (Opd.t (4 : Nat)), guard := none, deps := [] : AOper }.dst (ev (updL T [((0 : Nat), AV.sl .sh (List.map encA l)), ((3 : Nat), rowS Heap.nil acc), ((4 : Nat), AV.int .i64 (↑i : Int))]) (Opd.t (4 : Nat)))) { dst := some (6 : Nat), op := AOp.mov (Opd.t (0 : Nat)), guard := none, deps := [] : AOper }.dst (ev (setD (updL T [((0 : Nat), AV.sl .sh (List.map encA l)), ((3 : Nat), rowS Heap.nil acc), ((4 : Nat), AV.int .i64 (↑i : Int))]) { dst := some (5 : Nat), op := AOp.mov (Opd.t (4 : Nat)), guard := none, deps := [] : AOper }.dst (ev (updL T [((0 : Nat), AV.sl .sh (List.map encA l)), ((3 : Nat), rowS Heap.nil acc), ((4 : Nat), AV.int .i64 (↑i : Int))]) (Opd.t (4 : Nat)))) (Opd.t (0 : Nat)))) { dst := some (7 : Nat), op := AOp.len false (Opd.t (6 : Nat)), guard := none, deps := [] : AOper }.dst (AV.int .i64 (↑l.length : Int))) { dst := some (8 : Nat), op := AOp.bin BinOp.lss (Opd.t (5 : Nat)) (Opd.t (7 : Nat)), guard := none, deps := [] : AOper }.dst (AV.bool (decide ((↑i : Int) < (↑l.length : Int))))) { dst := some (25 : Nat), op := AOp.mov (Opd.t (3 : Nat)), guard := none, deps := [] : AOper }.dst (ev (setD (setD (setD (setD (updL T [((0 : Nat), AV.sl .sh (List.map encA l)), ((3 : Nat), rowS Heap.nil acc), ((4 : Nat), AV.int .i64 (↑i : Int))]) { dst := some (5 : Nat), op := AOp.mov (Opd.t (4 : Nat)), guard := none, deps := [] : AOper }.dst (ev (updL T [((0 : Nat), AV.sl .sh (List.map encA l)), ((3 : Nat), rowS Heap.nil acc), ((4 : Nat), AV.int .i64 (↑i : Int))]) (Opd.t (4 : Nat)))) { dst := some (6 : Nat), op := AOp.mov (Opd.t (0 : Nat)), guard := none, deps := [] : AOper }.dst (ev (setD (updL T [((0 : Nat), AV.sl .sh (List.map encA l)), ((3 : Nat), rowS Heap.nil acc), ((4 : Nat), AV.int .i64 (↑i : Int))]) { dst := some (5 : Nat), op := AOp.mov (Opd.t (4 : Nat)), guard := none, deps := [] : AOper }.dst (ev (updL T [((0 : Nat), AV.sl .sh (List.map encA l)), ((3 : Nat), rowS Heap.nil acc), ((4 : Nat), AV.int .i64 (↑i : Int))]) (Opd.t (4 : Nat)))) (Opd.t (0 : Nat)))) { dst := some (7 : Nat), op := AOp.len false (Opd.t (6 : Nat)), guard := none, deps := [] : AOper }.dst (AV.int .i64 (↑l.length : Int))) { dst := some (8 : Nat), op := AOp.bin BinOp.lss (Opd.t (5 : Nat)) (Opd.t (7 : Nat)), guard := none, deps := [] : AOper }.dst (AV.bool (decide ((↑i : Int) < (↑l.length : Int))))) (Opd.t (3 : Nat)))) { dst := some (2 : Nat), op := AOp.mov (Opd.t (25 : Nat)), guard := none, deps := [] : AOper }.dst (ev (setD (setD (setD (setD (setD (updL T [((0 : Nat), AV.sl .sh (List.map encA l)), ((3 : Nat), rowS Heap.nil acc), ((4 : Nat), AV.int .i64 (↑i : Int))]) { dst := some (5 : Nat), op := AOp.mov (Opd.t (4 : Nat)), guard := none, deps := [] : AOper }.dst (ev (updL T [((0 : Nat), AV.sl .sh (List.map encA l)), ((3 : Nat), rowS Heap.nil acc), ((4 : Nat), AV.int .i64 (↑i : Int))]) (Opd.t (4 : Nat)))) { dst := some (6 : Nat), op := AOp.mov (Opd.t (0 : Nat)), guard := none, deps := [] : AOper }.dst (ev (setD (updL T [((0 : Nat), AV.sl .sh (List.map encA l)), ((3 : Nat), rowS Heap.nil acc), ((4 : Nat), AV.int .i64 (↑i : Int))]) { dst := some (5 : Nat), op := AOp.mov (Opd.t (4 : Nat)), guard := none, deps := [] : AOper }.dst (ev (updL T [((0 : Nat), AV.sl .sh (List.map encA l)), ((3 : Nat), rowS Heap.nil acc), ((4 : Nat), AV.int .i64 (↑i : Int))]) (Opd.t (4 : Nat)))) (Opd.t (0 : Nat)))) { dst := some (7 : Nat), op := AOp.len false (Opd.t (6 : Nat)), guard := none, deps := [] : AOper }.dst (AV.int .i64 (↑l.length : Int))) { dst := some (8 : Nat), op := AOp.bin BinOp.lss (Opd.t (5 : Nat)) (Opd.t (7 : Nat)), guard := none, deps := [] : AOper }.dst (AV.bool (decide ((↑i : Int) < (↑l.length : Int))))) { dst := some (25 : Nat), op := AOp.mov (Opd.t (3 : Nat)), guard := none, deps := [] : AOper }.dst (ev (setD (setD (setD (setD (updL T [((0 : Nat), AV.sl .sh (List.map encA l)), ((3 : Nat), rowS Heap.nil acc), ((4 : Nat), AV.int .i64 (↑i : Int))]) { dst := some (5 : Nat), op := AOp.mov (Opd.t (4 : Nat)), guard := none, deps := [] : AOper }.dst (ev (updL T [((0 : Nat), AV.sl .sh (List.map encA l)), ((3 : Nat), rowS Heap.nil acc), ((4 : Nat), AV.int .i64 (↑i : Int))]) (Opd.t (4 : Nat)))) { dst := some (6 : Nat), op := AOp.mov (Opd.t (0 : Nat)), guard := none, deps := [] : AOper }.dst (ev (setD (updL T [((0 : Nat), AV.sl .sh (List.map encA l)), ((3 : Nat), rowS Heap.nil acc), ((4 : Nat), AV.int .i64 (↑i : Int))]) { dst := some (5 : Nat), op := AOp.mov (Opd.t (4 : Nat)), guard := none, deps := [] : AOper }.dst (ev (updL T [((0 : Nat), AV.sl .sh (List.map encA l)), ((3 : Nat), rowS Heap.nil acc), ((4 : Nat), AV.int .i64 (↑i : Int))]) (Opd.t (4 : Nat)))) (Opd.t (0 : Nat)))) { dst := some (7 : Nat), op := AOp.len false (Opd.t (6 : Nat)), guard := none, deps := [] : AOper }.dst (AV.int .i64 (↑l.length : Int))) { dst := some (8 : Nat), op := AOp.bin BinOp.lss (Opd.t (5 : Nat)) (Opd.t (7 : Nat)), guard := none, deps := [] : AOper }.dst (AV.bool (decide ((↑i : Int) < (↑l.length : Int))))) (Opd.t (3 : Nat)))) (Opd.t (25 : Nat))) (2 : Nat)), rowH Heap.nil acc)) (by simp only [IsRet, List.map_nil, List.append_nil]; rfl)) (by kernel_rfl)
  | cons x post ih =>
    intro i acc hd ha hl T hT
    have hlt := drop_lt hd
    have hnx := drop_next hd
    exact goG 60 _  hT  (.len (show lenA false (AV.sl .sh (List.map encA l)) = some (AV.int .i64 (↑l.length : Int)) from len_map _) <| .yes (show (decide ((↑i : Int) < (↑l.length : Int))) = true from decide_eq_true (show (↑i : Int) < (↑l.length : Int) from (by simp; omega))) <| .idx (show idxA 2 (AV.sl .sh (List.map encA l)) (AV.int .i64 (↑i : Int)) = some (AV.ref (encA x).cells) from idx_row hd (by rfl)) <| .load (show loadA false 1 (rowH Heap.nil acc) (AV.ref [AV.str x.name]) = some (AV.str x.name) from rfl) <| .idx (show idxA 2 (AV.sl .sh (List.map encA l)) (AV.int .i64 (↑i : Int)) = some (AV.ref (encA x).cells) from idx_row hd (by rfl)) <| .load (show loadA false 1 (rowH Heap.nil acc) (AV.ref [AV.int .i64 x.n]) = some (AV.int .i64 x.n) from rfl) <| .append (show appendA (2 : Nat) (24 : Nat) (rowH Heap.nil acc) (rowS Heap.nil acc) (AV.sl .full [AV.agg [AV.str x.name, AV.int .i64 x.n]]) = some ((rowS Heap.nil (acc ++ [AV.agg [AV.str x.name, AV.int .i64 x.n]]), rowH Heap.nil (acc ++ [AV.agg [AV.str x.name, AV.int .i64 x.n]]))) from row_append (by omega) hl (by rfl) (by rfl)) <| .bin (show binA .add (AV.int .i64 (↑i : Int)) (AV.int .i64 1) = some (AV.int .i64 (↑(i + (1 : Nat)) : Int)) from inc_i (by omega)) <| .cutQ k73_0 [(0, AV.sl .sh (List.map encA l)), (3, rowS Heap.nil (acc ++ [AV.agg [AV.str x.name, AV.int .i64 x.n]])), (4, AV.int .i64 (↑(i + (1 : Nat)) : Int))] (rowH Heap.nil (acc ++ [AV.agg [AV.str x.name, AV.int .i64 x.n]])) (fun T hT => (ih (i + (1 : Nat)) (acc ++ [AV.agg [AV.str x.name, AV.int .i64 x.n]]) hnx (by simp; omega) (by exact lenOk_snoc (by assumption) rfl) T hT).to (by simp [encA]))) (by kernel_rfl)
theorem ofA_any (l : List Amount) (hn : l.length ≤ 20) : Gives cfg 73 [.sl .sh (l.map encA)] (rowS Heap.nil (l.map encA)) := by
  refine Gives.run (l73 _ _) ?_
  have h := ofA_loop l hn l 0 [] rfl rfl rfl
  exact goG 60 []  trivial  (.cutQ k73_0 [(0, AV.sl .sh (List.map encA l)), (3, AV.sl .full []), (4, AV.int .i64 0)] ({ boxes := [], toks := [], loops := [] : Heap }) (fun T hT => (h T hT))) (by kernel_rfl)

instance (n : Node) : Dat (encN n) := ⟨rfl, rfl⟩
def fewN (n : Node) : Bool := decide (n.name.length ≤ 50) && (fewA n.cap && (fewP n.labels && fewT n.taints))
theorem fewN_any (n : Node) : Gives cfg 31 [encN n] (.bool (fewN n)) := by
  refine Gives.run (l31 _ _) ?_
  exact goG 80 []  trivial  (.len (show lenA true (AV.str n.name) = some (AV.int .i64 (↑n.name.length : Int)) from len_str _) <| .split ((↑n.name.length : Int) ≤ (50 : Int)) (fun h1 => .yes (show (decide ((↑n.name.length : Int) ≤ (50 : Int))) = true from decide_eq_true (show (↑n.name.length : Int) ≤ (50 : Int) from h1)) <| .callG ([AV.sl .sh (List.map encA n.cap)]) (AV.bool (fewA n.cap)) (show Gives cfg (59 : FuncId) [AV.sl .sh (List.map encA n.cap)] (AV.bool (fewA n.cap)) from fewA_any _) ⟨rfl, rfl⟩ ⟨rfl, rfl⟩ <| .split (fewA n.cap = true) (fun h2 => .yes (show (fewA n.cap) = true from h2) <| .callG ([AV.sl .sh (List.map encP n.labels)]) (AV.bool (fewP n.labels)) (show Gives cfg (60 : FuncId) [AV.sl .sh (List.map encP n.labels)] (AV.bool (fewP n.labels)) from fewP_any _) ⟨rfl, rfl⟩ ⟨rfl, rfl⟩ <| .split (fewP n.labels = true) (fun h3 => .yes (show (fewP n.labels) = true from h3) <| .callG ([AV.sl .sh (List.map encT n.taints)]) (AV.bool (fewT n.taints)) (show Gives cfg (72 : FuncId) [AV.sl .sh (List.map encT n.taints)] (AV.bool (fewT n.taints)) from fewT_any _) ⟨rfl, rfl⟩ ⟨rfl, rfl⟩ <| .fin ((ARes.ret (AV.bool (fewT n.taints)), { boxes := [[AV.str n.name, AV.sl .sh (List.map encA n.cap), AV.sl .sh (List.map encP n.labels), AV.sl .sh (List.map encT n.taints), AV.bool n.cordon]], toks := [], loops := [] : Heap })) (by simp only [IsRet]; grind [fewN])) (fun h3 => .no (show (fewP n.labels) = false from Bool.eq_false_iff.2 (show ¬ (fewP n.labels = true) from h3)) <| .fin ((ARes.ret (AV.bool false), { boxes := [[AV.str n.name, AV.sl .sh (List.map encA n.cap), AV.sl .sh (List.map encP n.labels), AV.sl .sh (List.map encT n.taints), AV.bool n.cordon]], toks := [], loops := [] : Heap })) (by simp only [IsRet]; grind [fewN]))) (fun h2 => .no (show (fewA n.cap) = false from Bool.eq_false_iff.2 (show ¬ (fewA n.cap = true) from h2)) <| .ff <| .fin ((ARes.ret (AV.bool false), { boxes := [[AV.str n.name, AV.sl .sh (List.map encA n.cap), AV.sl .sh (List.map encP n.labels), AV.sl .sh (List.map encT n.taints), AV.bool n.cordon]], toks := [], loops := [] : Heap })) (by simp only [IsRet]; grind [fewN]))) (fun h1 => .no (show (decide ((↑n.name.length : Int) ≤ (50 : Int))) = false from decide_eq_false (show ¬ ((↑n.name.length : Int) ≤ (50 : Int)) from h1)) <| .ff <| .ff <| .fin ((ARes.ret (AV.bool false), { boxes := [[AV.str n.name, AV.sl .sh (List.map encA n.cap), AV.sl .sh (List.map encP n.labels), AV.sl .sh (List.map encT n.taints), AV.bool n.cordon]], toks := [], loops := [] : Heap })) (by simp only [IsRet]; grind [fewN]))) (by kernel_rfl)
structure FewNd (n : Node) : Prop where
  cap : n.cap.length ≤ 20
  labels : n.labels.length ≤ 20
  taints : n.taints.length ≤ 20
theorem ofN1 (n : Node) (m1 : n.cap.length ≤ 20) (m2 : n.labels.length ≤ 20) (m3 : n.taints.length ≤ 20) : Gives cfg 32 [encN n] (encN n) := by
  refine Gives.run (l32 _ _) ?_
  exact goG 80 []  trivial  (.callG ([AV.sl .sh (List.map encA n.cap)]) (AV.sl .sh (List.map encA n.cap)) (show Gives cfg (73 : FuncId) [AV.sl .sh (List.map encA n.cap)] (rowS Heap.nil (List.map encA n.cap)) from ofA_any _ m1) ⟨rfl, rfl⟩ Res.p <| .callG ([AV.sl .sh (List.map encP n.labels)]) (AV.sl .sh (List.map encP n.labels)) (show Gives cfg (74 : FuncId) [AV.sl .sh (List.map encP n.labels)] (rowS Heap.nil (List.map encP n.labels)) from ofP_any _ m2) ⟨rfl, rfl⟩ Res.p <| .callG ([AV.sl .sh (List.map encT n.taints)]) (AV.sl .sh (List.map encT n.taints)) (show Gives cfg (75 : FuncId) [AV.sl .sh (List.map encT n.taints)] (rowS Heap.nil (List.map encT n.taints)) from ofT_any _ m3) ⟨rfl, rfl⟩ Res.p <| .fin ((ARes.ret (AV.agg [AV.str n.name, AV.sl .sh (List.map encA n.cap), AV.sl .sh (List.map encP n.labels), AV.sl .sh (List.map encT n.taints), AV.bool n.cordon]), { boxes := [[AV.str n.name, AV.sl .sh (List.map encA n.cap), AV.sl .sh (List.map encP n.labels), AV.sl .sh (List.map encT n.taints), AV.bool n.cordon], [AV.str n.name, AV.sl .sh (List.map encA n.cap), AV.sl .sh (List.map encP n.labels), AV.sl .sh (List.map encT n.taints), AV.bool n.cordon]], toks := [], loops := [] : Heap })) rfl) (by kernel_rfl)
theorem ckN_ref (n : Node) : Gives cfg 33 [encN n] (.int .i64 (ckN n)) := by
  refine Gives.run (l33 _ _) ?_
  exact goG 80 []  trivial  (.callG ([AV.str n.name]) (AV.bool (isName n.name)) (show Gives cfg (76 : FuncId) [AV.str n.name] (AV.bool (isName n.name)) from name_any _) ⟨rfl, rfl⟩ ⟨rfl, rfl⟩ <| .split (isName n.name = true) (fun h1 => .no (show (!isName n.name) = false from by have hh : isName n.name = true := h1; simp [hh]) <| .callG ([AV.sl .sh (List.map encA n.cap)]) (AV.int .i64 (ckV n.cap)) (show Gives cfg (77 : FuncId) [AV.sl .sh (List.map encA n.cap)] (AV.int .i64 (ckV n.cap)) from ckV_ref _) ⟨rfl, rfl⟩ ⟨rfl, rfl⟩ <| .split ((ckV n.cap != (0 : Int)) = true) (fun h2 => .yes (show (ckV n.cap != (0 : Int)) = true from h2) <| .fin ((ARes.ret (AV.int .i64 (ckV n.cap)), { boxes := [[AV.str n.name, AV.sl .sh (List.map encA n.cap), AV.sl .sh (List.map encP n.labels), AV.sl .sh (List.map encT n.taints), AV.bool n.cordon]], toks := [], loops := [] : Heap })) (by simp only [IsRet]; grind [ckN, firstE])) (fun h2 => .no (show (ckV n.cap != (0 : Int)) = false from Bool.eq_false_iff.2 (show ¬ ((ckV n.cap != (0 : Int)) = true) from h2)) <| .callG ([AV.sl .sh (List.map encP n.labels)]) (AV.int .i64 (ckS n.labels)) (show Gives cfg (78 : FuncId) [AV.sl .sh (List.map encP n.labels)] (AV.int .i64 (ckS n.labels)) from ckS_ref _) ⟨rfl, rfl⟩ ⟨rfl, rfl⟩ <| .split ((ckS n.labels != (0 : Int)) = true) (fun h3 => .yes (show (ckS n.labels != (0 : Int)) = true from h3) <| .fin ((ARes.ret (AV.int .i64 (ckS n.labels)), { boxes := [[AV.str n.name, AV.sl .sh (List.map encA n.cap), AV.sl .sh (List.map encP n.labels), AV.sl .sh (List.map encT n.taints), AV.bool n.cordon]], toks := [], loops := [] : Heap })) (by simp only [IsRet]; grind [ckN, firstE])) (fun h3 => .no (show (ckS n.labels != (0 : Int)) = false from Bool.eq_false_iff.2 (show ¬ ((ckS n.labels != (0 : Int)) = true) from h3)) <| .callG ([AV.sl .sh (List.map encT n.taints)]) (AV.int .i64 (ckT n.taints)) (show Gives cfg (79 : FuncId) [AV.sl .sh (List.map encT n.taints)] (AV.int .i64 (ckT n.taints)) from ckT_any _) ⟨rfl, rfl⟩ ⟨rfl, rfl⟩ <| .fin ((ARes.ret (AV.int .i64 (ckT n.taints)), { boxes := [[AV.str n.name, AV.sl .sh (List.map encA n.cap), AV.sl .sh (List.map encP n.labels), AV.sl .sh (List.map encT n.taints), AV.bool n.cordon]], toks := [], loops := [] : Heap })) (by simp only [IsRet]; grind [ckN, firstE])))) (fun h1 => .yes (show (!isName n.name) = true from by have hh : ¬ (isName n.name = true) := h1; simp [hh]) <| .fin ((ARes.ret (AV.int .i64 3), { boxes := [[AV.str n.name, AV.sl .sh (List.map encA n.cap), AV.sl .sh (List.map encP n.labels), AV.sl .sh (List.map encT n.taints), AV.bool n.cordon]], toks := [], loops := [] : Heap })) (by simp only [IsRet]; grind [ckN, firstE]))) (by kernel_rfl)

def noN : Node := ⟨[], [], [], [], false⟩
def sameNB (a b : Node) : Bool := a.name == b.name && (a.cordon == b.cordon && (same2 eqA a.cap b.cap && (same2 eqP a.labels b.labels && same2 eqT a.taints b.taints)))
theorem sameN_ref (a b : Node) (m1 : a.cap.length < 9223372036854775807) (m2 : a.labels.length < 9223372036854775807) (m3 : a.taints.length < 9223372036854775807) : Gives cfg 36 [encN a, encN b] (.bool (sameNB a b)) := by
  refine Gives.run (l36 _ _) ?_
  exact goG 90 []  trivial  (.split ((a.name == b.name) = true) (fun h1 => .yes (show (a.name == b.name) = true from h1) <| .split ((if false = true then !a.cordon == b.cordon else a.cordon == b.cordon) = true) (fun h2 => .yes (show (if false = true then !a.cordon == b.cordon else a.cordon == b.cordon) = true from h2) <| .callG ([AV.sl .sh (List.map encA a.cap), AV.sl .sh (List.map encA b.cap)]) (AV.bool (same2 eqA a.cap b.cap)) (show Gives cfg (88 : FuncId) [AV.sl .sh (List.map encA a.cap), AV.sl .sh (List.map encA b.cap)] (AV.bool (same2 eqA a.cap b.cap)) from sameVR _ _ m1) ⟨rfl, rfl⟩ ⟨rfl, rfl⟩ <| .split (same2 eqA a.cap b.cap = true) (fun h3 => .yes (show (same2 eqA a.cap b.cap) = true from h3) <| .callG ([AV.sl .sh (List.map encP a.labels), AV.sl .sh (List.map encP b.labels)]) (AV.bool (same2 eqP a.labels b.labels)) (show Gives cfg (89 : FuncId) [AV.sl .sh (List.map encP a.labels), AV.sl .sh (List.map encP b.labels)] (AV.bool (same2 eqP a.labels b.labels)) from samePR _ _ m2) ⟨rfl, rfl⟩ ⟨rfl, rfl⟩ <| .split (same2 eqP a.labels b.labels = true) (fun h4 => .yes (show (same2 eqP a.labels b.labels) = true from h4) <| .callG ([AV.sl .sh (List.map encT a.taints), AV.sl .sh (List.map encT b.taints)]) (AV.bool (same2 eqT a.taints b.taints)) (show Gives cfg (90 : FuncId) [AV.sl .sh (List.map encT a.taints), AV.sl .sh (List.map encT b.taints)] (AV.bool (same2 eqT a.taints b.taints)) from sameTR _ _ m3) ⟨rfl, rfl⟩ ⟨rfl, rfl⟩ <| .fin ((ARes.ret (AV.bool (same2 eqT a.taints b.taints)), { boxes := [[AV.str a.name, AV.sl .sh (List.map encA a.cap), AV.sl .sh (List.map encP a.labels), AV.sl .sh (List.map encT a.taints), AV.bool a.cordon], [AV.str b.name, AV.sl .sh (List.map encA b.cap), AV.sl .sh (List.map encP b.labels), AV.sl .sh (List.map encT b.taints), AV.bool b.cordon]], toks := [], loops := [] : Heap })) (by simp only [IsRet]; grind [sameNB])) (fun h4 => .no (show (same2 eqP a.labels b.labels) = false from Bool.eq_false_iff.2 (show ¬ (same2 eqP a.labels b.labels = true) from h4)) <| .fin ((ARes.ret (AV.bool false), { boxes := [[AV.str a.name, AV.sl .sh (List.map encA a.cap), AV.sl .sh (List.map encP a.labels), AV.sl .sh (List.map encT a.taints), AV.bool a.cordon], [AV.str b.name, AV.sl .sh (List.map encA b.cap), AV.sl .sh (List.map encP b.labels), AV.sl .sh (List.map encT b.taints), AV.bool b.cordon]], toks := [], loops := [] : Heap })) (by simp only [IsRet]; grind [sameNB]))) (fun h3 => .no (show (same2 eqA a.cap b.cap) = false from Bool.eq_false_iff.2 (show ¬ (same2 eqA a.cap b.cap = true) from h3)) <| .ff <| .fin ((ARes.ret (AV.bool false), { boxes := [[AV.str a.name, AV.sl .sh (List.map encA a.cap), AV.sl .sh (List.map encP a.labels), AV.sl .sh (List.map encT a.taints), AV.bool a.cordon], [AV.str b.name, AV.sl .sh (List.map encA b.cap), AV.sl .sh (List.map encP b.labels), AV.sl .sh (List.map encT b.taints), AV.bool b.cordon]], toks := [], loops := [] : Heap })) (by simp only [IsRet]; grind [sameNB]))) (fun h2 => .no (show (if false = true then !a.cordon == b.cordon else a.cordon == b.cordon) = false from Bool.eq_false_iff.2 (show ¬ ((if false = true then !a.cordon == b.cordon else a.cordon == b.cordon) = true) from h2)) <| .ff <| .ff <| .fin ((ARes.ret (AV.bool false), { boxes := [[AV.str a.name, AV.sl .sh (List.map encA a.cap), AV.sl .sh (List.map encP a.labels), AV.sl .sh (List.map encT a.taints), AV.bool a.cordon], [AV.str b.name, AV.sl .sh (List.map encA b.cap), AV.sl .sh (List.map encP b.labels), AV.sl .sh (List.map encT b.taints), AV.bool b.cordon]], toks := [], loops := [] : Heap })) (by simp only [IsRet]; grind [sameNB]))) (fun h1 => .no (show (a.name == b.name) = false from Bool.eq_false_iff.2 (show ¬ ((a.name == b.name) = true) from h1)) <| .ff <| .ff <| .ff <| .fin ((ARes.ret (AV.bool false), { boxes := [[AV.str a.name, AV.sl .sh (List.map encA a.cap), AV.sl .sh (List.map encP a.labels), AV.sl .sh (List.map encT a.taints), AV.bool a.cordon], [AV.str b.name, AV.sl .sh (List.map encA b.cap), AV.sl .sh (List.map encP b.labels), AV.sl .sh (List.map encT b.taints), AV.bool b.cordon]], toks := [], loops := [] : Heap })) (by simp only [IsRet]; grind [sameNB]))) (by kernel_rfl)
theorem sameN_any (a b : Node) (m1 : a.cap.length < 9223372036854775807) (m2 : a.labels.length < 9223372036854775807) (m3 : a.taints.length < 9223372036854775807) : Gives cfg 35 [encN a, encN b] (.bool (sameNB a b)) := by
  refine Gives.run (l35 _ _) ?_
  exact goG 90 []  trivial  (.split ((a.name == b.name) = true) (fun h1 => .yes (show (a.name == b.name) = true from h1) <| .split ((if false = true then !a.cordon == b.cordon else a.cordon == b.cordon) = true) (fun h2 => .yes (show (if false = true then !a.cordon == b.cordon else a.cordon == b.cordon) = true from h2) <| .callG ([AV.sl .sh (List.map encA a.cap), AV.sl .sh (List.map encA b.cap)]) (AV.bool (same2 eqA a.cap b.cap)) (show Gives cfg (85 : FuncId) [AV.sl .sh (List.map encA a.cap), AV.sl .sh (List.map encA b.cap)] (AV.bool (same2 eqA a.cap b.cap)) from sameV _ _ m1) ⟨rfl, rfl⟩ ⟨rfl, rfl⟩ <| .split (same2 eqA a.cap b.cap = true) (fun h3 => .yes (show (same2 eqA a.cap b.cap) = true from h3) <| .callG ([AV.sl .sh (List.map encP a.labels), AV.sl .sh (List.map encP b.labels)]) (AV.bool (same2 eqP a.labels b.labels)) (show Gives cfg (86 : FuncId) [AV.sl .sh (List.map encP a.labels), AV.sl .sh (List.map encP b.labels)] (AV.bool (same2 eqP a.labels b.labels)) from samePp _ _ m2) ⟨rfl, rfl⟩ ⟨rfl, rfl⟩ <| .split (same2 eqP a.labels b.labels = true) (fun h4 => .yes (show (same2 eqP a.labels b.labels) = true from h4) <| .callG ([AV.sl .sh (List.map encT a.taints), AV.sl .sh (List.map encT b.taints)]) (AV.bool (same2 eqT a.taints b.taints)) (show Gives cfg (87 : FuncId) [AV.sl .sh (List.map encT a.taints), AV.sl .sh (List.map encT b.taints)] (AV.bool (same2 eqT a.taints b.taints)) from sameTp _ _ m3) ⟨rfl, rfl⟩ ⟨rfl, rfl⟩ <| .fin ((ARes.ret (AV.bool (same2 eqT a.taints b.taints)), { boxes := [[AV.str a.name, AV.sl .sh (List.map encA a.cap), AV.sl .sh (List.map encP a.labels), AV.sl .sh (List.map encT a.taints), AV.bool a.cordon], [AV.str b.name, AV.sl .sh (List.map encA b.cap), AV.sl .sh (List.map encP b.labels), AV.sl .sh (List.map encT b.taints), AV.bool b.cordon]], toks := [], loops := [] : Heap })) (by simp only [IsRet]; grind [sameNB])) (fun h4 => .no (show (same2 eqP a.labels b.labels) = false from Bool.eq_false_iff.2 (show ¬ (same2 eqP a.labels b.labels = true) from h4)) <| .fin ((ARes.ret (AV.bool false), { boxes := [[AV.str a.name, AV.sl .sh (List.map encA a.cap), AV.sl .sh (List.map encP a.labels), AV.sl .sh (List.map encT a.taints), AV.bool a.cordon], [AV.str b.name, AV.sl .sh (List.map encA b.cap), AV.sl .sh (List.map encP b.labels), AV.sl .sh (List.map encT b.taints), AV.bool b.cordon]], toks := [], loops := [] : Heap })) (by simp only [IsRet]; grind [sameNB]))) (fun h3 => .no (show (same2 eqA a.cap b.cap) = false from Bool.eq_false_iff.2 (show ¬ (same2 eqA a.cap b.cap = true) from h3)) <| .ff <| .fin ((ARes.ret (AV.bool false), { boxes := [[AV.str a.name, AV.sl .sh (List.map encA a.cap), AV.sl .sh (List.map encP a.labels), AV.sl .sh (List.map encT a.taints), AV.bool a.cordon], [AV.str b.name, AV.sl .sh (List.map encA b.cap), AV.sl .sh (List.map encP b.labels), AV.sl .sh (List.map encT b.taints), AV.bool b.cordon]], toks := [], loops := [] : Heap })) (by simp only [IsRet]; grind [sameNB]))) (fun h2 => .no (show (if false = true then !a.cordon == b.cordon else a.cordon == b.cordon) = false from Bool.eq_false_iff.2 (show ¬ ((if false = true then !a.cordon == b.cordon else a.cordon == b.cordon) = true) from h2)) <| .ff <| .ff <| .fin ((ARes.ret (AV.bool false), { boxes := [[AV.str a.name, AV.sl .sh (List.map encA a.cap), AV.sl .sh (List.map encP a.labels), AV.sl .sh (List.map encT a.taints), AV.bool a.cordon], [AV.str b.name, AV.sl .sh (List.map encA b.cap), AV.sl .sh (List.map encP b.labels), AV.sl .sh (List.map encT b.taints), AV.bool b.cordon]], toks := [], loops := [] : Heap })) (by simp only [IsRet]; grind [sameNB]))) (fun h1 => .no (show (a.name == b.name) = false from Bool.eq_false_iff.2 (show ¬ ((a.name == b.name) = true) from h1)) <| .ff <| .ff <| .ff <| .fin ((ARes.ret (AV.bool false), { boxes := [[AV.str a.name, AV.sl .sh (List.map encA a.cap), AV.sl .sh (List.map encP a.labels), AV.sl .sh (List.map encT a.taints), AV.bool a.cordon], [AV.str b.name, AV.sl .sh (List.map encA b.cap), AV.sl .sh (List.map encP b.labels), AV.sl .sh (List.map encT b.taints), AV.bool b.cordon]], toks := [], loops := [] : Heap })) (by simp only [IsRet]; grind [sameNB]))) (by kernel_rfl)
theorem sameNB_iff (a b : Node) : sameNB a b = true ↔ a = b := by
  cases a; cases b
  simp only [sameNB, Bool.and_eq_true, beq_iff_eq, same2_iff eqA_iff, same2_iff eqP_iff, same2_iff eqT_iff, Node.mk.injEq]
  grind
end Go.Aa.T

set_option linter.unusedVariables false
set_option linter.unusedSimpArgs false
set_option maxRecDepth 100000
namespace Go.Aa.T
open Go.Aa Go.Proofs
structure Pod where
  name : List UInt8
  owner : List UInt8
  prio : Int
  need : List Amount
  labels : List Pair
  sel : List Term
  tols : List Tol
  key : List UInt8
  most : Int
  node : List UInt8
  hold : Bool
def encPd (p : Pod) : AV := .agg [.str p.name, .str p.owner, .int .i64 p.prio, .sl .sh (p.need.map encA), .sl .sh (p.labels.map encP), .sl .sh (p.sel.map encM), .sl .sh (p.tols.map encL), .str p.key, .int .i64 p.most, .str p.node, .bool p.hold]
theorem firstE_zero : ∀ {l : List Int}, firstE l = 0 → ∀ x ∈ l, x = 0
  | [], _ => by simp
  | x :: l, h => by
    unfold firstE at h
    split at h
    · intro y hy
      rcases List.mem_cons.1 hy with rfl | hy
      · assumption
      · exact firstE_zero h y hy
    · contradiction
structure PodOk (p : Pod) : Prop where
  name : isName p.name = true
  owner : p.owner = [] ∨ isName p.owner = true
  prio : -1 ≤ p.prio ∧ p.prio ≤ 1000000
  hold : p.hold = decide (p.prio = -1)
  need : ckV p.need = 0
  labels : ckS p.labels = 0
  sel : ckM p.sel = 0
  tols : ckL p.tols = 0
  key : p.key = [] ∨ isName p.key = true
  most : 0 ≤ p.most ∧ p.most ≤ 128 ∧ (p.key = [] ↔ p.most = 0)
  node : p.node = [] ∨ isName p.node = true

end Go.Aa.T

set_option linter.unusedVariables false
set_option linter.unusedSimpArgs false
set_option maxRecDepth 100000
namespace Go.Aa.T
open Go.Aa Go.Proofs
instance (n : Pod) : Dat (encPd n) := ⟨rfl, rfl⟩
structure FewPod (p : Pod) : Prop where
  name : p.name.length ≤ 50
  owner : p.owner.length ≤ 50
  key : p.key.length ≤ 50
  node : p.node.length ≤ 50
  need : p.need.length ≤ 20
  labels : p.labels.length ≤ 20
  sel : p.sel.length ≤ 20
  tols : p.tols.length ≤ 20
  fneed : fewA p.need = true
  flabels : fewP p.labels = true
  fsel : fewM p.sel = true
  ftols : fewL p.tols = true
end Go.Aa.T

set_option linter.unusedVariables false
set_option linter.unusedSimpArgs false
set_option maxRecDepth 100000
namespace Go.Aa.T
open Go.Aa Go.Proofs
def pk (prio : Int) (key : List UInt8) (most : Int) (hold : Bool) : AV := .agg [.str [112], .str [], .int .i64 prio, .sl .sh [], .sl .sh [], .sl .sh [], .sl .sh [], .str key, .int .i64 most, .str [], .bool hold]
end Go.Aa.T

set_option linter.unusedVariables false
set_option linter.unusedSimpArgs false
set_option maxRecDepth 100000
namespace Go.Aa.T
open Go.Aa Go.Proofs
end Go.Aa.T

set_option linter.unusedVariables false
set_option linter.unusedSimpArgs false
set_option maxRecDepth 100000
namespace Go.Aa.T
open Go.Aa Go.Proofs
theorem fmt_any (n : Int) (h0 : -9223372036854775808 ≤ n) (h1 : n ≤ 9223372036854775807) : Gives cfg 163 [.int .i64 n, .int .i64 10] (.str (itoaF n)) := by
  refine Gives.of (H' := Heap.nil) ?_
  rw [lim_ext (g := fmtE) rfl rfl]
  have : fmtE [.int .i64 n, .int .i64 10] Heap.nil = some (.str (itoaF n), Heap.nil) := by
    simp only [fmtE]
    exact if_pos ⟨trivial, trivial, trivial, h0, h1⟩
  rw [this]; rfl
theorem itoaF_len {n : Int} (h0 : -9223372036854775808 ≤ n) (h1 : n ≤ 9223372036854775807) : (itoaF n).length ≤ 21 := by
  rw [itoaF_eq h0 h1]; exact Lib.itoa_length_le n h0 h1
theorem join_gen (ss : List (List UInt8)) (sep : List UInt8) (h1 : ss.length ≤ 140737488355328) (h2 : (Lib.join ss sep).length ≤ 140737488355328) : Gives cfg 101 [.sl .sh (ss.map AV.str), .str sep] (.str (Lib.join ss sep)) := by
  refine Gives.of (H' := Heap.nil) ?_
  rw [lim_ext (g := joinE) rfl rfl]
  have : joinE [.sl .sh (ss.map AV.str), .str sep] Heap.nil = some (.str (Lib.join ss sep), Heap.nil) := by
    simp only [joinE, strsA_map]
    exact if_pos ⟨h1, h2⟩
  rw [this]; rfl
theorem tail_lenC (c : UInt8) : ∀ (r : List (List UInt8)) (m : Nat), (∀ s ∈ r, s.length ≤ m) → (Lib.joinTail [c] r).length ≤ r.length * (m + 1)
  | [], m, _ => by simp [Lib.joinTail]
  | s :: r, m, h => by
    have h1 := h s (by simp)
    have h2 := tail_lenC c r m (fun y hy => h y (by simp [hy]))
    rw [tail_consC]
    simp only [List.length_cons, List.length_append, Nat.add_mul, Nat.one_mul] at h2 ⊢
    omega
theorem join_lenC (c : UInt8) (ss : List (List UInt8)) (m : Nat) (h : ∀ s ∈ ss, s.length ≤ m) : (Lib.join ss [c]).length ≤ ss.length * (m + 1) := by
  cases ss with
  | nil => simp [Lib.join_nil]
  | cons x r =>
    rw [Lib.join_cons, List.length_append]
    have h1 := h x (by simp)
    have h2 := tail_lenC c r m (fun y hy => h y (by simp [hy]))
    simp only [List.length_cons, Nat.add_mul, Nat.one_mul] at h2 ⊢
    omega

def smallI (l : List Amount) : Prop := ∀ x ∈ l, -9223372036854775808 ≤ x.n ∧ x.n ≤ 9223372036854775807
theorem aText_len (x : Amount) (hk : x.name.length ≤ 50) (h : -9223372036854775808 ≤ x.n ∧ x.n ≤ 9223372036854775807) : (aText x).length ≤ 103 := by
  have := itoaF_len h.1 h.2
  simp [aText]
  omega
theorem aText_loop (l : List Amount) (hn : l.length ≤ 20) (hf : ∀ x ∈ l, x.name.length ≤ 50) (hs : smallI l) (hj : (Lib.join (l.map aText) [44]).length ≤ 3000) : ∀ (post : List Amount) (i : Nat) (acc : List (List UInt8)) (bs : List (List AV)) (hd : l.drop i = post) (ha : acc.length = i) (hall : acc ++ post.map aText = l.map aText) (T : Env)
    (hT : Has T [(3, rowF AV.str acc), (9, .sl .sh (l.map encA)), (10, .int .i64 l.length), (11, .int .i64 i)]),
    Goes cfg a102 k102_0 T ⟨bs, tkR AV.str acc, []⟩ (IsRet (.str (Lib.join (l.map aText) [44]))) := by
  intro post
  induction post with
  | nil =>
    intro i acc bs hd ha hall T hT
    have hge := drop_ge hd
    have e : acc = l.map aText := by simpa using hall
    subst e
    exact goG 60 _  hT  (.no (show (decide ((↑i : Int) < (↑l.length : Int))) = false from decide_eq_false (show ¬ ((↑i : Int) < (↑l.length : Int)) from (by simp; omega))) <| .callG ([AV.sl (skF (List.map aText l)) (List.map AV.str (List.map aText l)), AV.str [(44 : UInt8)]]) (AV.str (Lib.join (List.map aText l) [(44 : UInt8)])) (show Gives cfg (101 : FuncId) [AV.sl .sh (List.map AV.str (List.map aText l)), AV.str [(44 : UInt8)]] (AV.str (Lib.join (List.map aText l) [(44 : UInt8)])) from join_any _ (by simp; omega) (by omega)) Shuts.p ⟨rfl, rfl⟩ <| .fin ((ARes.ret (AV.str (Lib.join (List.map aText l) [(44 : UInt8)])), { boxes := bs, toks := tkR AV.str (List.map aText l), loops := [] : Heap })) rfl) (by kernel_rfl)
  | cons x post ih =>
    intro i acc bs hd ha hall T hT
    have hlt := drop_lt hd
    have hnx := drop_next hd
    have hk := hf x (drop_mem hd)
    obtain ⟨s1, s2⟩ := hs x (drop_mem hd)
    have hl := itoaF_len s1 s2
    have hall2 : (acc ++ [aText x]) ++ post.map aText = l.map aText := by rw [← hall]; simp
    have hall3 : (acc ++ [x.name ++ [61] ++ itoaF x.n]) ++ post.map aText = l.map aText := hall2
    exact goG 60 _  hT  (.yes (show (decide ((↑i : Int) < (↑l.length : Int))) = true from decide_eq_true (show (↑i : Int) < (↑l.length : Int) from (by simp; omega))) <| .idx (show idxA 2 (AV.sl .sh (List.map encA l)) (AV.int .i64 (↑i : Int)) = some (AV.ref (encA x).cells) from idx_row hd (by rfl)) <| .load (show loadA true 2 { boxes := bs, toks := tkR AV.str acc, loops := [] : Heap } (AV.ref [AV.str x.name, AV.int .i64 x.n]) = some (AV.agg [AV.str x.name, AV.int .i64 x.n]) from rfl) <| .store (show storeA 2 { boxes := bs ++ [[AV.str [], AV.int .i64 0]], toks := tkR AV.str acc, loops := [] : Heap } (AV.ptr bs.length (0 : Nat)) (AV.agg [AV.str x.name, AV.int .i64 x.n]) = some ({ boxes := bs ++ [[AV.str x.name, AV.int .i64 x.n]], toks := tkR AV.str acc, loops := [] : Heap }) from store_box2 (cs := [AV.str [], AV.int .i64 0]) (cs' := [AV.str x.name, AV.int .i64 x.n]) (by simp) rfl (by simp [List.set_append])) <| .load (show loadA false 1 { boxes := bs ++ [[AV.str x.name, AV.int .i64 x.n]], toks := tkR AV.str acc, loops := [] : Heap } (AV.ptr bs.length (0 : Nat)) = some (AV.str x.name) from load_box (cs := [AV.str x.name, AV.int .i64 x.n]) (by simp) rfl) <| .bin (show binA .add (AV.str x.name) (AV.str [(61 : UInt8)]) = some (AV.str (x.name ++ [(61 : UInt8)])) from str_add (by simp; omega)) <| .load (show loadA false 1 { boxes := bs ++ [[AV.str x.name, AV.int .i64 x.n]], toks := tkR AV.str acc, loops := [] : Heap } (AV.ptr bs.length (1 : Nat)) = some (AV.int .i64 x.n) from load_box (cs := [AV.str x.name, AV.int .i64 x.n]) (by simp) rfl) <| .callG ([AV.int .i64 x.n, AV.int .i64 10]) (AV.str (itoaF x.n)) (show Gives cfg (163 : FuncId) [AV.int .i64 x.n, AV.int .i64 10] (AV.str (itoaF x.n)) from fmt_any _ s1 s2) ⟨rfl, rfl⟩ ⟨rfl, rfl⟩ <| .bin (show binA .add (AV.str (x.name ++ [(61 : UInt8)])) (AV.str (itoaF x.n)) = some (AV.str (x.name ++ [(61 : UInt8)] ++ itoaF x.n)) from str_add (by simp; omega)) <| .append (show appendA (1 : Nat) (16 : Nat) { boxes := bs ++ [[AV.str x.name, AV.int .i64 x.n]], toks := tkR AV.str acc, loops := [] : Heap } (AV.sl (skF acc) (List.map AV.str acc)) (AV.sl .full [AV.str (x.name ++ [(61 : UInt8)] ++ itoaF x.n)]) = some ((rowF AV.str (acc ++ [x.name ++ [(61 : UInt8)] ++ itoaF x.n]), { boxes := bs ++ [[AV.str x.name, AV.int .i64 x.n]], toks := tkR AV.str (acc ++ [x.name ++ [(61 : UInt8)] ++ itoaF x.n]), loops := [] : Heap })) from row_append_T _ (by simp; omega) (by exact lenSt) (by rfl) (by rfl)) <| .bin (show binA .add (AV.int .i64 (↑i : Int)) (AV.int .i64 1) = some (AV.int .i64 (↑(i + (1 : Nat)) : Int)) from inc_i (by omega)) <| .cutQ k102_0 [(3, AV.sl (skF (acc ++ [x.name ++ [(61 : UInt8)] ++ itoaF x.n])) (List.map AV.str (acc ++ [x.name ++ [(61 : UInt8)] ++ itoaF x.n]))), (9, AV.sl .sh (List.map encA l)), (10, AV.int .i64 (↑l.length : Int)), (11, AV.int .i64 (↑(i + (1 : Nat)) : Int))] ({ boxes := bs ++ [[AV.str x.name, AV.int .i64 x.n]], toks := tkR AV.str (acc ++ [x.name ++ [(61 : UInt8)] ++ itoaF x.n]), loops := [] : Heap }) (fun T hT => (ih (i + (1 : Nat)) (acc ++ [x.name ++ [(61 : UInt8)] ++ itoaF x.n]) (bs ++ [[AV.str x.name, AV.int .i64 x.n]]) hnx (by simp; omega) hall2 T hT))) (by kernel_rfl)
theorem aText_any (l : List Amount) (hf : fewA l = true) (hs : smallI l) : Gives cfg 102 [.sl .sh (l.map encA)] (.str (textOf aText l)) := by
  have hn := fewA_len hf
  have hf2 : ∀ x ∈ l, x.name.length ≤ 50 := by
    simp only [fewA, short1, Bool.and_eq_true, List.all_eq_true, decide_eq_true_eq] at hf
    exact hf.2
  have hj : (Lib.join (l.map aText) [44]).length ≤ 3000 := join_len _ (by
    intro s hs'
    obtain ⟨x, hx, rfl⟩ := List.mem_map.1 hs'
    exact aText_len x (hf2 x hx) (hs x hx)) (by simpa using hn)
  refine Gives.run (l102 _ _) ?_
  have h := aText_loop l hn hf2 hs hj l 0 [] [] rfl rfl rfl
  by_cases hl : l = []
  · subst hl
    exact goG 60 []  trivial  (.len (show lenA false (AV.sl .sh []) = some (AV.int .i64 (↑[].length : Int)) from len_sl _ _) <| .tt <| .fin ((ARes.ret (AV.str [(45 : UInt8)]), { boxes := [], toks := [], loops := [] : Heap })) rfl) (by kernel_rfl)
  · have hp : 0 < l.length := List.length_pos_iff.2 hl
    have e : textOf aText l = Lib.join (l.map aText) [44] := by simp [textOf, hl]
    rw [e]
    exact goG 60 []  trivial  (.len (show lenA false (AV.sl .sh (List.map encA l)) = some (AV.int .i64 (↑l.length : Int)) from len_map _) <| .no (show ((↑l.length : Int) == (0 : Int)) = false from Bool.eq_false_iff.2 (show ¬ (((↑l.length : Int) == (0 : Int)) = true) from (by simp [hl]))) <| .len (show lenA false (AV.sl .sh (List.map encA l)) = some (AV.int .i64 (↑l.length : Int)) from len_map _) <| .cutQ k102_0 [(3, AV.sl .full []), (9, AV.sl .sh (List.map encA l)), (10, AV.int .i64 (↑l.length : Int)), (11, AV.int .i64 0)] ({ boxes := [], toks := [], loops := [] : Heap }) (fun T hT => (h T hT))) (by kernel_rfl)

structure SmallPd (p : Pod) : Prop where
  need : smallI p.need
  prio : -9223372036854775808 ≤ p.prio ∧ p.prio ≤ 9223372036854775807
  most : -9223372036854775808 ≤ p.most ∧ p.most ≤ 9223372036854775807
theorem textOf_len3 {X : Type} {f : X → List UInt8} {l : List X} (hn : l.length ≤ 20) (h : ∀ x ∈ l, (f x).length ≤ 103) : (textOf f l).length ≤ 10000 := by
  unfold textOf
  split
  · simp
  · have := join_len (l.map f) (by
      intro s hs
      obtain ⟨x, hx, rfl⟩ := List.mem_map.1 hs
      exact h x hx) (by simpa using hn)
    omega
theorem few_two {X : Type} {f : X → List UInt8 × List UInt8} {l : List X} (h : few f l = true) {x : X} (hx : x ∈ l) : (f x).1.length ≤ 50 ∧ (f x).2.length ≤ 50 := by
  have := List.all_eq_true.1 h x hx
  simpa using this
end Go.Aa.T

set_option linter.unusedVariables false
set_option linter.unusedSimpArgs false
set_option maxRecDepth 100000
namespace Go.Aa.T
open Go.Aa Go.Proofs
structure Bud where
  name : List UInt8
  sel : List Term
  floor : Int
def encB (b : Bud) : AV := .agg [.str b.name, .sl .sh (b.sel.map encM), .int .i64 b.floor]
instance (n : Bud) : Dat (encB n) := ⟨rfl, rfl⟩

end Go.Aa.T

set_option linter.unusedVariables false
set_option linter.unusedSimpArgs false
set_option maxRecDepth 100000
namespace Go.Aa.T
open Go.Aa Go.Proofs
theorem quo10 (m : Nat) (h : m ≤ 9223372036854775807) : binA .quo (.int .i64 (m : Int)) (.int .i64 10) = some (.int .i64 ((m / 10 : Nat) : Int)) := by
  have e : (m : Int).tdiv 10 = ((m / 10 : Nat) : Int) := rfl
  simp only [binA, if_true, intBin, if_neg (show ¬ (10 : Int) = 0 by decide), e]
  rw [wrap_i64 (by omega) (by omega)]
theorem rem10 (m : Nat) : binA .rem (.int .i64 (m : Int)) (.int .i64 10) = some (.int .i64 ((m % 10 : Nat) : Int)) := rem_nat (by decide)
theorem dig_u8 (m : Nat) : convA (.int .u8) (.int .i64 (48 + ((m % 10 : Nat) : Int))) = some (.int .u8 (48 + ((m % 10 : Nat) : Int))) := by
  have h : m % 10 < 10 := Nat.mod_lt _ (by decide)
  generalize m % 10 = d at h ⊢
  have e : IntKind.u8.wrap (48 + (d : Int)) = 48 + (d : Int) := by
    simp only [IntKind.wrap, IntKind.bits, IntKind.signed, Bool.false_and, Bool.false_eq_true, if_false]
    omega
  simp [convA, e]
theorem dig_str (m : Nat) : convA .bytes (.sl .full [.int .u8 (48 + ((m % 10 : Nat) : Int))]) = some (.str [UInt8.ofNat (48 + m % 10)]) := by
  have h : m % 10 < 10 := Nat.mod_lt _ (by decide)
  have key : ∀ d, d < 10 → convA .bytes (.sl .full [.int .u8 (48 + (d : Nat))]) = some (.str [UInt8.ofNat (48 + d)]) := fun d hd => by
    match d, hd with
    | 0, _ => rfl
    | 1, _ => rfl
    | 2, _ => rfl
    | 3, _ => rfl
    | 4, _ => rfl
    | 5, _ => rfl
    | 6, _ => rfl
    | 7, _ => rfl
    | 8, _ => rfl
    | 9, _ => rfl
  exact key _ h
def preD (m : Nat) : List UInt8 := if m < 10 then [] else Lib.decDigits (m / 10)
theorem preD_step {m : Nat} (h : ¬ m < 10) : preD m = preD (m / 10) ++ [UInt8.ofNat (48 + m / 10 % 10)] := by
  unfold preD
  rw [if_neg h]
  by_cases h2 : m / 10 < 10
  · rw [if_pos h2, dec_one _ h2, Nat.mod_eq_of_lt h2]; rfl
  · rw [if_neg h2, dec_split _ h2]
theorem preD_dec (m : Nat) : preD m ++ [UInt8.ofNat (48 + m % 10)] = Lib.decDigits m := by
  unfold preD
  by_cases h : m < 10
  · rw [if_pos h, dec_one _ h, Nat.mod_eq_of_lt h]; rfl
  · rw [if_neg h, dec_split _ h]
theorem decimal_loop (total : List UInt8) (ht : total.length ≤ 1000) : ∀ (n m : Nat) (s : List UInt8) (hn : m < 10 ^ n) (hm : m ≤ 9223372036854775807) (hs : preD m ++ s = total) (T : Env) (hT : Has T [(0, .int .i64 m), (3, .str s)]),
    Goes cfg a71 k71_0 T Heap.nil (IsRet (.str total)) := by
  intro n
  induction n with
  | zero =>
    intro m s hn hm hs T hT
    have : m = 0 := by simpa using hn
    subst this
    have e : s = total := by simpa [preD] using hs
    subst e
    exact goG 60 _  hT  (.ff <| .fin ((ARes.ret (AV.str s), { boxes := [], toks := [], loops := [] : Heap })) rfl) (by kernel_rfl)
  | succ n ih =>
    intro m s hn hm hs T hT
    by_cases h10 : m < 10
    · have e : s = total := by simpa [preD, h10] using hs
      subst e
      exact goG 60 _  hT  (.no (show (decide ((10 : Int) ≤ (↑m : Int))) = false from decide_eq_false (show ¬ ((10 : Int) ≤ (↑m : Int)) from (by omega))) <| .fin ((ARes.ret (AV.str s), { boxes := [], toks := [], loops := [] : Heap })) rfl) (by kernel_rfl)
    · have hs2 : preD (m / 10) ++ ([UInt8.ofNat (48 + m / 10 % 10)] ++ s) = total := by
        rw [← hs, preD_step h10, List.append_assoc]
      have hlen : ([UInt8.ofNat (48 + m / 10 % 10)] : List UInt8).length + s.length ≤ 4611686018427387904 := by
        have := congrArg List.length hs2
        simp only [List.length_append] at this ⊢
        omega
      have ih' := ih (m / 10) ([UInt8.ofNat (48 + m / 10 % 10)] ++ s) (by rw [Nat.pow_succ] at hn; omega) (by omega) hs2
      have q1 := quo10 m hm
      have q2 := rem10 (m / 10)
      have q3 := dig_u8 (m / 10)
      have q4 := dig_str (m / 10)
      have q5 : binA .add (.str [UInt8.ofNat (48 + m / 10 % 10)]) (.str s) = some (.str ([UInt8.ofNat (48 + m / 10 % 10)] ++ s)) := str_add hlen
      have hr : m / 10 % 10 < 10 := Nat.mod_lt _ (by decide)
      generalize m / 10 % 10 = d at *
      generalize m / 10 = q at *
      exact goG 60 _  hT  (.yes (show (decide ((10 : Int) ≤ (↑m : Int))) = true from decide_eq_true (show (10 : Int) ≤ (↑m : Int) from (by omega))) <| .bin (show binA .quo (AV.int .i64 (↑m : Int)) (AV.int .i64 10) = some (AV.int .i64 (↑q : Int)) from q1) <| .bin (show binA .rem (AV.int .i64 (↑q : Int)) (AV.int .i64 10) = some (AV.int .i64 (↑d : Int)) from q2) <| .bin (show binA .add (AV.int .i64 48) (AV.int .i64 (↑d : Int)) = some (AV.int .i64 ((48 : Int) + (↑d : Int))) from addI (by omega) (by omega)) <| .conv (show convA (CV.int IntKind.u8) (AV.int .i64 ((48 : Int) + (↑d : Int))) = some (AV.int .u8 ((48 : Int) + (↑d : Int))) from q3) <| .conv (show convA CV.bytes (AV.sl .full [AV.int .u8 ((48 : Int) + (↑d : Int))]) = some (AV.str [UInt8.ofNat ((48 : Nat) + d)]) from q4) <| .bin (show binA .add (AV.str [UInt8.ofNat ((48 : Nat) + d)]) (AV.str s) = some (AV.str ([UInt8.ofNat ((48 : Nat) + d)] ++ s)) from q5) <| .cutQ k71_0 [(0, AV.int .i64 (↑q : Int)), (3, AV.str (UInt8.ofNat ((48 : Nat) + d) :: s))] ({ boxes := [], toks := [], loops := [] : Heap }) (fun T hT => (ih' T hT))) (by kernel_rfl)
theorem decimal_any (m : Nat) (hm : m ≤ 9223372036854775807) : Gives cfg 71 [.int .i64 (m : Int)] (.str (itoaF m)) := by
  refine Gives.run (l71 _ _) ?_
  have hlen : (Lib.decDigits m).length ≤ 1000 := by
    have := itoaF_len (n := (m : Int)) (by omega) (by omega)
    rw [itoa_nat hm] at this
    omega
  have h := decimal_loop (Lib.decDigits m) hlen 20 m [UInt8.ofNat (48 + m % 10)] (by omega) hm (preD_dec m)
  rw [itoa_nat hm]
  have q2 := rem10 m
  have q3 := dig_u8 m
  have q4 := dig_str m
  have hr : m % 10 < 10 := Nat.mod_lt _ (by decide)
  generalize m % 10 = d at *
  exact goG 60 []  trivial  (.ff <| .bin (show binA .rem (AV.int .i64 (↑m : Int)) (AV.int .i64 10) = some (AV.int .i64 (↑d : Int)) from q2) <| .bin (show binA .add (AV.int .i64 48) (AV.int .i64 (↑d : Int)) = some (AV.int .i64 ((48 : Int) + (↑d : Int))) from addI (by omega) (by omega)) <| .conv (show convA (CV.int IntKind.u8) (AV.int .i64 ((48 : Int) + (↑d : Int))) = some (AV.int .u8 ((48 : Int) + (↑d : Int))) from q3) <| .conv (show convA CV.bytes (AV.sl .full [AV.int .u8 ((48 : Int) + (↑d : Int))]) = some (AV.str [UInt8.ofNat ((48 : Nat) + d)]) from q4) <| .cutQ k71_0 [(0, AV.int .i64 (↑m : Int)), (3, AV.str [UInt8.ofNat ((48 : Nat) + d)])] ({ boxes := [], toks := [], loops := [] : Heap }) (fun T hT => (h T hT))) (by kernel_rfl)

end Go.Aa.T

set_option linter.unusedVariables false
set_option linter.unusedSimpArgs false
set_option maxRecDepth 100000
namespace Go.Aa.T
open Go.Aa Go.Proofs
def digs : List UInt8 := [48, 49, 50, 51, 52, 53, 54, 55, 56, 57]
theorem digs_ch (c : UInt8) : digs.contains c = isDig c := by
  have h : ∀ n, n < 256 → digs.contains (UInt8.ofNat n) = isDig (UInt8.ofNat n) := by decide
  have := h c.toNat c.toNat_lt
  rwa [UInt8.ofNat_toNat] at this
theorem trim_nilP {cs : List UInt8} {q : UInt8 → Bool} (hq : ∀ c, cs.contains c = q c) (s : List UInt8) : Lib.trimS s cs = [] ↔ s.all q = true := by
  have hp : (fun c => cs.contains c) = q := funext hq
  unfold Lib.trimS Lib.trimLeftS Lib.trimRightS
  rw [hp, dropWhile_nil, List.all_reverse]
  constructor
  · intro h
    have e := List.takeWhile_append_dropWhile (p := q) (l := s.reverse)
    have : s.reverse.all q = true := by
      rw [← e, List.all_append, h, Bool.and_true]
      exact List.all_takeWhile
    rwa [List.all_reverse] at this
  · intro h
    have : s.reverse.dropWhile q = [] := dropWhile_nil.2 (by rwa [List.all_reverse])
    rw [this]; rfl
theorem trim_digs (s : List UInt8) (h : s.length ≤ 9223372036854775807) : Gives cfg 190 [.str s, .str digs] (.str (Lib.trimS s digs)) := by
  refine Gives.of (H' := Heap.nil) ?_
  rw [lim_ext (g := trimE) rfl rfl]
  have : trimE [.str s, .str digs] Heap.nil = some (.str (Lib.trimS s digs), Heap.nil) := if_pos ⟨h, by decide, by decide⟩
  rw [this]; rfl
def numA (s : List UInt8) : Int × Int := if digB s = true then (if valN 0 s < 9223372036854775808 then ((valN 0 s : Int), 0) else (0, 5)) else (0, 2)
theorem parse_ok (s : List UInt8) (hl : s.length ≤ 1000) {v : Int} (h : Lib.parseIntB 64 s = .ok v) : Gives cfg 197 [.str s, .int .i64 10, .int .i64 64] (.tuple [.int .i64 v, .nilIface]) := by
  refine Gives.of (H' := Heap.nil) ?_
  rw [lim_ext (g := parseE 313) rfl rfl]
  have : parseE 313 [.str s, .int .i64 10, .int .i64 64] Heap.nil = some (.tuple [.int .i64 v, .nilIface], Heap.nil) := by
    simp only [parseE]
    rw [if_pos ⟨trivial, trivial, trivial, trivial, by omega⟩, h]
  rw [this]; rfl
theorem parse_range (s : List UInt8) (hl : s.length ≤ 1000) (h : Lib.parseIntB 64 s = .range) : Does cfg (.call (.c (.func 197 [])) [.c (.str s), .c (.int .i64 10), .c (.int .i64 64)]) Heap.nil (.tuple [.int .i64 (Lib.intSat 64 s), .iface 313 .undef]) Heap.nil := by
  suffices hh : lim cfg (.fn 197) [.str s, .int .i64 10, .int .i64 64] Heap.nil = some (.ret (.tuple [.int .i64 (Lib.intSat 64 s), .iface 313 .undef]), Heap.nil) from does_callN (xs := [.str s, .int .i64 10, .int .i64 64]) hh rfl hh rfl rfl
  rw [lim_ext (g := parseE 313) rfl rfl]
  have : parseE 313 [.str s, .int .i64 10, .int .i64 64] Heap.nil = some (.tuple [.int .i64 (Lib.intSat 64 s), .iface 313 .undef], Heap.nil) := by
    simp only [parseE]
    rw [if_pos ⟨trivial, trivial, trivial, trivial, by omega⟩, h]
  rw [this]; rfl
theorem digB_cons (c : UInt8) (r : List UInt8) : digB (c :: r) = ((c :: r).all isDig && (!(c == 48) || r.isEmpty)) := by
  cases r with
  | nil => simp [digB]
  | cons d r => simp [digB]; rfl
theorem num_any (s : List UInt8) (hl : s.length ≤ 1000) : Gives cfg 152 [.str s] (.tuple [.int .i64 (numA s).1, .int .i64 (numA s).2]) := by
  refine Gives.run (l152 _ _) ?_
  have ht := trim_nilP digs_ch s
  have htr := trim_digs s (by omega)
  by_cases hs : s = []
  · subst hs
    exact goG 60 []  trivial  (.tt <| .tt <| .tt <| .fin ((ARes.ret (AV.tuple [AV.int .i64 0, AV.int .i64 2]), { boxes := [], toks := [], loops := [] : Heap })) rfl) (by kernel_rfl)
  · obtain ⟨c, r, rfl⟩ := List.exists_cons_of_ne_nil hs
    have hx : idxsA (.str (c :: r)) (.int .i64 0) = some (.int .u8 c.toNat) := rfl
    have hz : c = 48 ↔ ((c.toNat : Nat) : Int) = 48 := by
      constructor
      · rintro rfl; rfl
      · intro h; exact UInt8.toNat_inj.1 (by have : c.toNat = 48 := by omega
                                             rw [this]; rfl)
    by_cases hd : digB (c :: r) = true
    · have hda : (c :: r).all isDig = true := by rw [digB_cons] at hd; simp only [Bool.and_eq_true] at hd; exact hd.1
      have hp := pi_dig hs hda
      have ha := ht.2 hda
      have hd' := hd
      rw [digB_cons, Bool.and_eq_true] at hd'
      have hd2 := hd'.2
      by_cases hv : valN 0 (c :: r) < 9223372036854775808
      · rw [if_pos hv] at hp
        have p1 := parse_ok _ hl hp
        have e : numA (c :: r) = ((valN 0 (c :: r) : Int), 0) := by simp only [numA, hd, if_true, hv]
        rw [e]
        generalize valN 0 (c :: r) = v at p1 hv
        rw [ha] at htr
        exact goG 90 []  trivial  (.ff <| .callG ([AV.str (c :: r), AV.str [(48 : UInt8), (49 : UInt8), (50 : UInt8), (51 : UInt8), (52 : UInt8), (53 : UInt8), (54 : UInt8), (55 : UInt8), (56 : UInt8), (57 : UInt8)]]) (AV.str []) (show Gives cfg (190 : FuncId) [AV.str (c :: r), AV.str digs] (AV.str []) from htr) ⟨rfl, rfl⟩ ⟨rfl, rfl⟩ <| .ff <| .idxs (show idxsA (AV.str (c :: r)) (AV.int .i64 0) = some (AV.int .u8 (↑c.toNat : Int)) from hx) <| .split (((↑c.toNat : Int) == (48 : Int)) = true) (fun h1 => .yes (show ((↑c.toNat : Int) == (48 : Int)) = true from h1) <| .no (show (!c :: r == [(48 : UInt8)]) = false from by have hh : (c :: r == [(48 : UInt8)]) = true := (by simp at hd2 ⊢; grind); simp [hh]) <| .callG ([AV.str (c :: r), AV.int .i64 10, AV.int .i64 64]) (AV.tuple [AV.int .i64 (↑v : Int), AV.nilIface]) (show Gives cfg (197 : FuncId) [AV.str (c :: r), AV.int .i64 10, AV.int .i64 64] (AV.tuple [AV.int .i64 (↑v : Int), AV.nilIface]) from p1) ⟨rfl, rfl⟩ ⟨rfl, rfl⟩ <| .ff <| .fin ((ARes.ret (AV.tuple [AV.int .i64 (↑v : Int), AV.int .i64 0]), { boxes := [], toks := [], loops := [] : Heap })) rfl) (fun h1 => .no (show ((↑c.toNat : Int) == (48 : Int)) = false from Bool.eq_false_iff.2 (show ¬ (((↑c.toNat : Int) == (48 : Int)) = true) from h1)) <| .ff <| .callG ([AV.str (c :: r), AV.int .i64 10, AV.int .i64 64]) (AV.tuple [AV.int .i64 (↑v : Int), AV.nilIface]) (show Gives cfg (197 : FuncId) [AV.str (c :: r), AV.int .i64 10, AV.int .i64 64] (AV.tuple [AV.int .i64 (↑v : Int), AV.nilIface]) from p1) ⟨rfl, rfl⟩ ⟨rfl, rfl⟩ <| .ff <| .fin ((ARes.ret (AV.tuple [AV.int .i64 (↑v : Int), AV.int .i64 0]), { boxes := [], toks := [], loops := [] : Heap })) rfl)) (by kernel_rfl)
      · rw [if_neg hv] at hp
        have p1 := parse_range _ hl hp
        have e : numA (c :: r) = (0, 5) := by simp only [numA, hd, if_true, hv, if_false]
        rw [e]
        rw [ha] at htr
        exact goG 90 []  trivial  (.ff <| .callG ([AV.str (c :: r), AV.str [(48 : UInt8), (49 : UInt8), (50 : UInt8), (51 : UInt8), (52 : UInt8), (53 : UInt8), (54 : UInt8), (55 : UInt8), (56 : UInt8), (57 : UInt8)]]) (AV.str []) (show Gives cfg (190 : FuncId) [AV.str (c :: r), AV.str digs] (AV.str []) from htr) ⟨rfl, rfl⟩ ⟨rfl, rfl⟩ <| .ff <| .idxs (show idxsA (AV.str (c :: r)) (AV.int .i64 0) = some (AV.int .u8 (↑c.toNat : Int)) from hx) <| .split (((↑c.toNat : Int) == (48 : Int)) = true) (fun h1 => .yes (show ((↑c.toNat : Int) == (48 : Int)) = true from h1) <| .no (show (!c :: r == [(48 : UInt8)]) = false from by have hh : (c :: r == [(48 : UInt8)]) = true := (by simp at hd2 ⊢; grind); simp [hh]) <| .effY (show Does cfg (AOp.call (Opd.c (AV.func (197 : FuncId) [])) [Opd.c (AV.str (c :: r)), Opd.c (AV.int .i64 10), Opd.c (AV.int .i64 64)]) Heap.nil (AV.tuple [AV.int .i64 (Lib.intSat (64 : Nat) (c :: r)), AV.iface (313 : TypeId) AV.undef]) Heap.nil from p1) <| .tt <| .fin ((ARes.ret (AV.tuple [AV.int .i64 0, AV.int .i64 5]), { boxes := [], toks := [], loops := [] : Heap })) rfl) (fun h1 => .no (show ((↑c.toNat : Int) == (48 : Int)) = false from Bool.eq_false_iff.2 (show ¬ (((↑c.toNat : Int) == (48 : Int)) = true) from h1)) <| .ff <| .effY (show Does cfg (AOp.call (Opd.c (AV.func (197 : FuncId) [])) [Opd.c (AV.str (c :: r)), Opd.c (AV.int .i64 10), Opd.c (AV.int .i64 64)]) Heap.nil (AV.tuple [AV.int .i64 (Lib.intSat (64 : Nat) (c :: r)), AV.iface (313 : TypeId) AV.undef]) Heap.nil from p1) <| .tt <| .fin ((ARes.ret (AV.tuple [AV.int .i64 0, AV.int .i64 5]), { boxes := [], toks := [], loops := [] : Heap })) rfl)) (by kernel_rfl)
    · have e : numA (c :: r) = (0, 2) := by simp only [numA, hd, if_false, Bool.false_eq_true]
      rw [e]
      rw [digB_cons] at hd
      by_cases hda : (c :: r).all isDig = true
      · have ha := ht.2 hda
        rw [ha] at htr
        rw [hda, Bool.true_and] at hd
        exact goG 90 []  trivial  (.ff <| .callG ([AV.str (c :: r), AV.str [(48 : UInt8), (49 : UInt8), (50 : UInt8), (51 : UInt8), (52 : UInt8), (53 : UInt8), (54 : UInt8), (55 : UInt8), (56 : UInt8), (57 : UInt8)]]) (AV.str []) (show Gives cfg (190 : FuncId) [AV.str (c :: r), AV.str digs] (AV.str []) from htr) ⟨rfl, rfl⟩ ⟨rfl, rfl⟩ <| .ff <| .idxs (show idxsA (AV.str (c :: r)) (AV.int .i64 0) = some (AV.int .u8 (↑c.toNat : Int)) from hx) <| .yes (show ((↑c.toNat : Int) == (48 : Int)) = true from (by simp at hd; grind)) <| .yes (show (!c :: r == [(48 : UInt8)]) = true from by have hh : ¬ ((c :: r == [(48 : UInt8)]) = true) := (by simp at hd; grind); simp [hh]) <| .fin ((ARes.ret (AV.tuple [AV.int .i64 0, AV.int .i64 2]), { boxes := [], toks := [], loops := [] : Heap })) rfl) (by kernel_rfl)
      · have ha : ¬ Lib.trimS (c :: r) digs = [] := fun h => hda (ht.1 h)
        exact goG 90 []  trivial  (.ff <| .callG ([AV.str (c :: r), AV.str [(48 : UInt8), (49 : UInt8), (50 : UInt8), (51 : UInt8), (52 : UInt8), (53 : UInt8), (54 : UInt8), (55 : UInt8), (56 : UInt8), (57 : UInt8)]]) (AV.str (Lib.trimS (c :: r) digs)) (show Gives cfg (190 : FuncId) [AV.str (c :: r), AV.str digs] (AV.str (Lib.trimS (c :: r) digs)) from htr) ⟨rfl, rfl⟩ ⟨rfl, rfl⟩ <| .yes (show (!Lib.trimS (c :: r) digs == []) = true from by have hh : ¬ ((Lib.trimS (c :: r) digs == []) = true) := (by simpa using ha); simp [hh]) <| .tt <| .fin ((ARes.ret (AV.tuple [AV.int .i64 0, AV.int .i64 2]), { boxes := [], toks := [], loops := [] : Heap })) rfl) (by kernel_rfl)

end Go.Aa.T

set_option linter.unusedVariables false
set_option linter.unusedSimpArgs false
set_option maxRecDepth 100000
namespace Go.Aa.T
open Go.Aa Go.Proofs
theorem does_callW {xs : List AV} {g : FuncId} {v : AV} (h : Gives cfg g xs v) (hx : xs.map shutA = xs) (hd : xs.all isData = true) (hv : isData (shutA v) = true) (H : Heap) : Does cfg (.callM (.c (.func g [])) (xs.map .c)) H (shutA v) H := fun T => by
  obtain ⟨H', h⟩ := h.ret
  have e : (xs.map Opd.c).map (fun x => shutA (ev T x)) = xs := by rw [List.map_map]; exact hx
  simp only [opStep, e]
  rw [show ev T (.c (.func g [])) = .func g [] from rfl]
  simp only [callW, hd, List.all_nil, Bool.and_self, if_true, List.append_nil, h, hv]
theorem count_cut {c : UInt8} {a b : List UInt8} (h : c ∉ a) : Lib.countByte (a ++ c :: b) c = Lib.countByte b c + 1 := by
  rw [count_app, count_no h, count_one]; simp
theorem parts_count (c : UInt8) : ∀ (n : Nat) (s : List UInt8), s.length ≤ n → (parts c s).length = Lib.countByte s c + 1 := by
  intro n
  induction n with
  | zero =>
    intro s hs
    have : s = [] := List.length_eq_zero_iff.1 (by omega)
    subst this; rfl
  | succ n ih =>
    intro s hs
    cases hc : cutAt c s with
    | none =>
      have hm := cutAt_none hc
      rw [parts_none hm, count_no hm]; rfl
    | some p =>
      obtain ⟨a, b⟩ := p
      obtain ⟨rfl, hm⟩ := cutAt_some hc
      rw [parts_some hm, count_cut hm, List.length_cons, ih b (by simp at hs; omega)]
theorem count_le (s : List UInt8) (c : UInt8) : Lib.countByte s c ≤ s.length := List.count_le_length
def hL (L : List (List UInt8)) : Heap := hM 0 (strs L)
def spL (done : List (List UInt8)) (k : Nat) : List (List UInt8) := done ++ List.replicate k []
theorem spL_set (done : List (List UInt8)) (k : Nat) (a : List UInt8) : (spL done (k + 1)).set done.length a = spL (done ++ [a]) k := by
  simp [spL, List.set_append, List.replicate_succ]
theorem storeL (L : List (List UInt8)) (i : Nat) (a : List UInt8) (hi : i < L.length) : Does cfg (.store 1 (.c (.ptr 0 (0 + i * 1))) (.c (.str a))) (hL L) .undef (hL (L.set i a)) := by
  have h := does_storeM (cfg := cfg) (es := 1) (k := 0) (i := i) (l := strs L) (v := .str a) (strs_el L) rfl (by simp [strs]; exact hi) (by omega) rfl
  have e : (strs L).set i (.str a) = strs (L.set i a) := by simp [strs, List.map_set]
  rw [e] at h
  rw [Nat.zero_add]
  exact h
theorem is_out {u v : AV} {H : Heap} (h : dataOut H v = some u) : IsOut u (.ret v, H) := ⟨_, rfl, h⟩
theorem split_loop2 (c : UInt8) (m : Nat) (hm : m ≤ 1000) (all : List (List UInt8)) (hal : all.length = m + 1) : ∀ (k : Nat) (rest : List UInt8) (done : List (List UInt8)) (hk : done.length + k = m) (hl : rest.length ≤ 1000) (hc : Lib.countByte rest c = k) (hp : done ++ parts c rest = all) (T : Env)
    (hT : Has T [(0, .str rest), (1, .str [c]), (2, .int .i64 0), (3, .int .i64 m), (9, .msl 0 0 (m + 1) 1), (10, .int .i64 done.length)]),
    Goes cfg a148 k148_0 T (hL (spL done (k + 1))) (IsOut (.sl .sh (strs all))) := by
  intro k
  induction k with
  | zero =>
    intro rest done hk hl hc hp T hT
    have hk' : done.length = m := by omega
    have hno : c ∉ rest := List.count_eq_zero.1 hc
    have e : spL (done ++ [rest]) 0 = all := by
      rw [← hp, parts_none hno]; simp [spL]
    have st := storeL (spL done 1) done.length rest (by simp [spL])
    rw [spL_set, e] at st
    have x1 : idxA 1 (.msl 0 0 (m + 1) 1) (.int .i64 (done.length : Nat)) = some (.ptr 0 (0 + done.length * 1)) := idx_msl (by omega)
    have s1 : sliceA 1 (.msl 0 0 (m + 1) 1) none (some (.int .i64 ((done.length + 1 : Nat) : Int))) none = some (.msl 0 0 (m + 1) 1) := by
      rw [hk']
      simp only [sliceA, sliceM, boundA]
      simp
      rw [if_pos (by omega)]
    have ho : dataOut (hL all) (.msl 0 0 (m + 1) 1) = some (.sl .sh (strs all)) := by
      have h := out_hM (es := 1) (k := 0) (l := strs all) (by intro e; have := congrArg List.length e; simp [strs, hal] at this) (strs_el all) (by omega) (strs_data all)
      rw [show (strs all).length = m + 1 by simp [strs, hal]] at h
      exact h
    have ad : binA .add (.int .i64 (done.length : Nat)) (.int .i64 1) = some (.int .i64 ((done.length + 1 : Nat) : Int)) := inc_i (by omega)
    generalize hL (spL done (0 + 1)) = q0 at *
    generalize hL all = q1 at *
    generalize AV.msl 0 0 (m + 1) 1 = s0 at *
    generalize AV.ptr 0 (0 + done.length * 1) = p0 at *
    exact goG 90 _  hT  (.no (show (decide ((↑done.length : Int) < (↑m : Int))) = false from decide_eq_false (show ¬ ((↑done.length : Int) < (↑m : Int)) from (by omega))) <| .idx (show idxA 1 s0 (AV.int .i64 (↑done.length : Int)) = some (p0) from x1) <| .effY (show Does cfg (AOp.store (1 : Nat) (Opd.c p0) (Opd.c (AV.str rest))) q0 AV.undef q1 from st) <| .bin (show binA .add (AV.int .i64 (↑done.length : Int)) (AV.int .i64 1) = some (AV.int .i64 (↑(done.length + (1 : Nat)) : Int)) from ad) <| .slice (show sliceA (1 : Nat) s0 none (some (AV.int .i64 (↑(done.length + (1 : Nat)) : Int))) none = some (s0) from s1) <| .fin ((ARes.ret s0, q1)) (by exact is_out ho)) (by kernel_rfl)
  | succ k ih =>
    intro rest done hk hl hc hp T hT
    have hc0 : ∃ a b, rest = a ++ c :: b ∧ c ∉ a := by
      cases hcut : cutAt c rest with
      | none => rw [count_no (cutAt_none hcut)] at hc; cases hc
      | some p =>
        obtain ⟨a, b⟩ := p
        obtain ⟨e, h⟩ := cutAt_some hcut
        exact ⟨a, b, e, h⟩
    obtain ⟨a, b, rfl, hno⟩ := hc0
    have hlen : a.length + b.length + 1 ≤ 1000 := by simpa [Nat.add_assoc] using hl
    rw [count_cut hno] at hc
    rw [parts_some hno] at hp
    have hix := index1 194 (a ++ c :: b) c rfl rfl
    rw [ib_at hno] at hix
    have ix := does_callW (H := hL (spL done (k + 1 + 1))) hix rfl rfl rfl
    have ix' : Does cfg (.callM (.c (.func 194 [])) [.c (.str (a ++ c :: b)), .c (.str [c])]) (hL (spL done (k + 1 + 1))) (.int .i64 (a.length : Nat)) (hL (spL done (k + 1 + 1))) := ix
    have st := storeL (spL done (k + 1 + 1)) done.length a (by simp [spL])
    rw [spL_set] at st
    have x1 : idxA 1 (.msl 0 0 (m + 1) 1) (.int .i64 (done.length : Nat)) = some (.ptr 0 (0 + done.length * 1)) := idx_msl (by omega)
    have h0 : binA .add (.int .i64 (a.length : Nat)) (.int .i64 0) = some (.int .i64 (a.length : Nat)) := by
      rw [addI (by omega) (by omega), Int.add_zero]
    have s1 : sliceA 0 (.str (a ++ c :: b)) none (some (.int .i64 (a.length : Nat))) none = some (.str a) := by
      rw [sstr_to (by simp)]; simp
    have s2 : sliceA 0 (.str (a ++ c :: b)) (some (.int .i64 ((a.length + 1 : Nat) : Int))) none none = some (.str b) := by
      rw [sstr_from (by simp), List.drop_append]; simp
    have ih' := ih b (done ++ [a]) (by simp; omega) (by omega) (by omega) (by simpa using hp)
    rw [show (done ++ [a]).length = done.length + 1 by simp] at ih'
    have hlt : done.length < m := by omega
    clear hc hp hix ix hk
    generalize hL (spL done (k + 1 + 1)) = q0 at *
    generalize hL (spL (done ++ [a]) (k + 1)) = q1 at *
    generalize AV.msl 0 0 (m + 1) 1 = s0 at *
    generalize AV.ptr 0 (0 + done.length * 1) = p0 at *
    exact goG 90 _  hT  (.yes (show (decide ((↑done.length : Int) < (↑m : Int))) = true from decide_eq_true (show (↑done.length : Int) < (↑m : Int) from (by omega))) <| .effY (show Does cfg (AOp.callM (Opd.c (AV.func (194 : FuncId) [])) [Opd.c (AV.str (a ++ c :: b)), Opd.c (AV.str [c])]) q0 (AV.int .i64 (↑a.length : Int)) q0 from ix') <| .ff <| .bin (show binA .add (AV.int .i64 (↑a.length : Int)) (AV.int .i64 0) = some (AV.int .i64 (↑a.length : Int)) from h0) <| .slice (show sliceA (0 : Nat) (AV.str (a ++ c :: b)) none (some (AV.int .i64 (↑a.length : Int))) none = some (AV.str a) from s1) <| .idx (show idxA 1 s0 (AV.int .i64 (↑done.length : Int)) = some (p0) from x1) <| .effY (show Does cfg (AOp.store (1 : Nat) (Opd.c p0) (Opd.c (AV.str a))) q0 AV.undef q1 from st) <| .len (show lenA true (AV.str [c]) = some (AV.int .i64 (↑[c].length : Int)) from len_str _) <| .bin (show binA .add (AV.int .i64 (↑a.length : Int)) (AV.int .i64 (↑[c].length : Int)) = some (AV.int .i64 (↑(a.length + (1 : Nat)) : Int)) from inc_i (by omega)) <| .slice (show sliceA (0 : Nat) (AV.str (a ++ c :: b)) (some (AV.int .i64 (↑(a.length + (1 : Nat)) : Int))) none none = some (AV.str b) from s2) <| .bin (show binA .add (AV.int .i64 (↑done.length : Int)) (AV.int .i64 1) = some (AV.int .i64 (↑(done.length + (1 : Nat)) : Int)) from inc_i (by omega)) <| .cutQ k148_0 [(0, AV.str b), (1, AV.str [c]), (2, AV.int .i64 0), (3, AV.int .i64 (↑m : Int)), (9, s0), (10, AV.int .i64 (↑(done.length + (1 : Nat)) : Int))] (q1) (fun T hT => (ih' T hT))) (by kernel_rfl)
theorem row_rep (n : Nat) : (List.replicate n ([AV.str []] : List AV)).flatten = List.replicate n (.str []) := by
  induction n with
  | zero => rfl
  | succ n ih => rw [List.replicate_succ, List.flatten_cons, ih]; rfl
theorem make_sp (n : Nat) (h : n ≤ 1001) : Does cfg (.makeM 1 16 [.str []] (.c (.int .i64 ((n + 1 : Nat) : Int)))) Heap.nil (.msl 0 0 (n + 1) 1) (hL (spL [] (n + 1))) := fun T => by
  have e : rowCells (strs (spL [] (n + 1))) = List.replicate (n + 1) (.str []) := by
    rw [strs_cells]; simp [strs, spL]
  have e2 : hL (spL [] (n + 1)) = ⟨[List.replicate (n + 1) (.str [])], [], []⟩ := by
    unfold hL hM
    rw [e]; rfl
  rw [e2]
  have e3 : makeA 1 16 [.str []] Heap.nil (.int .i64 ((n + 1 : Nat) : Int)) = some (.msl 0 0 (n + 1) 1, ⟨[List.replicate (n + 1) (.str [])], [], []⟩) := by
    simp only [makeA]
    rw [if_pos ⟨by omega, by rw [Int.toNat_natCast]; omega, rfl, by decide, rfl⟩, if_neg (by omega), Int.toNat_natCast, row_rep]
    rfl
  simp only [opStep, ev, e3]
theorem split_gen (s : List UInt8) (c : UInt8) (hl : s.length ≤ 1000) : GivesF cfg 148 [.str s, .str [c], .int .i64 0, .int .i64 (-1)] (.sl .sh (strs (parts c s))) := by
  refine GivesF.run (l148 _ _) ?_
  have hm := count_le s c
  have h := split_loop2 c (Lib.countByte s c) (by omega) (parts c s) (parts_count c _ s (Nat.le_refl _)) (Lib.countByte s c) s [] (by simp) hl rfl rfl
  have mk := make_sp (Lib.countByte s c) (by omega)
  have hcn : Gives cfg 193 [.str s, .str [c]] (.int .i64 (Lib.countByte s c : Nat)) := count1 s c
  have cn := does_callW (H := Heap.nil) hcn rfl rfl rfl
  have cn' : Does cfg (.callM (.c (.func 193 [])) [.c (.str s), .c (.str [c])]) Heap.nil (.int .i64 (Lib.countByte s c : Nat)) Heap.nil := cn
  generalize Lib.countByte s c = m at *
  have a1 : binA .add (.int .i64 (m : Nat)) (.int .i64 1) = some (.int .i64 ((m + 1 : Nat) : Int)) := inc_i (by omega)
  have a2 : binA .add (.int .i64 (s.length : Nat)) (.int .i64 1) = some (.int .i64 ((s.length + 1 : Nat) : Int)) := inc_i (by omega)
  have a4 : binA .sub (.int .i64 ((m + 1 : Nat) : Int)) (.int .i64 1) = some (.int .i64 (m : Int)) := dec_i (by omega)
  rw [show ([] : List (List UInt8)).length = 0 from rfl] at h
  generalize hL (spL [] (m + 1)) = q0 at *
  generalize AV.msl 0 0 (m + 1) 1 = s0 at *
  generalize hx : ((m + 1 : Nat) : Int) = m1 at *
  have e : (if false = true then (if ((s.length + 1 : Nat) : Int) > m1 then ((s.length + 1 : Nat) : Int) else m1) else if ((s.length + 1 : Nat) : Int) < m1 then ((s.length + 1 : Nat) : Int) else m1) = m1 := by
    rw [if_neg (by decide)]; exact if_neg (by omega)
  have mk' : Does cfg (.makeM 1 16 [.str []] (.c (.int .i64 (if false = true then (if ((s.length + 1 : Nat) : Int) > m1 then ((s.length + 1 : Nat) : Int) else m1) else if ((s.length + 1 : Nat) : Int) < m1 then ((s.length + 1 : Nat) : Int) else m1)))) Heap.nil s0 q0 := by rw [e]; exact mk
  have a4' : binA .sub (.int .i64 (if false = true then (if ((s.length + 1 : Nat) : Int) > m1 then ((s.length + 1 : Nat) : Int) else m1) else if ((s.length + 1 : Nat) : Int) < m1 then ((s.length + 1 : Nat) : Int) else m1)) (.int .i64 1) = some (.int .i64 (m : Int)) := by rw [e]; exact a4
  clear e mk a4
  exact goG 90 []  trivial  (.ff <| .ff <| .tt <| .effY (show Does cfg (AOp.callM (Opd.c (AV.func (193 : FuncId) [])) [Opd.c (AV.str s), Opd.c (AV.str [c])]) Heap.nil (AV.int .i64 (↑m : Int)) Heap.nil from cn') <| .bin (show binA .add (AV.int .i64 (↑m : Int)) (AV.int .i64 1) = some (AV.int .i64 m1) from a1) <| .len (show lenA true (AV.str s) = some (AV.int .i64 (↑s.length : Int)) from len_str _) <| .bin (show binA .add (AV.int .i64 (↑s.length : Int)) (AV.int .i64 1) = some (AV.int .i64 (↑(s.length + (1 : Nat)) : Int)) from a2) <| .effY (show Does cfg (AOp.makeM (1 : Nat) (16 : Nat) [AV.str []] (Opd.c (AV.int .i64 (if false = true then if (↑(s.length + (1 : Nat)) : Int) > m1 then (↑(s.length + (1 : Nat)) : Int) else m1 else if (↑(s.length + (1 : Nat)) : Int) < m1 then (↑(s.length + (1 : Nat)) : Int) else m1)))) Heap.nil s0 q0 from mk') <| .bin (show binA .sub (AV.int .i64 (if false = true then if (↑(s.length + (1 : Nat)) : Int) > m1 then (↑(s.length + (1 : Nat)) : Int) else m1 else if (↑(s.length + (1 : Nat)) : Int) < m1 then (↑(s.length + (1 : Nat)) : Int) else m1)) (AV.int .i64 1) = some (AV.int .i64 (↑m : Int)) from a4') <| .cutQ k148_0 [(0, AV.str s), (1, AV.str [c]), (2, AV.int .i64 0), (3, AV.int .i64 (↑m : Int)), (9, s0), (10, AV.int .i64 0)] (q0) (fun T hT => (h T hT))) (by kernel_rfl)
theorem split_any (s : List UInt8) (c : UInt8) (hl : s.length ≤ 1000) : Gives cfg 93 [.str s, .str [c]] (.sl .sh (strs (parts c s))) := by
  refine Gives.run (l93 _ _) ?_
  have h := does_callF (split_gen s c hl) rfl rfl Heap.nil
  have h' : Does cfg (.call (.c (.func 148 [])) [.c (.str s), .c (.str [c]), .c (.int .i64 0), .c (.int .i64 (-1))]) Heap.nil (.sl .sh (strs (parts c s))) Heap.nil := h
  exact goG 60 []  trivial  (.effY (show Does cfg (AOp.call (Opd.c (AV.func (148 : FuncId) [])) [Opd.c (AV.str s), Opd.c (AV.str [c]), Opd.c (AV.int .i64 0), Opd.c (AV.int .i64 (-1 : Int))]) Heap.nil (AV.sl .sh (strs (parts c s))) Heap.nil from h') <| .fin ((ARes.ret (AV.sl .sh (strs (parts c s))), { boxes := [], toks := [], loops := [] : Heap })) rfl) (by kernel_rfl)
end Go.Aa.T

set_option linter.unusedVariables false
set_option linter.unusedSimpArgs false
set_option maxRecDepth 100000
namespace Go.Aa.T
open Go.Aa Go.Proofs
def formA (w : List UInt8) : Option (List UInt8 × List UInt8) := match cutAt 61 w with
  | some (k, v) => if digB v = true then some (k, v) else none
  | none => none
def allA : List (List UInt8) → Option (List (List UInt8 × List UInt8))
  | [] => some []
  | w :: ws => match formA w with
    | none => none
    | some kv => match allA ws with
      | none => none
      | some l => some (kv :: l)
def amtA (kv : List UInt8 × List UInt8) : Amount := ⟨kv.1, (valN 0 kv.2 : Int)⟩
def tooA (kv : List UInt8 × List UInt8) : Bool := decide (9223372036854775808 ≤ valN 0 kv.2)
def readA (s : List UInt8) : List Amount × Int := if s = [45] then ([], 0) else match allA (parts 44 s) with
  | none => ([], 2)
  | some l => if l.any tooA then ([], 5) else if ckV (l.map amtA) = 0 then (l.map amtA, 0) else ([], ckV (l.map amtA))
theorem dig_all {v : List UInt8} (h : digB v = true) : v.all isDig = true := by
  simp only [digB, Bool.and_eq_true] at h; exact h.1.2
theorem form_some {w : List UInt8} {kv : List UInt8 × List UInt8} (h : formA w = some kv) : w = kv.1 ++ 61 :: kv.2 ∧ parts 61 w = [kv.1, kv.2] ∧ digB kv.2 = true := by
  unfold formA at h
  split at h
  · rename_i k v hc
    split at h
    · rename_i hd
      cases h
      obtain ⟨rfl, hm⟩ := cutAt_some hc
      have h2 : (61 : UInt8) ∉ v := dig_no (dig_all hd) rfl
      exact ⟨rfl, by rw [parts_some hm, parts_none h2], hd⟩
    · cases h
  · cases h
theorem all_some {ps : List (List UInt8)} {l : List (List UInt8 × List UInt8)} : allA ps = some l → l.length = ps.length ∧ ∀ p ∈ l, digB p.2 = true ∧ ∃ w ∈ ps, p.2.length ≤ w.length := by
  induction ps generalizing l with
  | nil => intro h; cases h; simp
  | cons w ws ih =>
    intro h
    simp only [allA] at h
    cases hf : formA w with
    | none => rw [hf] at h; cases h
    | some kv =>
      rw [hf] at h
      cases ha : allA ws with
      | none => rw [ha] at h; cases h
      | some l' =>
        rw [ha] at h
        cases h
        obtain ⟨h1, h2⟩ := ih ha
        obtain ⟨e1, -, e3⟩ := form_some hf
        refine ⟨by simp [h1], fun p hp => ?_⟩
        rcases List.mem_cons.1 hp with rfl | hp
        · exact ⟨e3, w, by simp, by rw [e1]; simp; omega⟩
        · obtain ⟨a, w', b, c⟩ := h2 p hp
          exact ⟨a, w', by simp [b], c⟩
end Go.Aa.T

set_option linter.unusedVariables false
set_option linter.unusedSimpArgs false
set_option maxRecDepth 100000
namespace Go.Aa.T
open Go.Aa Go.Proofs
section
variable {α : Type} (o0 o1 o2 : α → List AV) (tk : α → List Nat) (rc : LRec) (v : AV) (I : α → Nat → Prop)
def hS3 (a : α) (rest : List UInt8) : Heap := ⟨[o0 a, o1 a, o2 a, [.str rest], [.str [44]], [.int .i64 0]], tk a, [rc]⟩
def hB3 (a : α) (rest : List UInt8) : Heap := ⟨[o0 a, o1 a, o2 a, [.str rest], [.str [44]], [.int .i64 0]], tk a, [{ rc with busy := true }]⟩
def SeqR3 (f : α → List UInt8 → Option α) (a : α) (rest : List UInt8) (r : ARes × Heap) : Prop := match foldE f a (parts 44 rest) with
  | some a' => ∃ last, r = (.ret (.tuple []), hS3 o0 o1 o2 tk rc a' last)
  | none => ∃ a' last, r = (.pan v, hB3 o0 o1 o2 tk rc a' last)
theorem seq_run3 (f : α → List UInt8 → Option α) (hI : ∀ a x a' m, I a (x.length + 1 + m) → f a x = some a' → I a' m)
    (hy : ∀ a p rest a', p.length ≤ 1000 → I a rest.length → f a p = some a' → Does cfg (.call (.c (.yield 0)) [.c (.str p)]) (hS3 o0 o1 o2 tk rc a rest) (.bool true) (hS3 o0 o1 o2 tk rc a' rest))
    (hn : ∀ a p rest, p.length ≤ 1000 → I a rest.length → f a p = none → DoesP cfg (.call (.c (.yield 0)) [.c (.str p)]) (hS3 o0 o1 o2 tk rc a rest) v (hB3 o0 o1 o2 tk rc a rest)) :
    ∀ (n : Nat) (rest : List UInt8) (hr : rest.length ≤ n) (hl : rest.length ≤ 1000) (a : α) (ha : I a rest.length) (T : Env) (hT : Has T [(0, .yield 0), (1, .ptr 4 0), (2, .ptr 3 0), (3, .ptr 5 0)]),
      Goes cfg a226 k226_1 T (hS3 o0 o1 o2 tk rc a rest) (SeqR3 o0 o1 o2 tk rc v f a rest) := by
  intro n
  induction n with
  | zero =>
    intro rest hr hl a ha T hT
    have e : rest = [] := List.length_eq_zero_iff.1 (by omega)
    subst e
    have hi : Gives cfg 194 [.str [], .str [44]] (.int .i64 (-1)) := index1 194 [] 44 rfl rfl
    cases hf : f a [] with
    | some a' =>
      have hd := hy a [] [] a' (by simp) ha hf
      have key : Goes cfg a226 k226_1 T (hS3 o0 o1 o2 tk rc a []) (fun r => r = (.ret (.tuple []), hS3 o0 o1 o2 tk rc a' [])) := by
        exact goG 60 _  hT  (.callG ([AV.str [], AV.str [(44 : UInt8)]]) (AV.int .i64 (-1 : Int)) (show Gives cfg (194 : FuncId) [AV.str [], AV.str [(44 : UInt8)]] (AV.int .i64 (-1 : Int)) from hi) ⟨rfl, rfl⟩ ⟨rfl, rfl⟩ <| .tt <| .effY (show Does cfg (AOp.call (Opd.c (AV.yield (0 : Nat))) [Opd.c (AV.str [])]) (hS3 o0 o1 o2 tk rc a []) (AV.bool true) (hS3 o0 o1 o2 tk rc a' []) from hd) <| .fin ((ARes.ret (AV.tuple []), { boxes := [o0 a', o1 a', o2 a', [AV.str []], [AV.str [(44 : UInt8)]], [AV.int .i64 0]], toks := tk a', loops := [rc] : Heap })) rfl) (by kernel_rfl)
      refine Goes.imp key ?_
      rintro r rfl
      simp only [SeqR3, parts, foldE, hf]
      exact ⟨_, rfl⟩
    | none =>
      have hd := hn a [] [] (by simp) ha hf
      have key : Goes cfg a226 k226_1 T (hS3 o0 o1 o2 tk rc a []) (fun r => r = (.pan v, hB3 o0 o1 o2 tk rc a [])) := by
        exact goG 60 _  hT  (.callG ([AV.str [], AV.str [(44 : UInt8)]]) (AV.int .i64 (-1 : Int)) (show Gives cfg (194 : FuncId) [AV.str [], AV.str [(44 : UInt8)]] (AV.int .i64 (-1 : Int)) from hi) ⟨rfl, rfl⟩ ⟨rfl, rfl⟩ <| .tt <| .panY (show DoesP cfg (AOp.call (Opd.c (AV.yield (0 : Nat))) [Opd.c (AV.str [])]) (hS3 o0 o1 o2 tk rc a []) v (hB3 o0 o1 o2 tk rc a []) from hd) rfl) (by kernel_rfl)
      refine Goes.imp key ?_
      rintro r rfl
      simp only [SeqR3, parts, foldE, hf]
      exact ⟨_, _, rfl⟩
  | succ n ih =>
    intro rest hr hl a ha T hT
    cases hc : cutAt 44 rest with
    | none =>
      have hm := cutAt_none hc
      have hi : Gives cfg 194 [.str rest, .str [44]] (.int .i64 (-1)) := by
        have := index1 194 rest 44 rfl rfl
        rwa [ib_none hm] at this
      have ep := parts_none hm
      cases hf : f a rest with
      | some a' =>
        have hd := hy a rest rest a' hl ha hf
        have key : Goes cfg a226 k226_1 T (hS3 o0 o1 o2 tk rc a rest) (fun r => r = (.ret (.tuple []), hS3 o0 o1 o2 tk rc a' rest)) := by
          exact goG 60 _  hT  (.callG ([AV.str rest, AV.str [(44 : UInt8)]]) (AV.int .i64 (-1 : Int)) (show Gives cfg (194 : FuncId) [AV.str rest, AV.str [(44 : UInt8)]] (AV.int .i64 (-1 : Int)) from hi) ⟨rfl, rfl⟩ ⟨rfl, rfl⟩ <| .tt <| .effY (show Does cfg (AOp.call (Opd.c (AV.yield (0 : Nat))) [Opd.c (AV.str rest)]) (hS3 o0 o1 o2 tk rc a rest) (AV.bool true) (hS3 o0 o1 o2 tk rc a' rest) from hd) <| .fin ((ARes.ret (AV.tuple []), { boxes := [o0 a', o1 a', o2 a', [AV.str rest], [AV.str [(44 : UInt8)]], [AV.int .i64 0]], toks := tk a', loops := [rc] : Heap })) rfl) (by kernel_rfl)
        refine Goes.imp key ?_
        rintro r rfl
        simp only [SeqR3, ep, foldE, hf]
        exact ⟨_, rfl⟩
      | none =>
        have hd := hn a rest rest hl ha hf
        have key : Goes cfg a226 k226_1 T (hS3 o0 o1 o2 tk rc a rest) (fun r => r = (.pan v, hB3 o0 o1 o2 tk rc a rest)) := by
          exact goG 60 _  hT  (.callG ([AV.str rest, AV.str [(44 : UInt8)]]) (AV.int .i64 (-1 : Int)) (show Gives cfg (194 : FuncId) [AV.str rest, AV.str [(44 : UInt8)]] (AV.int .i64 (-1 : Int)) from hi) ⟨rfl, rfl⟩ ⟨rfl, rfl⟩ <| .tt <| .panY (show DoesP cfg (AOp.call (Opd.c (AV.yield (0 : Nat))) [Opd.c (AV.str rest)]) (hS3 o0 o1 o2 tk rc a rest) v (hB3 o0 o1 o2 tk rc a rest) from hd) rfl) (by kernel_rfl)
        refine Goes.imp key ?_
        rintro r rfl
        simp only [SeqR3, ep, foldE, hf]
        exact ⟨_, _, rfl⟩
    | some p =>
      obtain ⟨x, y⟩ := p
      obtain ⟨rfl, hm⟩ := cutAt_some hc
      have hi : Gives cfg 194 [.str (x ++ 44 :: y), .str [44]] (.int .i64 (x.length : Nat)) := by
        have := index1 194 (x ++ 44 :: y) 44 rfl rfl
        rwa [ib_at hm] at this
      have ep : parts 44 (x ++ 44 :: y) = x :: parts 44 y := parts_some hm
      have hlx : x.length + y.length + 1 ≤ 1000 := by simpa [Nat.add_assoc] using hl
      have hry : y.length ≤ n := by
        have : x.length + (y.length + 1) ≤ n + 1 := by simpa using hr
        omega
      have h0 : binA .add (.int .i64 (x.length : Nat)) (.int .i64 0) = some (.int .i64 (x.length : Nat)) := by
        rw [addI (by omega) (by omega), Int.add_zero]
      have s1 : sliceA 0 (.str (x ++ 44 :: y)) none (some (.int .i64 (x.length : Nat))) none = some (.str x) := by
        rw [sstr_to (by simp)]; simp
      have s2 : sliceA 0 (.str (x ++ 44 :: y)) (some (.int .i64 ((x.length + 1 : Nat) : Int))) none none = some (.str y) := by
        rw [sstr_from (by simp), List.drop_append]; simp
      cases hf : f a x with
      | some a' =>
        have hd := hy a x (x ++ 44 :: y) a' (by omega) ha hf
        have e : SeqR3 o0 o1 o2 tk rc v f a (x ++ 44 :: y) = SeqR3 o0 o1 o2 tk rc v f a' y := by
          funext r
          simp only [SeqR3, ep, foldE, hf]
        rw [e]
        have ha2 : I a' y.length := hI a x a' y.length (by simpa [Nat.add_assoc, Nat.add_comm 1] using ha) hf
        have ih2 := ih y hry (by omega) a' ha2
        exact goG 60 _  hT  (.callG ([AV.str (x ++ (44 : UInt8) :: y), AV.str [(44 : UInt8)]]) (AV.int .i64 (↑x.length : Int)) (show Gives cfg (194 : FuncId) [AV.str (x ++ (44 : UInt8) :: y), AV.str [(44 : UInt8)]] (AV.int .i64 (↑x.length : Int)) from hi) ⟨rfl, rfl⟩ ⟨rfl, rfl⟩ <| .ff <| .bin (show binA .add (AV.int .i64 (↑x.length : Int)) (AV.int .i64 0) = some (AV.int .i64 (↑x.length : Int)) from h0) <| .slice (show sliceA (0 : Nat) (AV.str (x ++ (44 : UInt8) :: y)) none (some (AV.int .i64 (↑x.length : Int))) none = some (AV.str x) from s1) <| .effY (show Does cfg (AOp.call (Opd.c (AV.yield (0 : Nat))) [Opd.c (AV.str x)]) (hS3 o0 o1 o2 tk rc a (x ++ (44 : UInt8) :: y)) (AV.bool true) (hS3 o0 o1 o2 tk rc a' (x ++ (44 : UInt8) :: y)) from hd) <| .ff <| .len (show lenA true (AV.str [(44 : UInt8)]) = some (AV.int .i64 (↑[(44 : UInt8)].length : Int)) from len_str _) <| .bin (show binA .add (AV.int .i64 (↑x.length : Int)) (AV.int .i64 (↑[(44 : UInt8)].length : Int)) = some (AV.int .i64 (↑(x.length + (1 : Nat)) : Int)) from inc_i (by omega)) <| .slice (show sliceA (0 : Nat) (AV.str (x ++ (44 : UInt8) :: y)) (some (AV.int .i64 (↑(x.length + (1 : Nat)) : Int))) none none = some (AV.str y) from s2) <| .cutQ k226_1 [(0, AV.yield (0 : Nat)), (1, AV.ptr 4 0), (2, AV.ptr 3 0), (3, AV.ptr 5 0)] ({ boxes := [o0 a', o1 a', o2 a', [AV.str y], [AV.str [(44 : UInt8)]], [AV.int .i64 0]], toks := tk a', loops := [rc] : Heap }) (fun T hT => (ih2 T hT))) (by kernel_rfl)
      | none =>
        have hd := hn a x (x ++ 44 :: y) (by omega) ha hf
        have key : Goes cfg a226 k226_1 T (hS3 o0 o1 o2 tk rc a (x ++ 44 :: y)) (fun r => r = (.pan v, hB3 o0 o1 o2 tk rc a (x ++ 44 :: y))) := by
          exact goG 60 _  hT  (.callG ([AV.str (x ++ (44 : UInt8) :: y), AV.str [(44 : UInt8)]]) (AV.int .i64 (↑x.length : Int)) (show Gives cfg (194 : FuncId) [AV.str (x ++ (44 : UInt8) :: y), AV.str [(44 : UInt8)]] (AV.int .i64 (↑x.length : Int)) from hi) ⟨rfl, rfl⟩ ⟨rfl, rfl⟩ <| .ff <| .bin (show binA .add (AV.int .i64 (↑x.length : Int)) (AV.int .i64 0) = some (AV.int .i64 (↑x.length : Int)) from h0) <| .slice (show sliceA (0 : Nat) (AV.str (x ++ (44 : UInt8) :: y)) none (some (AV.int .i64 (↑x.length : Int))) none = some (AV.str x) from s1) <| .panY (show DoesP cfg (AOp.call (Opd.c (AV.yield (0 : Nat))) [Opd.c (AV.str x)]) (hS3 o0 o1 o2 tk rc a (x ++ (44 : UInt8) :: y)) v (hB3 o0 o1 o2 tk rc a (x ++ (44 : UInt8) :: y)) from hd) rfl) (by kernel_rfl)
        refine Goes.imp key ?_
        rintro r rfl
        simp only [SeqR3, ep, foldE, hf]
        exact ⟨_, _, rfl⟩
theorem seq_call3 (f : α → List UInt8 → Option α) (hI : ∀ a x a' m, I a (x.length + 1 + m) → f a x = some a' → I a' m)
    (hy : ∀ a p rest a', p.length ≤ 1000 → I a rest.length → f a p = some a' → Does cfg (.call (.c (.yield 0)) [.c (.str p)]) (hS3 o0 o1 o2 tk rc a rest) (.bool true) (hS3 o0 o1 o2 tk rc a' rest))
    (hn : ∀ a p rest, p.length ≤ 1000 → I a rest.length → f a p = none → DoesP cfg (.call (.c (.yield 0)) [.c (.str p)]) (hS3 o0 o1 o2 tk rc a rest) v (hB3 o0 o1 o2 tk rc a rest))
    (rest : List UInt8) (hl : rest.length ≤ 1000) (a : α) (ha : I a rest.length) : ∃ r, lim cfg (.fn 226) [.yield 0, .ptr 4 0, .ptr 3 0, .ptr 5 0] (hS3 o0 o1 o2 tk rc a rest) = some r ∧ SeqR3 o0 o1 o2 tk rc v f a rest r := by
  rw [l226]
  have h := seq_run3 o0 o1 o2 tk rc v I f hI hy hn rest.length rest (Nat.le_refl _) hl a ha
  have key : Goes cfg a226 [.c c226] (initEnv [.yield 0, .ptr 4 0, .ptr 3 0, .ptr 5 0]) (hS3 o0 o1 o2 tk rc a rest) (SeqR3 o0 o1 o2 tk rc v f a rest) := by
    exact goG 60 []  trivial  (.len (show lenA true (AV.str [(44 : UInt8)]) = some (AV.int .i64 (↑[(44 : UInt8)].length : Int)) from len_str _) <| .ff <| .cutQ k226_1 [(0, AV.yield (0 : Nat)), (1, AV.ptr 4 0), (2, AV.ptr 3 0), (3, AV.ptr 5 0)] ({ boxes := [o0 a, o1 a, o2 a, [AV.str rest], [AV.str [(44 : UInt8)]], [AV.int .i64 0]], toks := tk a, loops := [rc] : Heap }) (fun T hT => (h T hT))) (by kernel_rfl)
  exact key
end
end Go.Aa.T

set_option linter.unusedVariables false
set_option linter.unusedSimpArgs false
set_option maxRecDepth 100000
namespace Go.Aa.T
open Go.Aa Go.Proofs
abbrev AcA := List Amount × Int
def amtC (kv : List UInt8 × List UInt8) : Amount := ⟨kv.1, (numA kv.2).1⟩
def collectA (a : AcA) (p : List UInt8) : Option AcA := (formA p).map fun kv => (a.1 ++ [amtC kv], if (numA kv.2).2 > a.2 then (numA kv.2).2 else a.2)
section
variable (s0 : List UInt8)
def oA0 (_ : AcA) : List AV := [.str s0]
def oA1 (a : AcA) : List AV := [rowF encA a.1]
def oA2 (a : AcA) : List AV := [.int .i64 a.2]
def tkA (a : AcA) : List Nat := tkR encA a.1
theorem trA (rc : LRec) (h1 : rc.nb = 6) (h2 : rc.nt = 0) (acc : AcA) (rest : List UInt8) (n : Nat) (hn : n ≤ 1) (h0 : n = 1 → acc.1 ≠ []) (v : AV) (hv : within 6 n v = true) :
    trunc 6 n v ⟨[oA0 s0 acc, oA1 acc, oA2 acc, [.str rest], [.str [44]], [.int .i64 0]], tkA acc, [rc]⟩ = ⟨[oA0 s0 acc, oA1 acc, oA2 acc, [.str rest], [.str [44]], [.int .i64 0]], tkA acc, [rc]⟩ := by
  have hb : ∀ (b : Bool) (l : List (List AV)), l.length = 6 → (if b = true then l.take 6 else l) = l := fun b l hl => by
    split
    · exact List.take_of_length_le (by omega)
    · rfl
  obtain ⟨acc, ov⟩ := acc
  unfold trunc
  simp only
  rw [hb _ _ rfl]
  simp only [Heap.mk.injEq, true_and, and_true]
  cases acc with
  | nil => simp [tkA, tk_nil]
  | cons x l =>
    simp only [tkA]
    rw [tk_cons]
    rcases Nat.lt_or_ge n 1 with h | h
    · have : n = 0 := by omega
      subst this
      have hf : (([oA0 s0 (x :: l, ov), oA1 (x :: l, ov), oA2 (x :: l, ov), [.str rest], [.str [44]], [.int .i64 0]] : List (List AV)).all fun x_1 => x_1.all (in2 ([oA0 s0 (x :: l, ov), oA1 (x :: l, ov), oA2 (x :: l, ov), [.str rest], [.str [44]], [.int .i64 0]] : List (List AV)).length 0)) = false := rfl
      rw [hf]
      simp
    · have : n = 1 := by omega
      subst this
      split <;> rfl
theorem numA_form {v : List UInt8} (h : digB v = true) : (numA v).2 ≠ 2 := by
  unfold numA
  rw [if_pos h]
  split <;> simp
theorem ylA (rc : LRec) (T0 : Env) (hT0 : rc.T = T0) (hps : rc.ps = [11]) (has : rc.assign = ra149_0) (hbd : rc.body = rb149_0) (hbu : rc.busy = false) (h1 : rc.nb = 6) (h2 : rc.nt = 0) (hT : Has T0 [(1, .ptr 1 0), (2, .ptr 2 0)])
    (acc : AcA) (p rest : List UInt8) (acc' : AcA) (hl : p.length ≤ 1000) (hacc : acc.1.length ≤ 100000) (hf : collectA acc p = some acc') :
    Does cfg (.call (.c (.yield 0)) [.c (.str p)]) (hS3 (oA0 s0) oA1 oA2 tkA rc acc rest) (.bool true) (hS3 (oA0 s0) oA1 oA2 tkA rc acc' rest) := by
  unfold collectA at hf
  simp only [Option.map_eq_some_iff] at hf
  obtain ⟨kv, hkv, rfl⟩ := hf
  obtain ⟨k, v⟩ := kv
  obtain ⟨e1, -, e3⟩ := form_some hkv
  simp only at e1 e3
  obtain ⟨l, ov⟩ := acc
  have hm : (61 : UInt8) ∉ k := by
    unfold formA at hkv
    split at hkv
    · rename_i k' v' hc
      split at hkv
      · simp only [Option.some.injEq, Prod.mk.injEq] at hkv
        obtain ⟨rfl, rfl⟩ := hkv
        exact (cutAt_some hc).2
      · cases hkv
    · cases hkv
  subst e1
  have hlen : k.length + v.length ≤ 1000 := by simp at hl; omega
  have hcut := cut_hit k v 61 hm hlen
  have hnum := num_any v (by omega)
  have hne := numA_form e3
  have key : Goes cfg roundA [.c rb149_0] (upd (psetA T0 [11] [.str (k ++ 61 :: v)]) 3 (.str (k ++ 61 :: v))) (hB3 (oA0 s0) oA1 oA2 tkA rc (l, ov) rest) (fun r => r = (.ret (.tuple []), hB3 (oA0 s0) oA1 oA2 tkA rc (l ++ [amtC (k, v)], if (numA v).2 > ov then (numA v).2 else ov) rest)) := by
    have hT' : Has (upd (psetA T0 [11] [.str (k ++ 61 :: v)]) 3 (.str (k ++ 61 :: v))) [(1, .ptr 1 0), (2, .ptr 2 0), (3, .str (k ++ 61 :: v))] := ⟨hT.1, hT.2.1, rfl, trivial⟩
    have ap : ∀ bs ls, appendA 2 24 ⟨bs, tkR encA l, ls⟩ (rowF encA l) (.sl .full [.agg [.str k, .int .i64 (numA v).1]]) = some (rowF encA (l ++ [amtC (k, v)]), ⟨bs, tkR encA (l ++ [amtC (k, v)]), ls⟩) := fun bs ls =>
      row_append_T encA (x := amtC (k, v)) (by simp; simp at hacc; omega) lenA2 rfl rfl
    exact goG 90 _  hT'  (.callG ([AV.str (k ++ (61 : UInt8) :: v), AV.str [(61 : UInt8)]]) (AV.tuple [AV.str k, AV.str v, AV.bool true]) (show Gives cfg (151 : FuncId) [AV.str (k ++ (61 : UInt8) :: v), AV.str [(61 : UInt8)]] (AV.tuple [AV.str k, AV.str v, AV.bool true]) from hcut) ⟨rfl, rfl⟩ ⟨rfl, rfl⟩ <| .callG ([AV.str v]) (AV.tuple [AV.int .i64 (numA v).fst, AV.int .i64 (numA v).snd]) (show Gives cfg (152 : FuncId) [AV.str v] (AV.tuple [AV.int .i64 (numA v).fst, AV.int .i64 (numA v).snd]) from hnum) ⟨rfl, rfl⟩ ⟨rfl, rfl⟩ <| .ff <| .no (show ((numA v).snd == (2 : Int)) = false from Bool.eq_false_iff.2 (show ¬ (((numA v).snd == (2 : Int)) = true) from (by simpa using hne))) <| .append (show appendA (2 : Nat) (24 : Nat) { boxes := [[AV.str s0], [AV.sl (skF (l, ov).fst) (List.map encA (l, ov).fst)], [AV.int .i64 (if true = true then if (numA v).snd > (l, ov).snd then (numA v).snd else (l, ov).snd else if (numA v).snd < (l, ov).snd then (numA v).snd else (l, ov).snd)], [AV.str rest], [AV.str [(44 : UInt8)]], [AV.int .i64 0]], toks := tkA (l, ov), loops := [{ A := rc.A, T := rc.T, ps := rc.ps, assign := rc.assign, body := rc.body, busy := true, nb := rc.nb, nt := rc.nt, nl := rc.nl : LRec }] : Heap } (AV.sl (skF (l, ov).fst) (List.map encA (l, ov).fst)) (AV.sl .full [AV.agg [AV.str k, AV.int .i64 (numA v).fst]]) = some ((rowF encA (l ++ [amtC (k, v)]), { boxes := [[AV.str s0], [AV.sl (skF (l, ov).fst) (List.map encA (l, ov).fst)], [AV.int .i64 (if true = true then if (numA v).snd > (l, ov).snd then (numA v).snd else (l, ov).snd else if (numA v).snd < (l, ov).snd then (numA v).snd else (l, ov).snd)], [AV.str rest], [AV.str [(44 : UInt8)]], [AV.int .i64 0]], toks := tkR encA (l ++ [amtC (k, v)]), loops := [{ A := rc.A, T := rc.T, ps := rc.ps, assign := rc.assign, body := rc.body, busy := true, nb := rc.nb, nt := rc.nt, nl := rc.nl : LRec }] : Heap })) from ap _ _) <| .fin ((ARes.ret (AV.tuple []), { boxes := [[AV.str s0], [AV.sl (skF (l ++ [amtC (k, v)])) (List.map encA (l ++ [amtC (k, v)]))], [AV.int .i64 (if true = true then if (numA v).snd > (l, ov).snd then (numA v).snd else (l, ov).snd else if (numA v).snd < (l, ov).snd then (numA v).snd else (l, ov).snd)], [AV.str rest], [AV.str [(44 : UInt8)]], [AV.int .i64 0]], toks := tkR encA (l ++ [amtC (k, v)]), loops := [{ A := rc.A, T := rc.T, ps := rc.ps, assign := rc.assign, body := rc.body, busy := true, nb := rc.nb, nt := rc.nt, nl := rc.nl : LRec }] : Heap })) rfl) (by kernel_rfl)
  obtain ⟨r, hr, rfl⟩ := key
  have hrun : runL cfg roundA [.c rc.assign, .beg 0, .c rc.body] (psetA rc.T rc.ps [.str (k ++ 61 :: v)]) (hS3 (oA0 s0) oA1 oA2 tkA rc (l, ov) rest) = some (.ret (.tuple []), hB3 (oA0 s0) oA1 oA2 tkA rc (l ++ [amtC (k, v)], if (numA v).2 > ov then (numA v).2 else ov) rest) := by
    rw [hT0, hps, has, hbd]
    rw [show (ra149_0 : ACode) = .region [⟨some 3, .mov (.t 11), none, []⟩] false from rfl, runL_assign, runL_beg (r := rc) rfl hbu]
    exact hr
  have h3 := yl_ret (cfg := cfg) (l := 0) (args := [.str (k ++ 61 :: v)]) (r := rc) (r' := { rc with busy := true }) rfl (by rw [hps]; rfl) hrun rfl
  have e1 : ({ ({ rc with busy := true } : LRec) with busy := false } : LRec) = rc := by cases rc; simp only at hbu; subst hbu; rfl
  have h4 := does_yield h3 rfl
  refine Eq.mp ?_ h4
  congr 1
  generalize hov : (if (numA v).2 > ov then (numA v).2 else ov) = ov'
  show trunc 6 (tkA (l, ov)).length (.bool true) ⟨[oA0 s0 (l ++ [amtC (k, v)], ov'), oA1 (l ++ [amtC (k, v)], ov'), oA2 (l ++ [amtC (k, v)], ov'), [.str rest], [.str [44]], [.int .i64 0]], tkA (l ++ [amtC (k, v)], ov'), [{ ({ rc with busy := true } : LRec) with busy := false }]⟩ = _
  rw [e1]
  have ht := trA s0 rc h1 h2 (l ++ [amtC (k, v)], ov') rest (tkA (l, ov)).length (by cases l with
    | nil => simp [tkA, tk_nil]
    | cons y l => simp [tkA, tk_cons]) (fun _ => by simp) (.bool true) rfl
  rw [ht]
  subst hov
  rfl
theorem ynA (rc : LRec) (T0 : Env) (hT0 : rc.T = T0) (hps : rc.ps = [11]) (has : rc.assign = ra149_0) (hbd : rc.body = rb149_0) (hbu : rc.busy = false) (h1 : rc.nb = 6) (h2 : rc.nt = 0) (hT : Has T0 [(1, .ptr 1 0), (2, .ptr 2 0)])
    (acc : AcA) (p rest : List UInt8) (hl : p.length ≤ 1000) (hf : collectA acc p = none) :
    DoesP cfg (.call (.c (.yield 0)) [.c (.str p)]) (hS3 (oA0 s0) oA1 oA2 tkA rc acc rest) (stopV 2) (hB3 (oA0 s0) oA1 oA2 tkA rc acc rest) := by
  have hs : Pans cfg 94 [.int .i64 2] (stopV 2) := stop_pan (by decide)
  have key : Goes cfg roundA [.c rb149_0] (upd (psetA T0 [11] [.str p]) 3 (.str p)) (hB3 (oA0 s0) oA1 oA2 tkA rc acc rest) (fun r => r = (.pan (stopV 2), hB3 (oA0 s0) oA1 oA2 tkA rc acc rest)) := by
    have hT' : Has (upd (psetA T0 [11] [.str p]) 3 (.str p)) [(1, .ptr 1 0), (2, .ptr 2 0), (3, .str p)] := ⟨hT.1, hT.2.1, rfl, trivial⟩
    cases hc : cutAt 61 p with
    | none =>
      have hcut := cut_miss p 61 (cutAt_none hc)
      have hnum : Gives cfg 152 [.str []] (.tuple [.int .i64 0, .int .i64 2]) := num_any [] (by simp)
      exact goG 90 _  hT'  (.callG ([AV.str p, AV.str [(61 : UInt8)]]) (AV.tuple [AV.str p, AV.str [], AV.bool false]) (show Gives cfg (151 : FuncId) [AV.str p, AV.str [(61 : UInt8)]] (AV.tuple [AV.str p, AV.str [], AV.bool false]) from hcut) ⟨rfl, rfl⟩ ⟨rfl, rfl⟩ <| .callG ([AV.str []]) (AV.tuple [AV.int .i64 0, AV.int .i64 2]) (show Gives cfg (152 : FuncId) [AV.str []] (AV.tuple [AV.int .i64 0, AV.int .i64 2]) from hnum) ⟨rfl, rfl⟩ ⟨rfl, rfl⟩ <| .tt <| .tt <| .callP ([AV.int .i64 2]) ({ boxes := [[AV.str s0], [AV.sl (skF acc.fst) (List.map encA acc.fst)], [AV.int .i64 acc.snd], [AV.str rest], [AV.str [(44 : UInt8)]], [AV.int .i64 0]], toks := tkA acc, loops := [{ A := rc.A, T := rc.T, ps := rc.ps, assign := rc.assign, body := rc.body, busy := true, nb := rc.nb, nt := rc.nt, nl := rc.nl : LRec }] : Heap }) (show Pans cfg (94 : FuncId) [AV.int .i64 2] (stopV (2 : Int)) from hs) ⟨rfl, rfl⟩ rfl rfl) (by kernel_rfl)
    | some kv =>
      obtain ⟨k, v⟩ := kv
      obtain ⟨e1, hm⟩ := cutAt_some hc
      have hd : ¬ digB v = true := by
        intro hd
        unfold collectA formA at hf
        rw [hc] at hf
        simp [hd] at hf
      have hnum := num_any v (by rw [e1] at hl; simp at hl; omega)
      have en : numA v = (0, 2) := by unfold numA; rw [if_neg hd]
      rw [en] at hnum
      have hcut := cut_hit k v 61 hm (by rw [e1] at hl; simp at hl; omega)
      rw [← e1] at hcut
      have hnum' : Gives cfg 152 [.str v] (.tuple [.int .i64 0, .int .i64 2]) := hnum
      exact goG 90 _  hT'  (.callG ([AV.str p, AV.str [(61 : UInt8)]]) (AV.tuple [AV.str k, AV.str v, AV.bool true]) (show Gives cfg (151 : FuncId) [AV.str p, AV.str [(61 : UInt8)]] (AV.tuple [AV.str k, AV.str v, AV.bool true]) from hcut) ⟨rfl, rfl⟩ ⟨rfl, rfl⟩ <| .callG ([AV.str v]) (AV.tuple [AV.int .i64 0, AV.int .i64 2]) (show Gives cfg (152 : FuncId) [AV.str v] (AV.tuple [AV.int .i64 0, AV.int .i64 2]) from hnum') ⟨rfl, rfl⟩ ⟨rfl, rfl⟩ <| .ff <| .tt <| .callP ([AV.int .i64 2]) ({ boxes := [[AV.str s0], [AV.sl (skF acc.fst) (List.map encA acc.fst)], [AV.int .i64 acc.snd], [AV.str rest], [AV.str [(44 : UInt8)]], [AV.int .i64 0]], toks := tkA acc, loops := [{ A := rc.A, T := rc.T, ps := rc.ps, assign := rc.assign, body := rc.body, busy := true, nb := rc.nb, nt := rc.nt, nl := rc.nl : LRec }] : Heap }) (show Pans cfg (94 : FuncId) [AV.int .i64 2] (stopV (2 : Int)) from hs) ⟨rfl, rfl⟩ rfl rfl) (by kernel_rfl)
  obtain ⟨r, hr, rfl⟩ := key
  have hrun : runL cfg roundA [.c rc.assign, .beg 0, .c rc.body] (psetA rc.T rc.ps [.str p]) (hS3 (oA0 s0) oA1 oA2 tkA rc acc rest) = some (.pan (stopV 2), hB3 (oA0 s0) oA1 oA2 tkA rc acc rest) := by
    rw [hT0, hps, has, hbd]
    rw [show (ra149_0 : ACode) = .region [⟨some 3, .mov (.t 11), none, []⟩] false from rfl, runL_assign, runL_beg (r := rc) rfl hbu]
    exact hr
  have h3 := yl_pan (cfg := cfg) (l := 0) (args := [.str p]) (r := rc) rfl (by rw [hps]; rfl) hrun
  have h4 := does_yieldP h3 rfl
  refine Eq.mp ?_ h4
  congr 1
  obtain ⟨l, ov⟩ := acc
  refine trA s0 { rc with busy := true } h1 h2 _ rest _ ?_ (fun h => ?_) _ rfl
  · show (tkA (l, ov)).length ≤ 1
    cases l with
    | nil => simp [tkA, tk_nil]
    | cons y l => simp [tkA, tk_cons]
  · rintro e
    simp only at e
    subst e
    change (tkR encA []).length = 1 at h
    simp [tk_nil] at h
theorem inAm (acc : AcA) (rest : List UInt8) : ([oA0 s0 acc, oA1 acc, oA2 acc, [.str rest], [.str [44]], [.int .i64 0]] : List (List AV)).all (fun b => b.all (in2 6 (tkA acc).length)) = true := by
  obtain ⟨acc, ov⟩ := acc
  cases acc with
  | nil => rfl
  | cons x l => simp only [tkA]; rw [tk_cons]; rfl
theorem rgA (s : List UInt8) (hl : s.length ≤ 1000) (T : Env) (hT : Has T [(0, .ptr 0 0), (1, .ptr 1 0), (2, .ptr 2 0), (10, .func 226 [.ptr 4 0, .ptr 3 0, .ptr 5 0])]) :
    (∀ l, foldE collectA ([], 0) (parts 44 s) = some l → ∃ last, runL cfg a149 kr149_0 T ⟨[oA0 s0 ([], 0), oA1 ([], 0), oA2 ([], 0), [.str s], [.str [44]], [.int .i64 0]], [], []⟩ = runL cfg a149 kr149_0.tail T ⟨[oA0 s0 l, oA1 l, oA2 l, [.str last], [.str [44]], [.int .i64 0]], tkA l, []⟩) ∧
    (foldE collectA ([], 0) (parts 44 s) = none → ∃ H', runL cfg a149 kr149_0 T ⟨[oA0 s0 ([], 0), oA1 ([], 0), oA2 ([], 0), [.str s], [.str [44]], [.int .i64 0]], [], []⟩ = some (.pan (stopV 2), H')) := by
  let rc : LRec := ⟨a149, T, [11], ra149_0, rb149_0, false, 6, 0, 0⟩
  have hT12 : Has T [(1, .ptr 1 0), (2, .ptr 2 0)] := ⟨hT.2.1, hT.2.2.1, trivial⟩
  obtain ⟨r, hr, hs⟩ := seq_call3 (oA0 s0) oA1 oA2 tkA rc (stopV 2) (fun acc m => acc.1.length + m ≤ 2000) collectA
    (fun a x a' m h hc => by
      unfold collectA at hc
      simp only [Option.map_eq_some_iff] at hc
      obtain ⟨y, -, rfl⟩ := hc
      simp only [List.length_append, List.length_cons, List.length_nil]
      omega)
    (fun a p rest a' h1 h2 h3 => ylA s0 rc T rfl rfl rfl rfl rfl rfl rfl hT12 a p rest a' h1 (by omega) h3)
    (fun a p rest h1 h2 h3 => ynA s0 rc T rfl rfl rfl rfl rfl rfl rfl hT12 a p rest h1 h3)
    s hl ([], 0) (by simp; omega)
  have hfv : ev T (.t 10) = .func 226 [.ptr 4 0, .ptr 3 0, .ptr 5 0] := hT.2.2.2.1
  have hcall : callV (lim cfg) (.func 226 [.ptr 4 0, .ptr 3 0, .ptr 5 0]) [.yield 0] (hS3 (oA0 s0) oA1 oA2 tkA rc ([], 0) s) = callE (lim cfg) 226 [.yield 0, .ptr 4 0, .ptr 3 0, .ptr 5 0] (hS3 (oA0 s0) oA1 oA2 tkA rc ([], 0) s) := by
    rw [callV_func]; rfl
  constructor
  · intro l hf
    simp only [SeqR3, hf] at hs
    obtain ⟨last, rfl⟩ := hs
    refine ⟨last, ?_⟩
    have h1 : callV (lim cfg) (.func 226 [.ptr 4 0, .ptr 3 0, .ptr 5 0]) [.yield 0] (hS3 (oA0 s0) oA1 oA2 tkA rc ([], 0) s) = some (.val (.tuple []) (hS3 (oA0 s0) oA1 oA2 tkA rc l last)) := by
      rw [hcall]
      simp only [callE, hr]
      congr 2
      exact trA s0 rc rfl rfl l last 0 (by omega) (by intro h; cases h) (.tuple []) rfl
    have h2 : dropL 0 (hS3 (oA0 s0) oA1 oA2 tkA rc l last) = some ⟨[oA0 s0 l, oA1 l, oA2 l, [.str last], [.str [44]], [.int .i64 0]], tkA l, []⟩ := by
      exact dropL_of (r := rc) rfl rfl rfl (inAm s0 l last)
    have h3 := rangeA_val (call := lim cfg) (A := a149) (T := T) (ps := [11]) (a := ra149_0) (b := rb149_0) (H := ⟨[oA0 s0 ([], 0), oA1 ([], 0), oA2 ([], 0), [.str s], [.str [44]], [.int .i64 0]], [], []⟩) h1 h2
    rw [← hfv] at h3
    exact runL_range rfl h3
  · intro hf
    simp only [SeqR3, hf] at hs
    obtain ⟨a', last, rfl⟩ := hs
    have h1 : callV (lim cfg) (.func 226 [.ptr 4 0, .ptr 3 0, .ptr 5 0]) [.yield 0] (hS3 (oA0 s0) oA1 oA2 tkA rc ([], 0) s) = some (.pan (stopV 2) (hB3 (oA0 s0) oA1 oA2 tkA rc a' last)) := by
      rw [hcall]
      simp only [callE, hr]
      congr 2
      exact trA s0 { rc with busy := true } rfl rfl a' last 0 (by omega) (by intro h; cases h) (stopV 2) rfl
    have h2 : dropP 0 (hB3 (oA0 s0) oA1 oA2 tkA rc a' last) = some ⟨[oA0 s0 a', oA1 a', oA2 a', [.str last], [.str [44]], [.int .i64 0]], tkA a', []⟩ := by
      exact dropP_of (Nat.lt_add_one 0) rfl (inAm s0 a' last)
    have h3 := rangeA_pan (call := lim cfg) (A := a149) (T := T) (ps := [11]) (a := ra149_0) (b := rb149_0) (H := ⟨[oA0 s0 ([], 0), oA1 ([], 0), oA2 ([], 0), [.str s], [.str [44]], [.int .i64 0]], [], []⟩) h1 rfl h2
    rw [← hfv] at h3
    exact ⟨_, runL_rangeP rfl h3⟩
end
theorem seq1A (s0 s : List UInt8) : lim cfg (.fn 150) [.str s, .str [44]] ⟨[oA0 s0 ([], 0), oA1 ([], 0), oA2 ([], 0)], [], []⟩ = some (.ret (.func 226 [.ptr 4 0, .ptr 3 0, .ptr 5 0]), ⟨[oA0 s0 ([], 0), oA1 ([], 0), oA2 ([], 0), [.str s], [.str [44]], [.int .i64 0]], [], []⟩) := by
  have h0 : lim cfg (.fn 195) [.str s, .str [44], .int .i64 0] Heap.nil = some (.ret (.func 226 [.ptr 1 0, .ptr 0 0, .ptr 2 0]), ⟨[[.str s], [.str [44]], [.int .i64 0]], [], []⟩) := by
    rw [l195]
    exact go 60 []  trivial  (.fin ((ARes.ret (AV.func (226 : Nat) [AV.ptr 1 0, AV.ptr 0 0, AV.ptr 2 0]), { boxes := [[AV.str s], [AV.str [(44 : UInt8)]], [AV.int .i64 0]], toks := [], loops := [] : Heap })) rfl) (by kernel_rfl)
  have h1 : lim cfg (.fn 195) [.str s, .str [44], .int .i64 0] ⟨[oA0 s0 ([], 0), oA1 ([], 0), oA2 ([], 0)], [], []⟩ = some (.ret (.func 226 [.ptr 4 0, .ptr 3 0, .ptr 5 0]), ⟨[oA0 s0 ([], 0), oA1 ([], 0), oA2 ([], 0), [.str s], [.str [44]], [.int .i64 0]], [], []⟩) := by
    rw [l195]
    exact go 60 []  trivial  (.fin ((ARes.ret (AV.func (226 : Nat) [AV.ptr 4 0, AV.ptr 3 0, AV.ptr 5 0]), { boxes := [[AV.str s0], [AV.sl .full []], [AV.int .i64 ([], (0 : Int)).snd], [AV.str s], [AV.str [(44 : UInt8)]], [AV.int .i64 0]], toks := [], loops := [] : Heap })) rfl) (by kernel_rfl)
  have hd : Does cfg (.call (.c (.func 195 [])) [.c (.str s), .c (.str [44]), .c (.int .i64 0)]) ⟨[oA0 s0 ([], 0), oA1 ([], 0), oA2 ([], 0)], [], []⟩ (.func 226 [.ptr 4 0, .ptr 3 0, .ptr 5 0]) ⟨[oA0 s0 ([], 0), oA1 ([], 0), oA2 ([], 0), [.str s], [.str [44]], [.int .i64 0]], [], []⟩ :=
    does_callN h0 rfl h1 rfl rfl
  rw [l150]
  exact go 60 []  trivial  (.effY (show Does cfg (AOp.call (Opd.c (AV.func (195 : FuncId) [])) [Opd.c (AV.str s), Opd.c (AV.str [(44 : UInt8)]), Opd.c (AV.int .i64 0)]) { boxes := [oA0 s0 ([], (0 : Int)), oA1 ([], (0 : Int)), oA2 ([], (0 : Int))], toks := [], loops := [] : Heap } (AV.func (226 : FuncId) [AV.ptr 4 0, AV.ptr 3 0, AV.ptr 5 0]) { boxes := [oA0 s0 ([], (0 : Int)), oA1 ([], (0 : Int)), oA2 ([], (0 : Int)), [AV.str s], [AV.str [(44 : UInt8)]], [AV.int .i64 0]], toks := [], loops := [] : Heap } from hd) <| .fin ((ARes.ret (AV.func (226 : Nat) [AV.ptr 4 0, AV.ptr 3 0, AV.ptr 5 0]), { boxes := [[AV.str s0], [AV.sl .full []], [AV.int .i64 ([], (0 : Int)).snd], [AV.str s], [AV.str [(44 : UInt8)]], [AV.int .i64 0]], toks := [], loops := [] : Heap })) rfl) (by kernel_rfl)
theorem fold_all : ∀ (ps : List (List UInt8)) (l : List Amount) (ov : Int) (h0 : ov = 0 ∨ ov = 5), foldE collectA (l, ov) ps = (allA ps).map fun kvs => (l ++ kvs.map amtC, if ov = 5 ∨ kvs.any tooA = true then 5 else 0)
  | [], l, ov, h0 => by
    simp only [foldE, allA, Option.map_some, List.map_nil, List.append_nil, List.any_nil]
    rcases h0 with rfl | rfl <;> rfl
  | w :: ps, l, ov, h0 => by
    simp only [foldE, allA, collectA]
    cases hf : formA w with
    | none => rfl
    | some kv =>
      obtain ⟨-, -, e3⟩ := form_some hf
      have hn : (numA kv.2).2 = if tooA kv = true then 5 else 0 := by
        unfold numA tooA
        rw [if_pos e3]
        by_cases hv : valN 0 kv.2 < 9223372036854775808
        · rw [if_pos hv, if_neg (by simp; omega)]
        · rw [if_neg hv, if_pos (by simp; omega)]
      simp only [Option.map_some]
      rw [hn]
      have h5 : (if (if tooA kv = true then (5 : Int) else 0) > ov then (if tooA kv = true then (5 : Int) else 0) else ov) = 0 ∨ (if (if tooA kv = true then (5 : Int) else 0) > ov then (if tooA kv = true then (5 : Int) else 0) else ov) = 5 := by
        rcases h0 with rfl | rfl <;> by_cases ht : tooA kv = true <;> simp [ht]
      rw [fold_all ps _ _ h5]
      cases allA ps with
      | none => rfl
      | some kvs =>
        simp only [Option.map_some, Option.some.injEq, Prod.mk.injEq, List.map_cons, List.append_assoc, List.cons_append, List.nil_append, true_and, List.any_cons]
        rcases h0 with rfl | rfl <;> by_cases ht : tooA kv = true <;> first | (simp [ht]; done) | grind
theorem amt_small {kvs : List (List UInt8 × List UInt8)} (hd : ∀ p ∈ kvs, digB p.2 = true) (h : kvs.any tooA = false) : kvs.map amtC = kvs.map amtA := by
  refine List.map_congr_left fun kv hkv => ?_
  have ht : tooA kv = false := by simpa using List.any_eq_false.1 h kv hkv
  have hv : valN 0 kv.2 < 9223372036854775808 := by
    have : ¬ 9223372036854775808 ≤ valN 0 kv.2 := by simpa [tooA] using ht
    omega
  unfold amtC amtA numA
  rw [if_pos (hd kv hkv), if_pos hv]
theorem tryA' (s : List UInt8) (hl : s.length ≤ 1000) (hs : ¬ s = [45]) :
    (∃ l : List Amount, readA s = (l, 0) ∧ ∃ last, lim cfg (.fn 91) [.func 149 [.ptr 0 0, .ptr 1 0]] ⟨[[.str s], [.sl .full []]], [], []⟩ = some (.ret (.int .i64 0), ⟨[[.str s], [rowF encA l], [.int .i64 0], [.str last], [.str [44]], [.int .i64 0]], tkR encA l, []⟩)) ∨
    (∃ e : Int, e ≠ 0 ∧ readA s = ([], e) ∧ ∃ H', lim cfg (.fn 91) [.func 149 [.ptr 0 0, .ptr 1 0]] ⟨[[.str s], [.sl .full []]], [], []⟩ = some (.ret (.int .i64 e), H')) := by
  obtain ⟨v0, H0, h0, hn0⟩ := seq0Taint s
  have hd : Does cfg (.call (.c (.func 150 [])) [.c (.str s), .c (.str [44])]) ⟨[oA0 s ([], 0), oA1 ([], 0), oA2 ([], 0)], [], []⟩ (.func 226 [.ptr 4 0, .ptr 3 0, .ptr 5 0]) ⟨[oA0 s ([], 0), oA1 ([], 0), oA2 ([], 0), [.str s], [.str [44]], [.int .i64 0]], [], []⟩ :=
    does_callN h0 hn0 (seq1A s s) rfl rfl
  have clo : ∀ R, (∀ T (hT : Has T [(0, .ptr 0 0), (1, .ptr 1 0), (2, .ptr 2 0), (10, .func 226 [.ptr 4 0, .ptr 3 0, .ptr 5 0])]), Goes cfg a149 kr149_0 T ⟨[oA0 s ([], 0), oA1 ([], 0), oA2 ([], 0), [.str s], [.str [44]], [.int .i64 0]], [], []⟩ R) →
      ∃ r, lim cfg (.fn 149) [.ptr 0 0, .ptr 1 0] ⟨[[.str s], [.sl .full []]], [], []⟩ = some r ∧ R r := by
    intro R h
    rw [l149]
    have key : Goes cfg a149 [.c c149] (initEnv [.ptr 0 0, .ptr 1 0]) ⟨[[.str s], [.sl .full []]], [], []⟩ R := by
      exact goG 60 []  trivial  (.effY (show Does cfg (AOp.call (Opd.c (AV.func (150 : FuncId) [])) [Opd.c (AV.str s), Opd.c (AV.str [(44 : UInt8)])]) { boxes := [oA0 s ([], (0 : Int)), oA1 ([], (0 : Int)), oA2 ([], (0 : Int))], toks := [], loops := [] : Heap } (AV.func (226 : FuncId) [AV.ptr 4 0, AV.ptr 3 0, AV.ptr 5 0]) { boxes := [oA0 s ([], (0 : Int)), oA1 ([], (0 : Int)), oA2 ([], (0 : Int)), [AV.str s], [AV.str [(44 : UInt8)]], [AV.int .i64 0]], toks := [], loops := [] : Heap } from hd) <| .cutQ kr149_0 [(0, AV.ptr 0 0), (1, AV.ptr 1 0), (2, AV.ptr 2 0), (10, AV.func (226 : Nat) [AV.ptr 4 0, AV.ptr 3 0, AV.ptr 5 0])] ({ boxes := [[AV.str s], [AV.sl .full []], [AV.int .i64 ([], (0 : Int)).snd], [AV.str s], [AV.str [(44 : UInt8)]], [AV.int .i64 0]], toks := [], loops := [] : Heap }) (fun T hT => (h T hT))) (by kernel_rfl)
    exact key
  have er : readA s = (match allA (parts 44 s) with
      | none => ([], 2)
      | some l => if l.any tooA then ([], 5) else if ckV (l.map amtA) = 0 then (l.map amtA, 0) else ([], ckV (l.map amtA))) := if_neg hs
  have ef := fold_all (parts 44 s) [] 0 (.inl rfl)
  cases ha : allA (parts 44 s) with
  | none =>
    rw [ha] at ef er
    right
    obtain ⟨r, h1, h2⟩ := clo (fun r => r.1 = .pan (stopV 2)) (fun T hT => by
      obtain ⟨H', e⟩ := (rgA s s hl T hT).2 ef
      exact ⟨_, e, rfl⟩)
    obtain ⟨x, H'⟩ := r
    simp only at h2
    subst h2
    exact ⟨2, by decide, er, H', by rw [lim_try rfl, h1]; rfl⟩
  | some kvs =>
    rw [ha] at ef er
    have hdig : ∀ p ∈ kvs, digB p.2 = true := fun p hp => ((all_some ha).2 p hp).1
    simp only [Option.map_some, List.nil_append] at ef er
    by_cases ht : kvs.any tooA = true
    · rw [if_pos ht] at er
      rw [if_pos (.inr ht)] at ef
      right
      obtain ⟨r, h1, h2⟩ := clo (fun r => r.1 = .pan (stopV 5)) (fun T hT => by
        obtain ⟨last, e⟩ := (rgA s s hl T hT).1 _ ef
        have hst : Pans cfg 94 [.int .i64 5] (stopV 5) := stop_pan (by decide)
        have key : Goes cfg a149 kr149_0.tail T ⟨[oA0 s (kvs.map amtC, 5), oA1 (kvs.map amtC, 5), oA2 (kvs.map amtC, 5), [.str last], [.str [44]], [.int .i64 0]], tkA (kvs.map amtC, 5), []⟩ (fun r => r.1 = .pan (stopV 5)) := by
          exact goG 60 _  hT  (.callP ([AV.int .i64 (List.map amtC kvs, (5 : Int)).snd]) ({ boxes := [[AV.str s], [AV.sl (skF (List.map amtC kvs, (5 : Int)).fst) (List.map encA (List.map amtC kvs, (5 : Int)).fst)], [AV.int .i64 (List.map amtC kvs, (5 : Int)).snd], [AV.str last], [AV.str [(44 : UInt8)]], [AV.int .i64 0]], toks := tkA (List.map amtC kvs, (5 : Int)), loops := [] : Heap }) (show Pans cfg (94 : FuncId) [AV.int .i64 5] (stopV (5 : Int)) from hst) ⟨rfl, rfl⟩ rfl rfl) (by kernel_rfl)
        obtain ⟨r, k1, k2⟩ := key
        exact ⟨r, e.trans k1, k2⟩)
      obtain ⟨x, H'⟩ := r
      simp only at h2
      subst h2
      exact ⟨5, by decide, er, H', by rw [lim_try rfl, h1]; rfl⟩
    · rw [if_neg ht] at er
      rw [if_neg (by simp [ht])] at ef
      rw [amt_small hdig (by simpa using ht)] at ef
      have hg := ckV_any (kvs.map amtA)
      generalize kvs.map amtA = l at er ef hg
      by_cases hc : ckV l = 0
      · rw [if_pos hc] at er
        rw [hc] at hg
        left
        obtain ⟨r, h1, h2⟩ := clo (fun r => ∃ last, r = (.ret (.tuple []), ⟨[oA0 s (l, 0), oA1 (l, 0), oA2 (l, 0), [.str last], [.str [44]], [.int .i64 0]], tkA (l, 0), []⟩)) (fun T hT => by
          obtain ⟨last, e⟩ := (rgA s s hl T hT).1 _ ef
          have key : Goes cfg a149 kr149_0.tail T ⟨[oA0 s (l, 0), oA1 (l, 0), oA2 (l, 0), [.str last], [.str [44]], [.int .i64 0]], tkA (l, 0), []⟩ (fun r => r = (.ret (.tuple []), ⟨[oA0 s (l, 0), oA1 (l, 0), oA2 (l, 0), [.str last], [.str [44]], [.int .i64 0]], tkA (l, 0), []⟩)) := by
            exact goG 60 _  hT  (.callG ([AV.int .i64 (l, (0 : Int)).snd]) (AV.tuple []) (show Gives cfg (94 : FuncId) [AV.int .i64 0] (AV.tuple []) from stop_ok) ⟨rfl, rfl⟩ ⟨rfl, rfl⟩ <| .callG ([AV.sl (skF (l, (0 : Int)).fst) (List.map encA (l, (0 : Int)).fst)]) (AV.int .i64 0) (show Gives cfg (82 : FuncId) [AV.sl .sh (List.map encA l)] (AV.int .i64 0) from hg) Shuts.p ⟨rfl, rfl⟩ <| .callG ([AV.int .i64 0]) (AV.tuple []) (show Gives cfg (94 : FuncId) [AV.int .i64 0] (AV.tuple []) from stop_ok) ⟨rfl, rfl⟩ ⟨rfl, rfl⟩ <| .fin ((ARes.ret (AV.tuple []), { boxes := [[AV.str s], [AV.sl (skF (l, (0 : Int)).fst) (List.map encA (l, (0 : Int)).fst)], [AV.int .i64 (l, (0 : Int)).snd], [AV.str last], [AV.str [(44 : UInt8)]], [AV.int .i64 0]], toks := tkA (l, (0 : Int)), loops := [] : Heap })) rfl) (by kernel_rfl)
          obtain ⟨r, k1, k2⟩ := key
          exact ⟨r, e.trans k1, last, k2⟩)
        obtain ⟨last, rfl⟩ := h2
        exact ⟨l, er, last, by rw [lim_try rfl, h1]; rfl⟩
      · rw [if_neg hc] at er
        right
        obtain ⟨r, h1, h2⟩ := clo (fun r => r.1 = .pan (stopV (ckV l))) (fun T hT => by
          obtain ⟨last, e⟩ := (rgA s s hl T hT).1 _ ef
          have hst := stop_pan hc
          have key : Goes cfg a149 kr149_0.tail T ⟨[oA0 s (l, 0), oA1 (l, 0), oA2 (l, 0), [.str last], [.str [44]], [.int .i64 0]], tkA (l, 0), []⟩ (fun r => r.1 = .pan (stopV (ckV l))) := by
            exact goG 60 _  hT  (.callG ([AV.int .i64 (l, (0 : Int)).snd]) (AV.tuple []) (show Gives cfg (94 : FuncId) [AV.int .i64 0] (AV.tuple []) from stop_ok) ⟨rfl, rfl⟩ ⟨rfl, rfl⟩ <| .callG ([AV.sl (skF (l, (0 : Int)).fst) (List.map encA (l, (0 : Int)).fst)]) (AV.int .i64 (ckV l)) (show Gives cfg (82 : FuncId) [AV.sl .sh (List.map encA l)] (AV.int .i64 (ckV l)) from hg) Shuts.p ⟨rfl, rfl⟩ <| .callP ([AV.int .i64 (ckV l)]) ({ boxes := [[AV.str s], [AV.sl (skF (l, (0 : Int)).fst) (List.map encA (l, (0 : Int)).fst)], [AV.int .i64 (l, (0 : Int)).snd], [AV.str last], [AV.str [(44 : UInt8)]], [AV.int .i64 0]], toks := tkA (l, (0 : Int)), loops := [] : Heap }) (show Pans cfg (94 : FuncId) [AV.int .i64 (ckV l)] (stopV (ckV l)) from hst) ⟨rfl, rfl⟩ rfl rfl) (by kernel_rfl)
          obtain ⟨r, k1, k2⟩ := key
          exact ⟨r, e.trans k1, k2⟩)
        obtain ⟨x, H'⟩ := r
        simp only at h2
        subst h2
        exact ⟨ckV l, hc, er, H', by rw [lim_try rfl, h1]; rfl⟩
theorem readA_any (s : List UInt8) (hl : s.length ≤ 1000) : Gives cfg 96 [.str s] (.tuple [rowF encA (readA s).1, .int .i64 (readA s).2]) := by
  refine Gives.run (l96 _ _) ?_
  by_cases hs : s = [45]
  · subst hs
    exact goG 60 []  trivial  (.tt <| .fin ((ARes.ret (AV.tuple [AV.sl .full [], AV.int .i64 0]), { boxes := [[AV.str [(45 : UInt8)]]], toks := [], loops := [] : Heap })) rfl) (by kernel_rfl)
  · rcases tryA' s hl hs with ⟨l, e, last, h1⟩ | ⟨e, he, e1, H', h1⟩
    · rw [e]
      have hd : Does cfg (.call (.c (.func 91 [])) [.c (.func 149 [.ptr 0 0, .ptr 1 0])]) ⟨[[.str s], [.sl .full []]], [], []⟩ (.int .i64 0) ⟨[[.str s], [rowF encA l]], tkR encA l, []⟩ := by
        have hd := does_callE (xs := [.func 149 [.ptr 0 0, .ptr 1 0]]) (caps := []) h1 rfl rfl
        refine Eq.mp ?_ hd
        congr 1
        cases l <;> rfl
      exact goG 60 []  trivial  (.no (show (s == [(45 : UInt8)]) = false from Bool.eq_false_iff.2 (show ¬ ((s == [(45 : UInt8)]) = true) from (by simpa using hs))) <| .effY (show Does cfg (AOp.call (Opd.c (AV.func (91 : FuncId) [])) [Opd.c (AV.func (149 : FuncId) [AV.ptr 0 0, AV.ptr 1 0])]) { boxes := [[AV.str s], [AV.sl .full []]], toks := [], loops := [] : Heap } (AV.int .i64 0) { boxes := [[AV.str s], [rowF encA l]], toks := tkR encA l, loops := [] : Heap } from hd) <| .ff <| .fin ((ARes.ret (AV.tuple [AV.sl (skF l) (List.map encA l), AV.int .i64 0]), { boxes := [[AV.str s], [AV.sl (skF l) (List.map encA l)]], toks := tkR encA l, loops := [] : Heap })) rfl) (by kernel_rfl)
    · rw [e1]
      have hd := does_callE (xs := [.func 149 [.ptr 0 0, .ptr 1 0]]) (caps := []) h1 rfl rfl
      generalize trunc _ _ _ H' = H2 at hd
      exact goG 60 []  trivial  (.no (show (s == [(45 : UInt8)]) = false from Bool.eq_false_iff.2 (show ¬ ((s == [(45 : UInt8)]) = true) from (by simpa using hs))) <| .effY (show Does cfg (AOp.call (Opd.c (AV.func (91 : FuncId) [])) (List.map Opd.c [AV.func (149 : FuncId) [AV.ptr 0 0, AV.ptr 1 0]])) { boxes := [[AV.str s], [AV.sl .full []]], toks := [], loops := [] : Heap } (shutA (AV.int .i64 e)) H2 from hd) <| .yes (show (e != (0 : Int)) = true from (by simpa using he)) <| .fin ((ARes.ret (AV.tuple [AV.sl .full [], AV.int .i64 e]), H2)) rfl) (by kernel_rfl)
end Go.Aa.T

set_option linter.unusedVariables false
set_option linter.unusedSimpArgs false
set_option maxRecDepth 100000
namespace Go.Aa.T
open Go.Aa Go.Proofs
theorem known30' : Gives cfg 30 [] (.bool true) := by
  obtain ⟨H, h⟩ := known_ret30
  exact Gives.of h
end Go.Aa.T

set_option linter.unusedVariables false
set_option linter.unusedSimpArgs false
set_option maxRecDepth 100000
namespace Go.Aa.T
open Go.Aa Go.Proofs
def zN : AV := .agg [.str [], .sl .full [], .sl .full [], .sl .full [], .bool false]
def readN5 (a b c d : List UInt8) (co : Bool) : Node × Int :=
  if (readA b).2 = 0 then (if (parsed partP ckS c).2 = 0 then (if (parsed partT ckT d).2 = 0 then
    (if ckN ⟨a, (readA b).1, (parsed partP ckS c).1, (parsed partT ckT d).1, co⟩ = 0 then (⟨a, (readA b).1, (parsed partP ckS c).1, (parsed partT ckT d).1, co⟩, 0)
      else (noN, ckN ⟨a, (readA b).1, (parsed partP ckS c).1, (parsed partT ckT d).1, co⟩))
    else (noN, (parsed partT ckT d).2)) else (noN, (parsed partP ckS c).2)) else (noN, (readA b).2)
def upW : List UInt8 := [117, 112]
def coW : List UInt8 := [99, 111, 114, 100, 111, 110]
def readN (s : List UInt8) : Node × Int := match parts 32 s with
  | [a, b, c, d, e] => if e = upW ∨ e = coW then readN5 a b c d (e == coW) else (noN, 2)
  | _ => (noN, 2)
theorem take_A (l : List AV) : Gives cfg 95 [.sl .sh l, .int .i64 0] (.sl .sh l) := by
  refine Gives.run (l95 _ _) ?_
  exact goG 60 []  trivial  (.callG ([AV.int .i64 0]) (AV.tuple []) (show Gives cfg (94 : FuncId) [AV.int .i64 0] (AV.tuple []) from stop_ok) ⟨rfl, rfl⟩ ⟨rfl, rfl⟩ <| .fin ((ARes.ret (AV.sl .sh l), { boxes := [], toks := [], loops := [] : Heap })) rfl) (by kernel_rfl)
theorem take_P (l : List AV) : Gives cfg 97 [.sl .sh l, .int .i64 0] (.sl .sh l) := by
  refine Gives.run (l97 _ _) ?_
  exact goG 60 []  trivial  (.callG ([AV.int .i64 0]) (AV.tuple []) (show Gives cfg (94 : FuncId) [AV.int .i64 0] (AV.tuple []) from stop_ok) ⟨rfl, rfl⟩ ⟨rfl, rfl⟩ <| .fin ((ARes.ret (AV.sl .sh l), { boxes := [], toks := [], loops := [] : Heap })) rfl) (by kernel_rfl)
theorem take_T (l : List AV) : Gives cfg 99 [.sl .sh l, .int .i64 0] (.sl .sh l) := by
  refine Gives.run (l99 _ _) ?_
  exact goG 60 []  trivial  (.callG ([AV.int .i64 0]) (AV.tuple []) (show Gives cfg (94 : FuncId) [AV.int .i64 0] (AV.tuple []) from stop_ok) ⟨rfl, rfl⟩ ⟨rfl, rfl⟩ <| .fin ((ARes.ret (AV.sl .sh l), { boxes := [], toks := [], loops := [] : Heap })) rfl) (by kernel_rfl)
theorem takeN_A (l : List AV) {e : Int} (he : ¬ e = 0) : Pans cfg 95 [.sl .sh l, .int .i64 e] (stopV e) := by
  refine Pans.run (l95 _ _) ?_
  have hs := stop_pan he
  exact goG 60 []  trivial  (.callP ([AV.int .i64 e]) ({ boxes := [], toks := [], loops := [] : Heap }) (show Pans cfg (94 : FuncId) [AV.int .i64 e] (stopV e) from hs) ⟨rfl, rfl⟩ rfl rfl) (by kernel_rfl)
theorem takeN_P (l : List AV) {e : Int} (he : ¬ e = 0) : Pans cfg 97 [.sl .sh l, .int .i64 e] (stopV e) := by
  refine Pans.run (l97 _ _) ?_
  have hs := stop_pan he
  exact goG 60 []  trivial  (.callP ([AV.int .i64 e]) ({ boxes := [], toks := [], loops := [] : Heap }) (show Pans cfg (94 : FuncId) [AV.int .i64 e] (stopV e) from hs) ⟨rfl, rfl⟩ rfl rfl) (by kernel_rfl)
theorem takeN_T (l : List AV) {e : Int} (he : ¬ e = 0) : Pans cfg 99 [.sl .sh l, .int .i64 e] (stopV e) := by
  refine Pans.run (l99 _ _) ?_
  have hs := stop_pan he
  exact goG 60 []  trivial  (.callP ([AV.int .i64 e]) ({ boxes := [], toks := [], loops := [] : Heap }) (show Pans cfg (94 : FuncId) [AV.int .i64 e] (stopV e) from hs) ⟨rfl, rfl⟩ rfl rfl) (by kernel_rfl)
def hN (s : List UInt8) : Heap := ⟨[[.str s], zN.cells, zN.cells], [], []⟩
theorem tryN (s : List UInt8) (hl : s.length ≤ 1000) :
    (∃ n : Node, readN s = (n, 0) ∧ lim cfg (.fn 91) [.func 92 [.ptr 0 0, .ptr 2 0]] (hN s) = some (.ret (.int .i64 0), ⟨[[.str s], zN.cells, (encN n).cells], [], []⟩)) ∨
    (∃ e : Int, e ≠ 0 ∧ readN s = (noN, e) ∧ ∃ X, lim cfg (.fn 91) [.func 92 [.ptr 0 0, .ptr 2 0]] (hN s) = some (.ret (.int .i64 e), ⟨[[.str s], zN.cells, X], [], []⟩) ∧ X.all data0 = true) := by
  have clo : ∀ R, Goes cfg a92 [.c c92] (initEnv [.ptr 0 0, .ptr 2 0]) ⟨[[.str s], zN.cells, zN.cells], [], []⟩ R → ∃ r, lim cfg (.fn 92) [.ptr 0 0, .ptr 2 0] (hN s) = some r ∧ R r := by
    intro R h
    rw [l92]
    exact h
  have bad : ∀ (e : Int) (X : List AV) (hX : X.all data0 = true), ¬ e = 0 → readN s = (noN, e) → Goes cfg a92 [.c c92] (initEnv [.ptr 0 0, .ptr 2 0]) ⟨[[.str s], zN.cells, zN.cells], [], []⟩ (fun r => r = (.pan (stopV e), ⟨[[.str s], zN.cells, X], [], []⟩)) →
      (∃ e : Int, e ≠ 0 ∧ readN s = (noN, e) ∧ ∃ X, lim cfg (.fn 91) [.func 92 [.ptr 0 0, .ptr 2 0]] (hN s) = some (.ret (.int .i64 e), ⟨[[.str s], zN.cells, X], [], []⟩) ∧ X.all data0 = true) := fun e X hX he hr h => by
    obtain ⟨r, h1, rfl⟩ := clo _ h
    exact ⟨e, he, hr, X, by rw [lim_try rfl, h1]; rfl, hX⟩
  have hsp := split_any s 32 hl
  have hs2 : Pans cfg 94 [.int .i64 2] (stopV 2) := stop_pan (by decide)
  obtain ⟨pl1, pl2⟩ := parts_len (c := 32) s
  have key5 : (∃ a b c d e, parts 32 s = [a, b, c, d, e]) ∨ (parts 32 s).length ≠ 5 := by
    rcases hp : parts 32 s with _ | ⟨a, _ | ⟨b, _ | ⟨c, _ | ⟨d, _ | ⟨e, _ | ⟨f, r⟩⟩⟩⟩⟩⟩
    · right; simp
    · right; simp
    · right; simp
    · right; simp
    · right; simp
    · left; exact ⟨a, b, c, d, e, rfl⟩
    · right; simp
  rcases key5 with ⟨a, b, c, d, e, hp⟩ | hne
  · rw [hp] at hsp pl2
    have hsp' : Gives cfg 93 [.str s, .str [32]] (.sl .sh [.str a, .str b, .str c, .str d, .str e]) := hsp
    have er : readN s = if e = upW ∨ e = coW then readN5 a b c d (e == coW) else (noN, 2) := by unfold readN; rw [hp]
    by_cases he : e = upW ∨ e = coW
    · rw [if_pos he] at er
      have hco : ∃ co : Bool, (e == coW) = co ∧ (co = true → e = coW) ∧ (co = false → e = upW) := by
        refine ⟨e == coW, rfl, fun h => by simpa using h, fun h => ?_⟩
        rcases he with h1 | h1
        · exact h1
        · rw [h1] at h; cases h
      obtain ⟨co, hco, hc1, hc2⟩ := hco
      rw [hco] at er
      have ra := readA_any b (by have := pl2 b (by simp); omega)
      have rp := parseP c (by have := pl2 c (by simp); omega)
      have rt := parseT d (by have := pl2 d (by simp); omega)
      unfold readN5 at er
      generalize readA b = A at *
      generalize parsed partP ckS c = B at *
      generalize parsed partT ckT d = C at *
      obtain ⟨la, ea⟩ := A
      obtain ⟨lb, eb⟩ := B
      obtain ⟨lc, ec⟩ := C
      simp only at er ra rp rt
      by_cases e1 : ea = 0
      · rw [if_pos e1] at er
        subst e1
        by_cases e2 : eb = 0
        · rw [if_pos e2] at er
          subst e2
          by_cases e3 : ec = 0
          · rw [if_pos e3] at er
            subst e3
            have hck := ckN_any ⟨a, la, lb, lc, co⟩
            by_cases e4 : ckN ⟨a, la, lb, lc, co⟩ = 0
            · rw [if_pos e4] at er
              rw [e4] at hck
              left
              refine ⟨_, er, ?_⟩
              have h1 : Goes cfg a92 [.c c92] (initEnv [.ptr 0 0, .ptr 2 0]) ⟨[[.str s], zN.cells, zN.cells], [], []⟩ (fun r => r = (.ret (.tuple []), ⟨[[.str s], zN.cells, (encN ⟨a, la, lb, lc, co⟩).cells], [], []⟩)) := by
                cases co with
                | true =>
                  have := hc1 rfl
                  subst this
                  exact goG 120 []  trivial  (.callG ([AV.str s, AV.str [(32 : UInt8)]]) (AV.sl .sh [AV.str a, AV.str b, AV.str c, AV.str d, AV.str [(99 : UInt8), (111 : UInt8), (114 : UInt8), (100 : UInt8), (111 : UInt8), (110 : UInt8)]]) (show Gives cfg (93 : FuncId) [AV.str s, AV.str [(32 : UInt8)]] (AV.sl .sh [AV.str a, AV.str b, AV.str c, AV.str d, AV.str coW]) from hsp') ⟨rfl, rfl⟩ ⟨rfl, rfl⟩ <| .len (show lenA false (AV.sl .sh [AV.str a, AV.str b, AV.str c, AV.str d, AV.str [(99 : UInt8), (111 : UInt8), (114 : UInt8), (100 : UInt8), (111 : UInt8), (110 : UInt8)]]) = some (AV.int .i64 (↑[AV.str a, AV.str b, AV.str c, AV.str d, AV.str [(99 : UInt8), (111 : UInt8), (114 : UInt8), (100 : UInt8), (111 : UInt8), (110 : UInt8)]].length : Int)) from len_sl _ _) <| .ff <| .idx (show idxA 1 (AV.sl .sh [AV.str a, AV.str b, AV.str c, AV.str d, AV.str [(99 : UInt8), (111 : UInt8), (114 : UInt8), (100 : UInt8), (111 : UInt8), (110 : UInt8)]]) (AV.int .i64 4) = some (AV.ref [AV.str [(99 : UInt8), (111 : UInt8), (114 : UInt8), (100 : UInt8), (111 : UInt8), (110 : UInt8)]]) from rfl) <| .tt <| .idx (show idxA 1 (AV.sl .sh [AV.str a, AV.str b, AV.str c, AV.str d, AV.str [(99 : UInt8), (111 : UInt8), (114 : UInt8), (100 : UInt8), (111 : UInt8), (110 : UInt8)]]) (AV.int .i64 4) = some (AV.ref [AV.str [(99 : UInt8), (111 : UInt8), (114 : UInt8), (100 : UInt8), (111 : UInt8), (110 : UInt8)]]) from rfl) <| .ff <| .idx (show idxA 1 (AV.sl .sh [AV.str a, AV.str b, AV.str c, AV.str d, AV.str [(99 : UInt8), (111 : UInt8), (114 : UInt8), (100 : UInt8), (111 : UInt8), (110 : UInt8)]]) (AV.int .i64 0) = some (AV.ref [AV.str a]) from rfl) <| .idx (show idxA 1 (AV.sl .sh [AV.str a, AV.str b, AV.str c, AV.str d, AV.str [(99 : UInt8), (111 : UInt8), (114 : UInt8), (100 : UInt8), (111 : UInt8), (110 : UInt8)]]) (AV.int .i64 1) = some (AV.ref [AV.str b]) from rfl) <| .callG ([AV.str b]) (AV.tuple [AV.sl .sh (List.map encA la), AV.int .i64 0]) (show Gives cfg (96 : FuncId) [AV.str b] (AV.tuple [rowF encA la, AV.int .i64 0]) from ra) ⟨rfl, rfl⟩ Res.p <| .callG ([AV.sl .sh (List.map encA la), AV.int .i64 0]) (AV.sl .sh (List.map encA la)) (show Gives cfg (95 : FuncId) [AV.sl .sh (List.map encA la), AV.int .i64 0] (AV.sl .sh (List.map encA la)) from take_A _) ⟨rfl, rfl⟩ ⟨rfl, rfl⟩ <| .idx (show idxA 1 (AV.sl .sh [AV.str a, AV.str b, AV.str c, AV.str d, AV.str [(99 : UInt8), (111 : UInt8), (114 : UInt8), (100 : UInt8), (111 : UInt8), (110 : UInt8)]]) (AV.int .i64 2) = some (AV.ref [AV.str c]) from rfl) <| .callG ([AV.str c]) (AV.tuple [AV.sl .sh (List.map encP lb), AV.int .i64 0]) (show Gives cfg (98 : FuncId) [AV.str c] (AV.tuple [AV.sl .sh (List.map encP lb), AV.int .i64 0]) from rp) ⟨rfl, rfl⟩ ⟨rfl, rfl⟩ <| .callG ([AV.sl .sh (List.map encP lb), AV.int .i64 0]) (AV.sl .sh (List.map encP lb)) (show Gives cfg (97 : FuncId) [AV.sl .sh (List.map encP lb), AV.int .i64 0] (AV.sl .sh (List.map encP lb)) from take_P _) ⟨rfl, rfl⟩ ⟨rfl, rfl⟩ <| .idx (show idxA 1 (AV.sl .sh [AV.str a, AV.str b, AV.str c, AV.str d, AV.str [(99 : UInt8), (111 : UInt8), (114 : UInt8), (100 : UInt8), (111 : UInt8), (110 : UInt8)]]) (AV.int .i64 3) = some (AV.ref [AV.str d]) from rfl) <| .callG ([AV.str d]) (AV.tuple [AV.sl .sh (List.map encT lc), AV.int .i64 0]) (show Gives cfg (100 : FuncId) [AV.str d] (AV.tuple [AV.sl .sh (List.map encT lc), AV.int .i64 0]) from rt) ⟨rfl, rfl⟩ ⟨rfl, rfl⟩ <| .callG ([AV.sl .sh (List.map encT lc), AV.int .i64 0]) (AV.sl .sh (List.map encT lc)) (show Gives cfg (99 : FuncId) [AV.sl .sh (List.map encT lc), AV.int .i64 0] (AV.sl .sh (List.map encT lc)) from take_T _) ⟨rfl, rfl⟩ ⟨rfl, rfl⟩ <| .idx (show idxA 1 (AV.sl .sh [AV.str a, AV.str b, AV.str c, AV.str d, AV.str [(99 : UInt8), (111 : UInt8), (114 : UInt8), (100 : UInt8), (111 : UInt8), (110 : UInt8)]]) (AV.int .i64 4) = some (AV.ref [AV.str [(99 : UInt8), (111 : UInt8), (114 : UInt8), (100 : UInt8), (111 : UInt8), (110 : UInt8)]]) from rfl) <| .callG ([AV.agg [AV.str a, AV.sl .sh (List.map encA la), AV.sl .sh (List.map encP lb), AV.sl .sh (List.map encT lc), AV.bool ([(99 : UInt8), (111 : UInt8), (114 : UInt8), (100 : UInt8), (111 : UInt8), (110 : UInt8)] == [(99 : UInt8), (111 : UInt8), (114 : UInt8), (100 : UInt8), (111 : UInt8), (110 : UInt8)])]]) (AV.int .i64 0) (show Gives cfg (34 : FuncId) [encN { name := a, cap := la, labels := lb, taints := lc, cordon := true : Node }] (AV.int .i64 0) from hck) ⟨rfl, rfl⟩ ⟨rfl, rfl⟩ <| .callG ([AV.int .i64 0]) (AV.tuple []) (show Gives cfg (94 : FuncId) [AV.int .i64 0] (AV.tuple []) from stop_ok) ⟨rfl, rfl⟩ ⟨rfl, rfl⟩ <| .fin ((ARes.ret (AV.tuple []), { boxes := [[AV.str s], [AV.str [], AV.sl .full [], AV.sl .full [], AV.sl .full [], AV.bool false], [AV.str a, AV.sl .sh (List.map encA la), AV.sl .sh (List.map encP lb), AV.sl .sh (List.map encT lc), AV.bool ([(99 : UInt8), (111 : UInt8), (114 : UInt8), (100 : UInt8), (111 : UInt8), (110 : UInt8)] == [(99 : UInt8), (111 : UInt8), (114 : UInt8), (100 : UInt8), (111 : UInt8), (110 : UInt8)])]], toks := [], loops := [] : Heap })) rfl) (by kernel_rfl)
                | false =>
                  have := hc2 rfl
                  subst this
                  exact goG 120 []  trivial  (.callG ([AV.str s, AV.str [(32 : UInt8)]]) (AV.sl .sh [AV.str a, AV.str b, AV.str c, AV.str d, AV.str [(117 : UInt8), (112 : UInt8)]]) (show Gives cfg (93 : FuncId) [AV.str s, AV.str [(32 : UInt8)]] (AV.sl .sh [AV.str a, AV.str b, AV.str c, AV.str d, AV.str upW]) from hsp') ⟨rfl, rfl⟩ ⟨rfl, rfl⟩ <| .len (show lenA false (AV.sl .sh [AV.str a, AV.str b, AV.str c, AV.str d, AV.str [(117 : UInt8), (112 : UInt8)]]) = some (AV.int .i64 (↑[AV.str a, AV.str b, AV.str c, AV.str d, AV.str [(117 : UInt8), (112 : UInt8)]].length : Int)) from len_sl _ _) <| .ff <| .idx (show idxA 1 (AV.sl .sh [AV.str a, AV.str b, AV.str c, AV.str d, AV.str [(117 : UInt8), (112 : UInt8)]]) (AV.int .i64 4) = some (AV.ref [AV.str [(117 : UInt8), (112 : UInt8)]]) from rfl) <| .ff <| .ff <| .idx (show idxA 1 (AV.sl .sh [AV.str a, AV.str b, AV.str c, AV.str d, AV.str [(117 : UInt8), (112 : UInt8)]]) (AV.int .i64 0) = some (AV.ref [AV.str a]) from rfl) <| .idx (show idxA 1 (AV.sl .sh [AV.str a, AV.str b, AV.str c, AV.str d, AV.str [(117 : UInt8), (112 : UInt8)]]) (AV.int .i64 1) = some (AV.ref [AV.str b]) from rfl) <| .callG ([AV.str b]) (AV.tuple [AV.sl .sh (List.map encA la), AV.int .i64 0]) (show Gives cfg (96 : FuncId) [AV.str b] (AV.tuple [rowF encA la, AV.int .i64 0]) from ra) ⟨rfl, rfl⟩ Res.p <| .callG ([AV.sl .sh (List.map encA la), AV.int .i64 0]) (AV.sl .sh (List.map encA la)) (show Gives cfg (95 : FuncId) [AV.sl .sh (List.map encA la), AV.int .i64 0] (AV.sl .sh (List.map encA la)) from take_A _) ⟨rfl, rfl⟩ ⟨rfl, rfl⟩ <| .idx (show idxA 1 (AV.sl .sh [AV.str a, AV.str b, AV.str c, AV.str d, AV.str [(117 : UInt8), (112 : UInt8)]]) (AV.int .i64 2) = some (AV.ref [AV.str c]) from rfl) <| .callG ([AV.str c]) (AV.tuple [AV.sl .sh (List.map encP lb), AV.int .i64 0]) (show Gives cfg (98 : FuncId) [AV.str c] (AV.tuple [AV.sl .sh (List.map encP lb), AV.int .i64 0]) from rp) ⟨rfl, rfl⟩ ⟨rfl, rfl⟩ <| .callG ([AV.sl .sh (List.map encP lb), AV.int .i64 0]) (AV.sl .sh (List.map encP lb)) (show Gives cfg (97 : FuncId) [AV.sl .sh (List.map encP lb), AV.int .i64 0] (AV.sl .sh (List.map encP lb)) from take_P _) ⟨rfl, rfl⟩ ⟨rfl, rfl⟩ <| .idx (show idxA 1 (AV.sl .sh [AV.str a, AV.str b, AV.str c, AV.str d, AV.str [(117 : UInt8), (112 : UInt8)]]) (AV.int .i64 3) = some (AV.ref [AV.str d]) from rfl) <| .callG ([AV.str d]) (AV.tuple [AV.sl .sh (List.map encT lc), AV.int .i64 0]) (show Gives cfg (100 : FuncId) [AV.str d] (AV.tuple [AV.sl .sh (List.map encT lc), AV.int .i64 0]) from rt) ⟨rfl, rfl⟩ ⟨rfl, rfl⟩ <| .callG ([AV.sl .sh (List.map encT lc), AV.int .i64 0]) (AV.sl .sh (List.map encT lc)) (show Gives cfg (99 : FuncId) [AV.sl .sh (List.map encT lc), AV.int .i64 0] (AV.sl .sh (List.map encT lc)) from take_T _) ⟨rfl, rfl⟩ ⟨rfl, rfl⟩ <| .idx (show idxA 1 (AV.sl .sh [AV.str a, AV.str b, AV.str c, AV.str d, AV.str [(117 : UInt8), (112 : UInt8)]]) (AV.int .i64 4) = some (AV.ref [AV.str [(117 : UInt8), (112 : UInt8)]]) from rfl) <| .callG ([AV.agg [AV.str a, AV.sl .sh (List.map encA la), AV.sl .sh (List.map encP lb), AV.sl .sh (List.map encT lc), AV.bool ([(117 : UInt8), (112 : UInt8)] == [(99 : UInt8), (111 : UInt8), (114 : UInt8), (100 : UInt8), (111 : UInt8), (110 : UInt8)])]]) (AV.int .i64 0) (show Gives cfg (34 : FuncId) [encN { name := a, cap := la, labels := lb, taints := lc, cordon := false : Node }] (AV.int .i64 0) from hck) ⟨rfl, rfl⟩ ⟨rfl, rfl⟩ <| .callG ([AV.int .i64 0]) (AV.tuple []) (show Gives cfg (94 : FuncId) [AV.int .i64 0] (AV.tuple []) from stop_ok) ⟨rfl, rfl⟩ ⟨rfl, rfl⟩ <| .fin ((ARes.ret (AV.tuple []), { boxes := [[AV.str s], [AV.str [], AV.sl .full [], AV.sl .full [], AV.sl .full [], AV.bool false], [AV.str a, AV.sl .sh (List.map encA la), AV.sl .sh (List.map encP lb), AV.sl .sh (List.map encT lc), AV.bool ([(117 : UInt8), (112 : UInt8)] == [(99 : UInt8), (111 : UInt8), (114 : UInt8), (100 : UInt8), (111 : UInt8), (110 : UInt8)])]], toks := [], loops := [] : Heap })) rfl) (by kernel_rfl)
              obtain ⟨r, k1, rfl⟩ := clo _ h1
              rw [lim_try rfl, k1]; rfl
            · rw [if_neg e4] at er
              have hst := stop_pan e4
              generalize ckN ⟨a, la, lb, lc, co⟩ = ck at *
              right
              refine bad _ (encN ⟨a, la, lb, lc, co⟩).cells rfl e4 er ?_
              cases co with
              | true =>
                have := hc1 rfl
                subst this
                exact goG 120 []  trivial  (.callG ([AV.str s, AV.str [(32 : UInt8)]]) (AV.sl .sh [AV.str a, AV.str b, AV.str c, AV.str d, AV.str [(99 : UInt8), (111 : UInt8), (114 : UInt8), (100 : UInt8), (111 : UInt8), (110 : UInt8)]]) (show Gives cfg (93 : FuncId) [AV.str s, AV.str [(32 : UInt8)]] (AV.sl .sh [AV.str a, AV.str b, AV.str c, AV.str d, AV.str coW]) from hsp') ⟨rfl, rfl⟩ ⟨rfl, rfl⟩ <| .len (show lenA false (AV.sl .sh [AV.str a, AV.str b, AV.str c, AV.str d, AV.str [(99 : UInt8), (111 : UInt8), (114 : UInt8), (100 : UInt8), (111 : UInt8), (110 : UInt8)]]) = some (AV.int .i64 (↑[AV.str a, AV.str b, AV.str c, AV.str d, AV.str [(99 : UInt8), (111 : UInt8), (114 : UInt8), (100 : UInt8), (111 : UInt8), (110 : UInt8)]].length : Int)) from len_sl _ _) <| .ff <| .idx (show idxA 1 (AV.sl .sh [AV.str a, AV.str b, AV.str c, AV.str d, AV.str [(99 : UInt8), (111 : UInt8), (114 : UInt8), (100 : UInt8), (111 : UInt8), (110 : UInt8)]]) (AV.int .i64 4) = some (AV.ref [AV.str [(99 : UInt8), (111 : UInt8), (114 : UInt8), (100 : UInt8), (111 : UInt8), (110 : UInt8)]]) from rfl) <| .tt <| .idx (show idxA 1 (AV.sl .sh [AV.str a, AV.str b, AV.str c, AV.str d, AV.str [(99 : UInt8), (111 : UInt8), (114 : UInt8), (100 : UInt8), (111 : UInt8), (110 : UInt8)]]) (AV.int .i64 4) = some (AV.ref [AV.str [(99 : UInt8), (111 : UInt8), (114 : UInt8), (100 : UInt8), (111 : UInt8), (110 : UInt8)]]) from rfl) <| .ff <| .idx (show idxA 1 (AV.sl .sh [AV.str a, AV.str b, AV.str c, AV.str d, AV.str [(99 : UInt8), (111 : UInt8), (114 : UInt8), (100 : UInt8), (111 : UInt8), (110 : UInt8)]]) (AV.int .i64 0) = some (AV.ref [AV.str a]) from rfl) <| .idx (show idxA 1 (AV.sl .sh [AV.str a, AV.str b, AV.str c, AV.str d, AV.str [(99 : UInt8), (111 : UInt8), (114 : UInt8), (100 : UInt8), (111 : UInt8), (110 : UInt8)]]) (AV.int .i64 1) = some (AV.ref [AV.str b]) from rfl) <| .callG ([AV.str b]) (AV.tuple [AV.sl .sh (List.map encA la), AV.int .i64 0]) (show Gives cfg (96 : FuncId) [AV.str b] (AV.tuple [rowF encA la, AV.int .i64 0]) from ra) ⟨rfl, rfl⟩ Res.p <| .callG ([AV.sl .sh (List.map encA la), AV.int .i64 0]) (AV.sl .sh (List.map encA la)) (show Gives cfg (95 : FuncId) [AV.sl .sh (List.map encA la), AV.int .i64 0] (AV.sl .sh (List.map encA la)) from take_A _) ⟨rfl, rfl⟩ ⟨rfl, rfl⟩ <| .idx (show idxA 1 (AV.sl .sh [AV.str a, AV.str b, AV.str c, AV.str d, AV.str [(99 : UInt8), (111 : UInt8), (114 : UInt8), (100 : UInt8), (111 : UInt8), (110 : UInt8)]]) (AV.int .i64 2) = some (AV.ref [AV.str c]) from rfl) <| .callG ([AV.str c]) (AV.tuple [AV.sl .sh (List.map encP lb), AV.int .i64 0]) (show Gives cfg (98 : FuncId) [AV.str c] (AV.tuple [AV.sl .sh (List.map encP lb), AV.int .i64 0]) from rp) ⟨rfl, rfl⟩ ⟨rfl, rfl⟩ <| .callG ([AV.sl .sh (List.map encP lb), AV.int .i64 0]) (AV.sl .sh (List.map encP lb)) (show Gives cfg (97 : FuncId) [AV.sl .sh (List.map encP lb), AV.int .i64 0] (AV.sl .sh (List.map encP lb)) from take_P _) ⟨rfl, rfl⟩ ⟨rfl, rfl⟩ <| .idx (show idxA 1 (AV.sl .sh [AV.str a, AV.str b, AV.str c, AV.str d, AV.str [(99 : UInt8), (111 : UInt8), (114 : UInt8), (100 : UInt8), (111 : UInt8), (110 : UInt8)]]) (AV.int .i64 3) = some (AV.ref [AV.str d]) from rfl) <| .callG ([AV.str d]) (AV.tuple [AV.sl .sh (List.map encT lc), AV.int .i64 0]) (show Gives cfg (100 : FuncId) [AV.str d] (AV.tuple [AV.sl .sh (List.map encT lc), AV.int .i64 0]) from rt) ⟨rfl, rfl⟩ ⟨rfl, rfl⟩ <| .callG ([AV.sl .sh (List.map encT lc), AV.int .i64 0]) (AV.sl .sh (List.map encT lc)) (show Gives cfg (99 : FuncId) [AV.sl .sh (List.map encT lc), AV.int .i64 0] (AV.sl .sh (List.map encT lc)) from take_T _) ⟨rfl, rfl⟩ ⟨rfl, rfl⟩ <| .idx (show idxA 1 (AV.sl .sh [AV.str a, AV.str b, AV.str c, AV.str d, AV.str [(99 : UInt8), (111 : UInt8), (114 : UInt8), (100 : UInt8), (111 : UInt8), (110 : UInt8)]]) (AV.int .i64 4) = some (AV.ref [AV.str [(99 : UInt8), (111 : UInt8), (114 : UInt8), (100 : UInt8), (111 : UInt8), (110 : UInt8)]]) from rfl) <| .callG ([AV.agg [AV.str a, AV.sl .sh (List.map encA la), AV.sl .sh (List.map encP lb), AV.sl .sh (List.map encT lc), AV.bool ([(99 : UInt8), (111 : UInt8), (114 : UInt8), (100 : UInt8), (111 : UInt8), (110 : UInt8)] == [(99 : UInt8), (111 : UInt8), (114 : UInt8), (100 : UInt8), (111 : UInt8), (110 : UInt8)])]]) (AV.int .i64 ck) (show Gives cfg (34 : FuncId) [encN { name := a, cap := la, labels := lb, taints := lc, cordon := true : Node }] (AV.int .i64 ck) from hck) ⟨rfl, rfl⟩ ⟨rfl, rfl⟩ <| .callP ([AV.int .i64 ck]) ({ boxes := [[AV.str s], [AV.str [], AV.sl .full [], AV.sl .full [], AV.sl .full [], AV.bool false], [AV.str a, AV.sl .sh (List.map encA la), AV.sl .sh (List.map encP lb), AV.sl .sh (List.map encT lc), AV.bool ([(99 : UInt8), (111 : UInt8), (114 : UInt8), (100 : UInt8), (111 : UInt8), (110 : UInt8)] == [(99 : UInt8), (111 : UInt8), (114 : UInt8), (100 : UInt8), (111 : UInt8), (110 : UInt8)])]], toks := [], loops := [] : Heap }) (show Pans cfg (94 : FuncId) [AV.int .i64 ck] (stopV ck) from hst) ⟨rfl, rfl⟩ rfl rfl) (by kernel_rfl)
              | false =>
                have := hc2 rfl
                subst this
                exact goG 120 []  trivial  (.callG ([AV.str s, AV.str [(32 : UInt8)]]) (AV.sl .sh [AV.str a, AV.str b, AV.str c, AV.str d, AV.str [(117 : UInt8), (112 : UInt8)]]) (show Gives cfg (93 : FuncId) [AV.str s, AV.str [(32 : UInt8)]] (AV.sl .sh [AV.str a, AV.str b, AV.str c, AV.str d, AV.str upW]) from hsp') ⟨rfl, rfl⟩ ⟨rfl, rfl⟩ <| .len (show lenA false (AV.sl .sh [AV.str a, AV.str b, AV.str c, AV.str d, AV.str [(117 : UInt8), (112 : UInt8)]]) = some (AV.int .i64 (↑[AV.str a, AV.str b, AV.str c, AV.str d, AV.str [(117 : UInt8), (112 : UInt8)]].length : Int)) from len_sl _ _) <| .ff <| .idx (show idxA 1 (AV.sl .sh [AV.str a, AV.str b, AV.str c, AV.str d, AV.str [(117 : UInt8), (112 : UInt8)]]) (AV.int .i64 4) = some (AV.ref [AV.str [(117 : UInt8), (112 : UInt8)]]) from rfl) <| .ff <| .ff <| .idx (show idxA 1 (AV.sl .sh [AV.str a, AV.str b, AV.str c, AV.str d, AV.str [(117 : UInt8), (112 : UInt8)]]) (AV.int .i64 0) = some (AV.ref [AV.str a]) from rfl) <| .idx (show idxA 1 (AV.sl .sh [AV.str a, AV.str b, AV.str c, AV.str d, AV.str [(117 : UInt8), (112 : UInt8)]]) (AV.int .i64 1) = some (AV.ref [AV.str b]) from rfl) <| .callG ([AV.str b]) (AV.tuple [AV.sl .sh (List.map encA la), AV.int .i64 0]) (show Gives cfg (96 : FuncId) [AV.str b] (AV.tuple [rowF encA la, AV.int .i64 0]) from ra) ⟨rfl, rfl⟩ Res.p <| .callG ([AV.sl .sh (List.map encA la), AV.int .i64 0]) (AV.sl .sh (List.map encA la)) (show Gives cfg (95 : FuncId) [AV.sl .sh (List.map encA la), AV.int .i64 0] (AV.sl .sh (List.map encA la)) from take_A _) ⟨rfl, rfl⟩ ⟨rfl, rfl⟩ <| .idx (show idxA 1 (AV.sl .sh [AV.str a, AV.str b, AV.str c, AV.str d, AV.str [(117 : UInt8), (112 : UInt8)]]) (AV.int .i64 2) = some (AV.ref [AV.str c]) from rfl) <| .callG ([AV.str c]) (AV.tuple [AV.sl .sh (List.map encP lb), AV.int .i64 0]) (show Gives cfg (98 : FuncId) [AV.str c] (AV.tuple [AV.sl .sh (List.map encP lb), AV.int .i64 0]) from rp) ⟨rfl, rfl⟩ ⟨rfl, rfl⟩ <| .callG ([AV.sl .sh (List.map encP lb), AV.int .i64 0]) (AV.sl .sh (List.map encP lb)) (show Gives cfg (97 : FuncId) [AV.sl .sh (List.map encP lb), AV.int .i64 0] (AV.sl .sh (List.map encP lb)) from take_P _) ⟨rfl, rfl⟩ ⟨rfl, rfl⟩ <| .idx (show idxA 1 (AV.sl .sh [AV.str a, AV.str b, AV.str c, AV.str d, AV.str [(117 : UInt8), (112 : UInt8)]]) (AV.int .i64 3) = some (AV.ref [AV.str d]) from rfl) <| .callG ([AV.str d]) (AV.tuple [AV.sl .sh (List.map encT lc), AV.int .i64 0]) (show Gives cfg (100 : FuncId) [AV.str d] (AV.tuple [AV.sl .sh (List.map encT lc), AV.int .i64 0]) from rt) ⟨rfl, rfl⟩ ⟨rfl, rfl⟩ <| .callG ([AV.sl .sh (List.map encT lc), AV.int .i64 0]) (AV.sl .sh (List.map encT lc)) (show Gives cfg (99 : FuncId) [AV.sl .sh (List.map encT lc), AV.int .i64 0] (AV.sl .sh (List.map encT lc)) from take_T _) ⟨rfl, rfl⟩ ⟨rfl, rfl⟩ <| .idx (show idxA 1 (AV.sl .sh [AV.str a, AV.str b, AV.str c, AV.str d, AV.str [(117 : UInt8), (112 : UInt8)]]) (AV.int .i64 4) = some (AV.ref [AV.str [(117 : UInt8), (112 : UInt8)]]) from rfl) <| .callG ([AV.agg [AV.str a, AV.sl .sh (List.map encA la), AV.sl .sh (List.map encP lb), AV.sl .sh (List.map encT lc), AV.bool ([(117 : UInt8), (112 : UInt8)] == [(99 : UInt8), (111 : UInt8), (114 : UInt8), (100 : UInt8), (111 : UInt8), (110 : UInt8)])]]) (AV.int .i64 ck) (show Gives cfg (34 : FuncId) [encN { name := a, cap := la, labels := lb, taints := lc, cordon := false : Node }] (AV.int .i64 ck) from hck) ⟨rfl, rfl⟩ ⟨rfl, rfl⟩ <| .callP ([AV.int .i64 ck]) ({ boxes := [[AV.str s], [AV.str [], AV.sl .full [], AV.sl .full [], AV.sl .full [], AV.bool false], [AV.str a, AV.sl .sh (List.map encA la), AV.sl .sh (List.map encP lb), AV.sl .sh (List.map encT lc), AV.bool ([(117 : UInt8), (112 : UInt8)] == [(99 : UInt8), (111 : UInt8), (114 : UInt8), (100 : UInt8), (111 : UInt8), (110 : UInt8)])]], toks := [], loops := [] : Heap }) (show Pans cfg (94 : FuncId) [AV.int .i64 ck] (stopV ck) from hst) ⟨rfl, rfl⟩ rfl rfl) (by kernel_rfl)
          · rw [if_neg e3] at er
            right
            refine bad _ zN.cells rfl e3 er ?_
            have hst := fun l => takeN_T l e3
            cases co with
            | true =>
              have := hc1 rfl
              subst this
              exact goG 120 []  trivial  (.callG ([AV.str s, AV.str [(32 : UInt8)]]) (AV.sl .sh [AV.str a, AV.str b, AV.str c, AV.str d, AV.str [(99 : UInt8), (111 : UInt8), (114 : UInt8), (100 : UInt8), (111 : UInt8), (110 : UInt8)]]) (show Gives cfg (93 : FuncId) [AV.str s, AV.str [(32 : UInt8)]] (AV.sl .sh [AV.str a, AV.str b, AV.str c, AV.str d, AV.str coW]) from hsp') ⟨rfl, rfl⟩ ⟨rfl, rfl⟩ <| .len (show lenA false (AV.sl .sh [AV.str a, AV.str b, AV.str c, AV.str d, AV.str [(99 : UInt8), (111 : UInt8), (114 : UInt8), (100 : UInt8), (111 : UInt8), (110 : UInt8)]]) = some (AV.int .i64 (↑[AV.str a, AV.str b, AV.str c, AV.str d, AV.str [(99 : UInt8), (111 : UInt8), (114 : UInt8), (100 : UInt8), (111 : UInt8), (110 : UInt8)]].length : Int)) from len_sl _ _) <| .ff <| .idx (show idxA 1 (AV.sl .sh [AV.str a, AV.str b, AV.str c, AV.str d, AV.str [(99 : UInt8), (111 : UInt8), (114 : UInt8), (100 : UInt8), (111 : UInt8), (110 : UInt8)]]) (AV.int .i64 4) = some (AV.ref [AV.str [(99 : UInt8), (111 : UInt8), (114 : UInt8), (100 : UInt8), (111 : UInt8), (110 : UInt8)]]) from rfl) <| .tt <| .idx (show idxA 1 (AV.sl .sh [AV.str a, AV.str b, AV.str c, AV.str d, AV.str [(99 : UInt8), (111 : UInt8), (114 : UInt8), (100 : UInt8), (111 : UInt8), (110 : UInt8)]]) (AV.int .i64 4) = some (AV.ref [AV.str [(99 : UInt8), (111 : UInt8), (114 : UInt8), (100 : UInt8), (111 : UInt8), (110 : UInt8)]]) from rfl) <| .ff <| .idx (show idxA 1 (AV.sl .sh [AV.str a, AV.str b, AV.str c, AV.str d, AV.str [(99 : UInt8), (111 : UInt8), (114 : UInt8), (100 : UInt8), (111 : UInt8), (110 : UInt8)]]) (AV.int .i64 0) = some (AV.ref [AV.str a]) from rfl) <| .idx (show idxA 1 (AV.sl .sh [AV.str a, AV.str b, AV.str c, AV.str d, AV.str [(99 : UInt8), (111 : UInt8), (114 : UInt8), (100 : UInt8), (111 : UInt8), (110 : UInt8)]]) (AV.int .i64 1) = some (AV.ref [AV.str b]) from rfl) <| .callG ([AV.str b]) (AV.tuple [AV.sl .sh (List.map encA la), AV.int .i64 0]) (show Gives cfg (96 : FuncId) [AV.str b] (AV.tuple [rowF encA la, AV.int .i64 0]) from ra) ⟨rfl, rfl⟩ Res.p <| .callG ([AV.sl .sh (List.map encA la), AV.int .i64 0]) (AV.sl .sh (List.map encA la)) (show Gives cfg (95 : FuncId) [AV.sl .sh (List.map encA la), AV.int .i64 0] (AV.sl .sh (List.map encA la)) from take_A _) ⟨rfl, rfl⟩ ⟨rfl, rfl⟩ <| .idx (show idxA 1 (AV.sl .sh [AV.str a, AV.str b, AV.str c, AV.str d, AV.str [(99 : UInt8), (111 : UInt8), (114 : UInt8), (100 : UInt8), (111 : UInt8), (110 : UInt8)]]) (AV.int .i64 2) = some (AV.ref [AV.str c]) from rfl) <| .callG ([AV.str c]) (AV.tuple [AV.sl .sh (List.map encP lb), AV.int .i64 0]) (show Gives cfg (98 : FuncId) [AV.str c] (AV.tuple [AV.sl .sh (List.map encP lb), AV.int .i64 0]) from rp) ⟨rfl, rfl⟩ ⟨rfl, rfl⟩ <| .callG ([AV.sl .sh (List.map encP lb), AV.int .i64 0]) (AV.sl .sh (List.map encP lb)) (show Gives cfg (97 : FuncId) [AV.sl .sh (List.map encP lb), AV.int .i64 0] (AV.sl .sh (List.map encP lb)) from take_P _) ⟨rfl, rfl⟩ ⟨rfl, rfl⟩ <| .idx (show idxA 1 (AV.sl .sh [AV.str a, AV.str b, AV.str c, AV.str d, AV.str [(99 : UInt8), (111 : UInt8), (114 : UInt8), (100 : UInt8), (111 : UInt8), (110 : UInt8)]]) (AV.int .i64 3) = some (AV.ref [AV.str d]) from rfl) <| .callG ([AV.str d]) (AV.tuple [AV.sl .sh (List.map encT lc), AV.int .i64 ec]) (show Gives cfg (100 : FuncId) [AV.str d] (AV.tuple [AV.sl .sh (List.map encT lc), AV.int .i64 ec]) from rt) ⟨rfl, rfl⟩ ⟨rfl, rfl⟩ <| .callP ([AV.sl .sh (List.map encT lc), AV.int .i64 ec]) ({ boxes := [[AV.str s], [AV.str [], AV.sl .full [], AV.sl .full [], AV.sl .full [], AV.bool false], [AV.str [], AV.sl .full [], AV.sl .full [], AV.sl .full [], AV.bool false]], toks := [], loops := [] : Heap }) (show Pans cfg (99 : FuncId) [AV.sl .sh (List.map encT lc), AV.int .i64 ec] (stopV ec) from hst _) ⟨rfl, rfl⟩ rfl rfl) (by kernel_rfl)
            | false =>
              have := hc2 rfl
              subst this
              exact goG 120 []  trivial  (.callG ([AV.str s, AV.str [(32 : UInt8)]]) (AV.sl .sh [AV.str a, AV.str b, AV.str c, AV.str d, AV.str [(117 : UInt8), (112 : UInt8)]]) (show Gives cfg (93 : FuncId) [AV.str s, AV.str [(32 : UInt8)]] (AV.sl .sh [AV.str a, AV.str b, AV.str c, AV.str d, AV.str upW]) from hsp') ⟨rfl, rfl⟩ ⟨rfl, rfl⟩ <| .len (show lenA false (AV.sl .sh [AV.str a, AV.str b, AV.str c, AV.str d, AV.str [(117 : UInt8), (112 : UInt8)]]) = some (AV.int .i64 (↑[AV.str a, AV.str b, AV.str c, AV.str d, AV.str [(117 : UInt8), (112 : UInt8)]].length : Int)) from len_sl _ _) <| .ff <| .idx (show idxA 1 (AV.sl .sh [AV.str a, AV.str b, AV.str c, AV.str d, AV.str [(117 : UInt8), (112 : UInt8)]]) (AV.int .i64 4) = some (AV.ref [AV.str [(117 : UInt8), (112 : UInt8)]]) from rfl) <| .ff <| .ff <| .idx (show idxA 1 (AV.sl .sh [AV.str a, AV.str b, AV.str c, AV.str d, AV.str [(117 : UInt8), (112 : UInt8)]]) (AV.int .i64 0) = some (AV.ref [AV.str a]) from rfl) <| .idx (show idxA 1 (AV.sl .sh [AV.str a, AV.str b, AV.str c, AV.str d, AV.str [(117 : UInt8), (112 : UInt8)]]) (AV.int .i64 1) = some (AV.ref [AV.str b]) from rfl) <| .callG ([AV.str b]) (AV.tuple [AV.sl .sh (List.map encA la), AV.int .i64 0]) (show Gives cfg (96 : FuncId) [AV.str b] (AV.tuple [rowF encA la, AV.int .i64 0]) from ra) ⟨rfl, rfl⟩ Res.p <| .callG ([AV.sl .sh (List.map encA la), AV.int .i64 0]) (AV.sl .sh (List.map encA la)) (show Gives cfg (95 : FuncId) [AV.sl .sh (List.map encA la), AV.int .i64 0] (AV.sl .sh (List.map encA la)) from take_A _) ⟨rfl, rfl⟩ ⟨rfl, rfl⟩ <| .idx (show idxA 1 (AV.sl .sh [AV.str a, AV.str b, AV.str c, AV.str d, AV.str [(117 : UInt8), (112 : UInt8)]]) (AV.int .i64 2) = some (AV.ref [AV.str c]) from rfl) <| .callG ([AV.str c]) (AV.tuple [AV.sl .sh (List.map encP lb), AV.int .i64 0]) (show Gives cfg (98 : FuncId) [AV.str c] (AV.tuple [AV.sl .sh (List.map encP lb), AV.int .i64 0]) from rp) ⟨rfl, rfl⟩ ⟨rfl, rfl⟩ <| .callG ([AV.sl .sh (List.map encP lb), AV.int .i64 0]) (AV.sl .sh (List.map encP lb)) (show Gives cfg (97 : FuncId) [AV.sl .sh (List.map encP lb), AV.int .i64 0] (AV.sl .sh (List.map encP lb)) from take_P _) ⟨rfl, rfl⟩ ⟨rfl, rfl⟩ <| .idx (show idxA 1 (AV.sl .sh [AV.str a, AV.str b, AV.str c, AV.str d, AV.str [(117 : UInt8), (112 : UInt8)]]) (AV.int .i64 3) = some (AV.ref [AV.str d]) from rfl) <| .callG ([AV.str d]) (AV.tuple [AV.sl .sh (List.map encT lc), AV.int .i64 ec]) (show Gives cfg (100 : FuncId) [AV.str d] (AV.tuple [AV.sl .sh (List.map encT lc), AV.int .i64 ec]) from rt) ⟨rfl, rfl⟩ ⟨rfl, rfl⟩ <| .callP ([AV.sl .sh (List.map encT lc), AV.int .i64 ec]) ({ boxes := [[AV.str s], [AV.str [], AV.sl .full [], AV.sl .full [], AV.sl .full [], AV.bool false], [AV.str [], AV.sl .full [], AV.sl .full [], AV.sl .full [], AV.bool false]], toks := [], loops := [] : Heap }) (show Pans cfg (99 : FuncId) [AV.sl .sh (List.map encT lc), AV.int .i64 ec] (stopV ec) from hst _) ⟨rfl, rfl⟩ rfl rfl) (by kernel_rfl)
        · rw [if_neg e2] at er
          right
          refine bad _ zN.cells rfl e2 er ?_
          have hst := fun l => takeN_P l e2
          cases co with
          | true =>
            have := hc1 rfl
            subst this
            exact goG 120 []  trivial  (.callG ([AV.str s, AV.str [(32 : UInt8)]]) (AV.sl .sh [AV.str a, AV.str b, AV.str c, AV.str d, AV.str [(99 : UInt8), (111 : UInt8), (114 : UInt8), (100 : UInt8), (111 : UInt8), (110 : UInt8)]]) (show Gives cfg (93 : FuncId) [AV.str s, AV.str [(32 : UInt8)]] (AV.sl .sh [AV.str a, AV.str b, AV.str c, AV.str d, AV.str coW]) from hsp') ⟨rfl, rfl⟩ ⟨rfl, rfl⟩ <| .len (show lenA false (AV.sl .sh [AV.str a, AV.str b, AV.str c, AV.str d, AV.str [(99 : UInt8), (111 : UInt8), (114 : UInt8), (100 : UInt8), (111 : UInt8), (110 : UInt8)]]) = some (AV.int .i64 (↑[AV.str a, AV.str b, AV.str c, AV.str d, AV.str [(99 : UInt8), (111 : UInt8), (114 : UInt8), (100 : UInt8), (111 : UInt8), (110 : UInt8)]].length : Int)) from len_sl _ _) <| .ff <| .idx (show idxA 1 (AV.sl .sh [AV.str a, AV.str b, AV.str c, AV.str d, AV.str [(99 : UInt8), (111 : UInt8), (114 : UInt8), (100 : UInt8), (111 : UInt8), (110 : UInt8)]]) (AV.int .i64 4) = some (AV.ref [AV.str [(99 : UInt8), (111 : UInt8), (114 : UInt8), (100 : UInt8), (111 : UInt8), (110 : UInt8)]]) from rfl) <| .tt <| .idx (show idxA 1 (AV.sl .sh [AV.str a, AV.str b, AV.str c, AV.str d, AV.str [(99 : UInt8), (111 : UInt8), (114 : UInt8), (100 : UInt8), (111 : UInt8), (110 : UInt8)]]) (AV.int .i64 4) = some (AV.ref [AV.str [(99 : UInt8), (111 : UInt8), (114 : UInt8), (100 : UInt8), (111 : UInt8), (110 : UInt8)]]) from rfl) <| .ff <| .idx (show idxA 1 (AV.sl .sh [AV.str a, AV.str b, AV.str c, AV.str d, AV.str [(99 : UInt8), (111 : UInt8), (114 : UInt8), (100 : UInt8), (111 : UInt8), (110 : UInt8)]]) (AV.int .i64 0) = some (AV.ref [AV.str a]) from rfl) <| .idx (show idxA 1 (AV.sl .sh [AV.str a, AV.str b, AV.str c, AV.str d, AV.str [(99 : UInt8), (111 : UInt8), (114 : UInt8), (100 : UInt8), (111 : UInt8), (110 : UInt8)]]) (AV.int .i64 1) = some (AV.ref [AV.str b]) from rfl) <| .callG ([AV.str b]) (AV.tuple [AV.sl .sh (List.map encA la), AV.int .i64 0]) (show Gives cfg (96 : FuncId) [AV.str b] (AV.tuple [rowF encA la, AV.int .i64 0]) from ra) ⟨rfl, rfl⟩ Res.p <| .callG ([AV.sl .sh (List.map encA la), AV.int .i64 0]) (AV.sl .sh (List.map encA la)) (show Gives cfg (95 : FuncId) [AV.sl .sh (List.map encA la), AV.int .i64 0] (AV.sl .sh (List.map encA la)) from take_A _) ⟨rfl, rfl⟩ ⟨rfl, rfl⟩ <| .idx (show idxA 1 (AV.sl .sh [AV.str a, AV.str b, AV.str c, AV.str d, AV.str [(99 : UInt8), (111 : UInt8), (114 : UInt8), (100 : UInt8), (111 : UInt8), (110 : UInt8)]]) (AV.int .i64 2) = some (AV.ref [AV.str c]) from rfl) <| .callG ([AV.str c]) (AV.tuple [AV.sl .sh (List.map encP lb), AV.int .i64 eb]) (show Gives cfg (98 : FuncId) [AV.str c] (AV.tuple [AV.sl .sh (List.map encP lb), AV.int .i64 eb]) from rp) ⟨rfl, rfl⟩ ⟨rfl, rfl⟩ <| .callP ([AV.sl .sh (List.map encP lb), AV.int .i64 eb]) ({ boxes := [[AV.str s], [AV.str [], AV.sl .full [], AV.sl .full [], AV.sl .full [], AV.bool false], [AV.str [], AV.sl .full [], AV.sl .full [], AV.sl .full [], AV.bool false]], toks := [], loops := [] : Heap }) (show Pans cfg (97 : FuncId) [AV.sl .sh (List.map encP lb), AV.int .i64 eb] (stopV eb) from hst _) ⟨rfl, rfl⟩ rfl rfl) (by kernel_rfl)
          | false =>
            have := hc2 rfl
            subst this
            exact goG 120 []  trivial  (.callG ([AV.str s, AV.str [(32 : UInt8)]]) (AV.sl .sh [AV.str a, AV.str b, AV.str c, AV.str d, AV.str [(117 : UInt8), (112 : UInt8)]]) (show Gives cfg (93 : FuncId) [AV.str s, AV.str [(32 : UInt8)]] (AV.sl .sh [AV.str a, AV.str b, AV.str c, AV.str d, AV.str upW]) from hsp') ⟨rfl, rfl⟩ ⟨rfl, rfl⟩ <| .len (show lenA false (AV.sl .sh [AV.str a, AV.str b, AV.str c, AV.str d, AV.str [(117 : UInt8), (112 : UInt8)]]) = some (AV.int .i64 (↑[AV.str a, AV.str b, AV.str c, AV.str d, AV.str [(117 : UInt8), (112 : UInt8)]].length : Int)) from len_sl _ _) <| .ff <| .idx (show idxA 1 (AV.sl .sh [AV.str a, AV.str b, AV.str c, AV.str d, AV.str [(117 : UInt8), (112 : UInt8)]]) (AV.int .i64 4) = some (AV.ref [AV.str [(117 : UInt8), (112 : UInt8)]]) from rfl) <| .ff <| .ff <| .idx (show idxA 1 (AV.sl .sh [AV.str a, AV.str b, AV.str c, AV.str d, AV.str [(117 : UInt8), (112 : UInt8)]]) (AV.int .i64 0) = some (AV.ref [AV.str a]) from rfl) <| .idx (show idxA 1 (AV.sl .sh [AV.str a, AV.str b, AV.str c, AV.str d, AV.str [(117 : UInt8), (112 : UInt8)]]) (AV.int .i64 1) = some (AV.ref [AV.str b]) from rfl) <| .callG ([AV.str b]) (AV.tuple [AV.sl .sh (List.map encA la), AV.int .i64 0]) (show Gives cfg (96 : FuncId) [AV.str b] (AV.tuple [rowF encA la, AV.int .i64 0]) from ra) ⟨rfl, rfl⟩ Res.p <| .callG ([AV.sl .sh (List.map encA la), AV.int .i64 0]) (AV.sl .sh (List.map encA la)) (show Gives cfg (95 : FuncId) [AV.sl .sh (List.map encA la), AV.int .i64 0] (AV.sl .sh (List.map encA la)) from take_A _) ⟨rfl, rfl⟩ ⟨rfl, rfl⟩ <| .idx (show idxA 1 (AV.sl .sh [AV.str a, AV.str b, AV.str c, AV.str d, AV.str [(117 : UInt8), (112 : UInt8)]]) (AV.int .i64 2) = some (AV.ref [AV.str c]) from rfl) <| .callG ([AV.str c]) (AV.tuple [AV.sl .sh (List.map encP lb), AV.int .i64 eb]) (show Gives cfg (98 : FuncId) [AV.str c] (AV.tuple [AV.sl .sh (List.map encP lb), AV.int .i64 eb]) from rp) ⟨rfl, rfl⟩ ⟨rfl, rfl⟩ <| .callP ([AV.sl .sh (List.map encP lb), AV.int .i64 eb]) ({ boxes := [[AV.str s], [AV.str [], AV.sl .full [], AV.sl .full [], AV.sl .full [], AV.bool false], [AV.str [], AV.sl .full [], AV.sl .full [], AV.sl .full [], AV.bool false]], toks := [], loops := [] : Heap }) (show Pans cfg (97 : FuncId) [AV.sl .sh (List.map encP lb), AV.int .i64 eb] (stopV eb) from hst _) ⟨rfl, rfl⟩ rfl rfl) (by kernel_rfl)
      · rw [if_neg e1] at er
        right
        refine bad _ zN.cells rfl e1 er ?_
        have hst := fun l => takeN_A l e1
        cases co with
        | true =>
          have := hc1 rfl
          subst this
          exact goG 120 []  trivial  (.callG ([AV.str s, AV.str [(32 : UInt8)]]) (AV.sl .sh [AV.str a, AV.str b, AV.str c, AV.str d, AV.str [(99 : UInt8), (111 : UInt8), (114 : UInt8), (100 : UInt8), (111 : UInt8), (110 : UInt8)]]) (show Gives cfg (93 : FuncId) [AV.str s, AV.str [(32 : UInt8)]] (AV.sl .sh [AV.str a, AV.str b, AV.str c, AV.str d, AV.str coW]) from hsp') ⟨rfl, rfl⟩ ⟨rfl, rfl⟩ <| .len (show lenA false (AV.sl .sh [AV.str a, AV.str b, AV.str c, AV.str d, AV.str [(99 : UInt8), (111 : UInt8), (114 : UInt8), (100 : UInt8), (111 : UInt8), (110 : UInt8)]]) = some (AV.int .i64 (↑[AV.str a, AV.str b, AV.str c, AV.str d, AV.str [(99 : UInt8), (111 : UInt8), (114 : UInt8), (100 : UInt8), (111 : UInt8), (110 : UInt8)]].length : Int)) from len_sl _ _) <| .ff <| .idx (show idxA 1 (AV.sl .sh [AV.str a, AV.str b, AV.str c, AV.str d, AV.str [(99 : UInt8), (111 : UInt8), (114 : UInt8), (100 : UInt8), (111 : UInt8), (110 : UInt8)]]) (AV.int .i64 4) = some (AV.ref [AV.str [(99 : UInt8), (111 : UInt8), (114 : UInt8), (100 : UInt8), (111 : UInt8), (110 : UInt8)]]) from rfl) <| .tt <| .idx (show idxA 1 (AV.sl .sh [AV.str a, AV.str b, AV.str c, AV.str d, AV.str [(99 : UInt8), (111 : UInt8), (114 : UInt8), (100 : UInt8), (111 : UInt8), (110 : UInt8)]]) (AV.int .i64 4) = some (AV.ref [AV.str [(99 : UInt8), (111 : UInt8), (114 : UInt8), (100 : UInt8), (111 : UInt8), (110 : UInt8)]]) from rfl) <| .ff <| .idx (show idxA 1 (AV.sl .sh [AV.str a, AV.str b, AV.str c, AV.str d, AV.str [(99 : UInt8), (111 : UInt8), (114 : UInt8), (100 : UInt8), (111 : UInt8), (110 : UInt8)]]) (AV.int .i64 0) = some (AV.ref [AV.str a]) from rfl) <| .idx (show idxA 1 (AV.sl .sh [AV.str a, AV.str b, AV.str c, AV.str d, AV.str [(99 : UInt8), (111 : UInt8), (114 : UInt8), (100 : UInt8), (111 : UInt8), (110 : UInt8)]]) (AV.int .i64 1) = some (AV.ref [AV.str b]) from rfl) <| .callG ([AV.str b]) (AV.tuple [AV.sl .sh (List.map encA la), AV.int .i64 ea]) (show Gives cfg (96 : FuncId) [AV.str b] (AV.tuple [rowF encA la, AV.int .i64 ea]) from ra) ⟨rfl, rfl⟩ Res.p <| .callP ([AV.sl .sh (List.map encA la), AV.int .i64 ea]) ({ boxes := [[AV.str s], [AV.str [], AV.sl .full [], AV.sl .full [], AV.sl .full [], AV.bool false], [AV.str [], AV.sl .full [], AV.sl .full [], AV.sl .full [], AV.bool false]], toks := [], loops := [] : Heap }) (show Pans cfg (95 : FuncId) [AV.sl .sh (List.map encA la), AV.int .i64 ea] (stopV ea) from hst _) ⟨rfl, rfl⟩ rfl rfl) (by kernel_rfl)
        | false =>
          have := hc2 rfl
          subst this
          exact goG 120 []  trivial  (.callG ([AV.str s, AV.str [(32 : UInt8)]]) (AV.sl .sh [AV.str a, AV.str b, AV.str c, AV.str d, AV.str [(117 : UInt8), (112 : UInt8)]]) (show Gives cfg (93 : FuncId) [AV.str s, AV.str [(32 : UInt8)]] (AV.sl .sh [AV.str a, AV.str b, AV.str c, AV.str d, AV.str upW]) from hsp') ⟨rfl, rfl⟩ ⟨rfl, rfl⟩ <| .len (show lenA false (AV.sl .sh [AV.str a, AV.str b, AV.str c, AV.str d, AV.str [(117 : UInt8), (112 : UInt8)]]) = some (AV.int .i64 (↑[AV.str a, AV.str b, AV.str c, AV.str d, AV.str [(117 : UInt8), (112 : UInt8)]].length : Int)) from len_sl _ _) <| .ff <| .idx (show idxA 1 (AV.sl .sh [AV.str a, AV.str b, AV.str c, AV.str d, AV.str [(117 : UInt8), (112 : UInt8)]]) (AV.int .i64 4) = some (AV.ref [AV.str [(117 : UInt8), (112 : UInt8)]]) from rfl) <| .ff <| .ff <| .idx (show idxA 1 (AV.sl .sh [AV.str a, AV.str b, AV.str c, AV.str d, AV.str [(117 : UInt8), (112 : UInt8)]]) (AV.int .i64 0) = some (AV.ref [AV.str a]) from rfl) <| .idx (show idxA 1 (AV.sl .sh [AV.str a, AV.str b, AV.str c, AV.str d, AV.str [(117 : UInt8), (112 : UInt8)]]) (AV.int .i64 1) = some (AV.ref [AV.str b]) from rfl) <| .callG ([AV.str b]) (AV.tuple [AV.sl .sh (List.map encA la), AV.int .i64 ea]) (show Gives cfg (96 : FuncId) [AV.str b] (AV.tuple [rowF encA la, AV.int .i64 ea]) from ra) ⟨rfl, rfl⟩ Res.p <| .callP ([AV.sl .sh (List.map encA la), AV.int .i64 ea]) ({ boxes := [[AV.str s], [AV.str [], AV.sl .full [], AV.sl .full [], AV.sl .full [], AV.bool false], [AV.str [], AV.sl .full [], AV.sl .full [], AV.sl .full [], AV.bool false]], toks := [], loops := [] : Heap }) (show Pans cfg (95 : FuncId) [AV.sl .sh (List.map encA la), AV.int .i64 ea] (stopV ea) from hst _) ⟨rfl, rfl⟩ rfl rfl) (by kernel_rfl)
    · rw [if_neg he] at er
      right
      refine bad 2 zN.cells rfl (by decide) er ?_
      have he1 : ¬ e = [117, 112] := fun h => he (.inl h)
      have he2 : ¬ e = [99, 111, 114, 100, 111, 110] := fun h => he (.inr h)
      exact goG 120 []  trivial  (.callG ([AV.str s, AV.str [(32 : UInt8)]]) (AV.sl .sh [AV.str a, AV.str b, AV.str c, AV.str d, AV.str e]) (show Gives cfg (93 : FuncId) [AV.str s, AV.str [(32 : UInt8)]] (AV.sl .sh [AV.str a, AV.str b, AV.str c, AV.str d, AV.str e]) from hsp') ⟨rfl, rfl⟩ ⟨rfl, rfl⟩ <| .len (show lenA false (AV.sl .sh [AV.str a, AV.str b, AV.str c, AV.str d, AV.str e]) = some (AV.int .i64 (↑[AV.str a, AV.str b, AV.str c, AV.str d, AV.str e].length : Int)) from len_sl _ _) <| .ff <| .idx (show idxA 1 (AV.sl .sh [AV.str a, AV.str b, AV.str c, AV.str d, AV.str e]) (AV.int .i64 4) = some (AV.ref [AV.str e]) from rfl) <| .yes (show (!e == [(117 : UInt8), (112 : UInt8)]) = true from by have hh : ¬ ((e == [(117 : UInt8), (112 : UInt8)]) = true) := (by simpa using he1); simp [hh]) <| .idx (show idxA 1 (AV.sl .sh [AV.str a, AV.str b, AV.str c, AV.str d, AV.str e]) (AV.int .i64 4) = some (AV.ref [AV.str e]) from rfl) <| .yes (show (!e == [(99 : UInt8), (111 : UInt8), (114 : UInt8), (100 : UInt8), (111 : UInt8), (110 : UInt8)]) = true from by have hh : ¬ ((e == [(99 : UInt8), (111 : UInt8), (114 : UInt8), (100 : UInt8), (111 : UInt8), (110 : UInt8)]) = true) := (by simpa using he2); simp [hh]) <| .callP ([AV.int .i64 2]) ({ boxes := [[AV.str s], [AV.str [], AV.sl .full [], AV.sl .full [], AV.sl .full [], AV.bool false], [AV.str [], AV.sl .full [], AV.sl .full [], AV.sl .full [], AV.bool false]], toks := [], loops := [] : Heap }) (show Pans cfg (94 : FuncId) [AV.int .i64 2] (stopV (2 : Int)) from hs2) ⟨rfl, rfl⟩ rfl rfl) (by kernel_rfl)
  · right
    have er : readN s = (noN, 2) := by
      unfold readN
      split
      · rename_i h; rw [h] at hne; exact absurd rfl hne
      · rfl
    refine bad 2 zN.cells rfl (by decide) er ?_
    have hlen : lenA false (.sl .sh (strs (parts 32 s))) = some (.int .i64 ((parts 32 s).length : Nat)) := by simp [lenA, strs]
    generalize hz : strs (parts 32 s) = z at *
    generalize (parts 32 s).length = m at *
    exact goG 120 []  trivial  (.callG ([AV.str s, AV.str [(32 : UInt8)]]) (AV.sl .sh z) (show Gives cfg (93 : FuncId) [AV.str s, AV.str [(32 : UInt8)]] (AV.sl .sh z) from hsp) ⟨rfl, rfl⟩ ⟨rfl, rfl⟩ <| .len (show lenA false (AV.sl .sh z) = some (AV.int .i64 (↑m : Int)) from hlen) <| .yes (show ((↑m : Int) != (5 : Int)) = true from (by simp; omega)) <| .tt <| .callP ([AV.int .i64 2]) ({ boxes := [[AV.str s], [AV.str [], AV.sl .full [], AV.sl .full [], AV.sl .full [], AV.bool false], [AV.str [], AV.sl .full [], AV.sl .full [], AV.sl .full [], AV.bool false]], toks := [], loops := [] : Heap }) (show Pans cfg (94 : FuncId) [AV.int .i64 2] (stopV (2 : Int)) from hs2) ⟨rfl, rfl⟩ rfl rfl) (by kernel_rfl)
end Go.Aa.T

set_option linter.unusedVariables false
set_option linter.unusedSimpArgs false
set_option maxRecDepth 100000
namespace Go.Aa.T
open Go.Aa Go.Proofs
theorem trunc_same {bs : List (List AV)} {v : AV} : trunc bs.length 0 v ⟨bs, [], []⟩ = ⟨bs, [], []⟩ := by
  unfold trunc
  simp only [List.take_length, ite_self, List.take_zero]
theorem node_parse (s : List UInt8) (hl : s.length ≤ 1000) : Gives cfg 37 [.str s] (.tuple [if (readN s).2 = 0 then encN (readN s).1 else zN, .int .i64 (readN s).2]) := by
  refine Gives.run (l37 _ _) ?_
  rcases tryN s hl with ⟨n, e, h⟩ | ⟨e, he, er, X, h, hX⟩
  · rw [e]
    have hd : Does cfg (.call (.c (.func 91 [])) [.c (.func 92 [.ptr 0 0, .ptr 2 0])]) ⟨[[.str s], zN.cells, zN.cells], [], []⟩ (.int .i64 0) ⟨[[.str s], zN.cells, (encN n).cells], [], []⟩ := by
      have hd := does_callE (xs := [.func 92 [.ptr 0 0, .ptr 2 0]]) (caps := []) h rfl rfl
      exact hd
    exact goG 90 []  trivial  (.effY (show Does cfg (AOp.call (Opd.c (AV.func (91 : FuncId) [])) [Opd.c (AV.func (92 : FuncId) [AV.ptr 0 0, AV.ptr 2 0])]) { boxes := [[AV.str s], zN.cells, zN.cells], toks := [], loops := [] : Heap } (AV.int .i64 0) { boxes := [[AV.str s], zN.cells, (encN n).cells], toks := [], loops := [] : Heap } from hd) <| .ff <| .fin ((ARes.ret (AV.tuple [AV.agg [AV.str n.name, AV.sl .sh (List.map encA n.cap), AV.sl .sh (List.map encP n.labels), AV.sl .sh (List.map encT n.taints), AV.bool n.cordon], AV.int .i64 0]), { boxes := [[AV.str s], [AV.str n.name, AV.sl .sh (List.map encA n.cap), AV.sl .sh (List.map encP n.labels), AV.sl .sh (List.map encT n.taints), AV.bool n.cordon], [AV.str n.name, AV.sl .sh (List.map encA n.cap), AV.sl .sh (List.map encP n.labels), AV.sl .sh (List.map encT n.taints), AV.bool n.cordon]], toks := [], loops := [] : Heap })) rfl) (by kernel_rfl)
  · rw [er]
    have hd : Does cfg (.call (.c (.func 91 [])) [.c (.func 92 [.ptr 0 0, .ptr 2 0])]) ⟨[[.str s], zN.cells, zN.cells], [], []⟩ (.int .i64 e) ⟨[[.str s], zN.cells, X], [], []⟩ := by
      have hd := does_callE (xs := [.func 92 [.ptr 0 0, .ptr 2 0]]) (caps := []) h rfl rfl
      have e3 : trunc (hN s).boxes.length (hN s).toks.length (shutA (.int .i64 e)) ⟨[[.str s], zN.cells, X], [], []⟩ = ⟨[[.str s], zN.cells, X], [], []⟩ := trunc_same (bs := [[.str s], zN.cells, X])
      rw [e3] at hd
      exact hd
    have ez : (if e = 0 then encN noN else zN) = zN := if_neg he
    simp only [ez]
    exact goG 90 []  trivial  (.effY (show Does cfg (AOp.call (Opd.c (AV.func (91 : FuncId) [])) [Opd.c (AV.func (92 : FuncId) [AV.ptr 0 0, AV.ptr 2 0])]) { boxes := [[AV.str s], zN.cells, zN.cells], toks := [], loops := [] : Heap } (AV.int .i64 e) { boxes := [[AV.str s], zN.cells, X], toks := [], loops := [] : Heap } from hd) <| .yes (show (e != (0 : Int)) = true from (by simpa using he)) <| .fin ((ARes.ret (AV.tuple [AV.agg [AV.str [], AV.sl .full [], AV.sl .full [], AV.sl .full [], AV.bool false], AV.int .i64 e]), { boxes := [[AV.str s], [AV.str [], AV.sl .full [], AV.sl .full [], AV.sl .full [], AV.bool false], X], toks := [], loops := [] : Heap })) rfl) (by kernel_rfl)
end Go.Aa.T

set_option linter.unusedVariables false
set_option linter.unusedSimpArgs false
set_option maxRecDepth 100000
namespace Go.Aa.T
open Go.Aa Go.Proofs
theorem few_names {X : Type} (f : X → List UInt8 × List UInt8) (l : List X) (h : ∀ x ∈ l, (f x).1.length ≤ 12 ∧ (f x).2.length ≤ 12) : few f l = true := by
  induction l with
  | nil => rfl
  | cons x l ih =>
    have h1 := h x (by simp)
    have h2 := ih (fun y hy => h y (by simp [hy]))
    simp only [few, Bool.and_eq_true, decide_eq_true_eq] at h2 ⊢
    grind [few]
theorem ckT_few {l : List Taint} (h : ckT l = 0) : fewT l = true := by
  have hn : l.length ≤ 8 := by unfold ckT at h; split at h <;> first | assumption | cases h
  simp only [fewT, Bool.and_eq_true, decide_eq_true_eq]
  refine ⟨by omega, few_names _ l fun x hx => ?_⟩
  have hg := ckT_good h x hx
  simp only [goodT, Bool.and_eq_true] at hg
  exact ⟨name_len hg.1, name_len hg.2⟩
theorem ckS_few {l : List Pair} (h : ckS l = 0) : fewP l = true := by
  have hn : l.length ≤ 8 := by unfold ckS at h; split at h <;> first | assumption | cases h
  simp only [fewP, Bool.and_eq_true, decide_eq_true_eq]
  refine ⟨by omega, few_names _ l fun x hx => ?_⟩
  have hg := ckS_good h x hx
  simp only [goodP, Bool.and_eq_true] at hg
  exact ⟨name_len hg.1, name_len hg.2⟩
theorem ckV_few {l : List Amount} (h : ckV l = 0) : fewA l = true := by
  have hn := ckV_len h
  simp only [fewA, Bool.and_eq_true, decide_eq_true_eq, List.all_eq_true]
  refine ⟨by omega, fun x hx => ?_⟩
  have hg := ckV_good h x hx
  simp only [goodA, Bool.and_eq_true] at hg
  have := name_len hg.1
  simp only [short1, decide_eq_true_eq]
  omega
structure NodeOk (n : Node) : Prop where
  name : isName n.name = true
  cap : ckV n.cap = 0
  labels : ckS n.labels = 0
  taints : ckT n.taints = 0
theorem nodeOk {n : Node} (h : ckN n = 0) : NodeOk n := by
  have hz := firstE_zero h
  simp only [List.mem_cons, List.not_mem_nil, or_false, forall_eq_or_imp, forall_eq] at hz
  obtain ⟨h1, h2, h3, h4⟩ := hz
  refine ⟨?_, h2, h3, h4⟩
  revert h1; cases isName n.name <;> simp

def endN (b : Bool) : List UInt8 := if b then coW else upW
def wordsN (n : Node) : List (List UInt8) := [n.name, textOf aText n.cap, textOf pText n.labels, textOf tText n.taints, endN n.cordon]
def textN (n : Node) : List UInt8 := Lib.join (wordsN n) [32]
theorem join5 (a b c d e : List UInt8) (h1 : a.length ≤ 10000) (h2 : b.length ≤ 10000) (h3 : c.length ≤ 10000) (h4 : d.length ≤ 10000) (h5 : e.length ≤ 10000) :
    Gives cfg 101 [.sl .sh [.str a, .str b, .str c, .str d, .str e], .str [32]] (.str (Lib.join [a, b, c, d, e] [32])) := by
  refine join_gen [a, b, c, d, e] [32] (by simp) ?_
  have := join_lenC 32 [a, b, c, d, e] 10000 (by
    intro s hs
    simp only [List.mem_cons, List.not_mem_nil, or_false] at hs
    rcases hs with rfl | rfl | rfl | rfl | rfl <;> assumption)
  simp only [List.length_cons, List.length_nil] at this
  omega
theorem textN_any (n : Node) (h1 : n.name.length ≤ 50) (h2 : fewA n.cap = true) (h2s : smallI n.cap) (h3 : fewP n.labels = true) (h4 : fewT n.taints = true) : Gives cfg 38 [encN n] (.str (textN n)) := by
  have w1 : n.name.length ≤ 10000 := by omega
  have w4 : (textOf aText n.cap).length ≤ 10000 := textOf_len3 (fewA_len h2) fun x hx => by
    have h1 := h2
    simp only [fewA, short1, Bool.and_eq_true, List.all_eq_true, decide_eq_true_eq] at h1
    exact aText_len x (h1.2 x hx) (h2s x hx)
  have w5 : (textOf pText n.labels).length ≤ 10000 := textOf_len3 (fewP_len h3) fun x hx => by
    have h1 := h3
    simp only [fewP, Bool.and_eq_true] at h1
    have := few_two h1.2 hx
    exact pText_len x this.1 this.2
  have w6 : (textOf tText n.taints).length ≤ 10000 := textOf_len3 (fewT_len h4) fun x hx => by
    have h1 := h4
    simp only [fewT, Bool.and_eq_true] at h1
    have := few_two h1.2 hx
    exact tText_len x this.1 this.2
  have t1 := aText_any n.cap h2 h2s
  have t2 := pText_any n.labels h3
  have t3 := tText_any n.taints h4
  refine Gives.run (l38 _ _) ?_
  exact goG 120 []  trivial  (.split (n.cordon = true) (fun h1 => .yes (show (n.cordon) = true from h1) <| .callG ([AV.sl .sh (List.map encA n.cap)]) (AV.str (textOf aText n.cap)) (show Gives cfg (102 : FuncId) [AV.sl .sh (List.map encA n.cap)] (AV.str (textOf aText n.cap)) from t1) ⟨rfl, rfl⟩ ⟨rfl, rfl⟩ <| .callG ([AV.sl .sh (List.map encP n.labels)]) (AV.str (textOf pText n.labels)) (show Gives cfg (103 : FuncId) [AV.sl .sh (List.map encP n.labels)] (AV.str (textOf pText n.labels)) from t2) ⟨rfl, rfl⟩ ⟨rfl, rfl⟩ <| .callG ([AV.sl .sh (List.map encT n.taints)]) (AV.str (textOf tText n.taints)) (show Gives cfg (104 : FuncId) [AV.sl .sh (List.map encT n.taints)] (AV.str (textOf tText n.taints)) from t3) ⟨rfl, rfl⟩ ⟨rfl, rfl⟩ <| .callG ([AV.sl .full [AV.str n.name, AV.str (textOf aText n.cap), AV.str (textOf pText n.labels), AV.str (textOf tText n.taints), AV.str [(99 : UInt8), (111 : UInt8), (114 : UInt8), (100 : UInt8), (111 : UInt8), (110 : UInt8)]], AV.str [(32 : UInt8)]]) (AV.str (Lib.join [n.name, textOf aText n.cap, textOf pText n.labels, textOf tText n.taints, [(99 : UInt8), (111 : UInt8), (114 : UInt8), (100 : UInt8), (111 : UInt8), (110 : UInt8)]] [(32 : UInt8)])) (show Gives cfg (101 : FuncId) [AV.sl .sh [AV.str n.name, AV.str (textOf aText n.cap), AV.str (textOf pText n.labels), AV.str (textOf tText n.taints), AV.str [(99 : UInt8), (111 : UInt8), (114 : UInt8), (100 : UInt8), (111 : UInt8), (110 : UInt8)]], AV.str [(32 : UInt8)]] (AV.str (Lib.join [n.name, textOf aText n.cap, textOf pText n.labels, textOf tText n.taints, [(99 : UInt8), (111 : UInt8), (114 : UInt8), (100 : UInt8), (111 : UInt8), (110 : UInt8)]] [(32 : UInt8)])) from join5 _ _ _ _ _ w1 w4 w5 w6 (by simp)) ⟨rfl, rfl⟩ ⟨rfl, rfl⟩ <| .fin ((ARes.ret (AV.str (Lib.join [n.name, textOf aText n.cap, textOf pText n.labels, textOf tText n.taints, [(99 : UInt8), (111 : UInt8), (114 : UInt8), (100 : UInt8), (111 : UInt8), (110 : UInt8)]] [(32 : UInt8)])), { boxes := [[AV.str n.name, AV.sl .sh (List.map encA n.cap), AV.sl .sh (List.map encP n.labels), AV.sl .sh (List.map encT n.taints), AV.bool n.cordon]], toks := [], loops := [] : Heap })) (by simp [IsRet, textN, wordsN, endN, coW, upW, h1])) (fun h1 => .no (show (n.cordon) = false from Bool.eq_false_iff.2 (show ¬ (n.cordon = true) from h1)) <| .callG ([AV.sl .sh (List.map encA n.cap)]) (AV.str (textOf aText n.cap)) (show Gives cfg (102 : FuncId) [AV.sl .sh (List.map encA n.cap)] (AV.str (textOf aText n.cap)) from t1) ⟨rfl, rfl⟩ ⟨rfl, rfl⟩ <| .callG ([AV.sl .sh (List.map encP n.labels)]) (AV.str (textOf pText n.labels)) (show Gives cfg (103 : FuncId) [AV.sl .sh (List.map encP n.labels)] (AV.str (textOf pText n.labels)) from t2) ⟨rfl, rfl⟩ ⟨rfl, rfl⟩ <| .callG ([AV.sl .sh (List.map encT n.taints)]) (AV.str (textOf tText n.taints)) (show Gives cfg (104 : FuncId) [AV.sl .sh (List.map encT n.taints)] (AV.str (textOf tText n.taints)) from t3) ⟨rfl, rfl⟩ ⟨rfl, rfl⟩ <| .callG ([AV.sl .full [AV.str n.name, AV.str (textOf aText n.cap), AV.str (textOf pText n.labels), AV.str (textOf tText n.taints), AV.str [(117 : UInt8), (112 : UInt8)]], AV.str [(32 : UInt8)]]) (AV.str (Lib.join [n.name, textOf aText n.cap, textOf pText n.labels, textOf tText n.taints, [(117 : UInt8), (112 : UInt8)]] [(32 : UInt8)])) (show Gives cfg (101 : FuncId) [AV.sl .sh [AV.str n.name, AV.str (textOf aText n.cap), AV.str (textOf pText n.labels), AV.str (textOf tText n.taints), AV.str [(117 : UInt8), (112 : UInt8)]], AV.str [(32 : UInt8)]] (AV.str (Lib.join [n.name, textOf aText n.cap, textOf pText n.labels, textOf tText n.taints, [(117 : UInt8), (112 : UInt8)]] [(32 : UInt8)])) from join5 _ _ _ _ _ w1 w4 w5 w6 (by simp)) ⟨rfl, rfl⟩ ⟨rfl, rfl⟩ <| .fin ((ARes.ret (AV.str (Lib.join [n.name, textOf aText n.cap, textOf pText n.labels, textOf tText n.taints, [(117 : UInt8), (112 : UInt8)]] [(32 : UInt8)])), { boxes := [[AV.str n.name, AV.sl .sh (List.map encA n.cap), AV.sl .sh (List.map encP n.labels), AV.sl .sh (List.map encT n.taints), AV.bool n.cordon]], toks := [], loops := [] : Heap })) (by simp [IsRet, textN, wordsN, endN, coW, upW, h1]))) (by kernel_rfl)
end Go.Aa.T

set_option linter.unusedVariables false
set_option linter.unusedSimpArgs false
set_option maxRecDepth 100000
namespace Go.Aa.T
open Go.Aa Go.Proofs
theorem allA_told (l : List Amount) (hg : ∀ x ∈ l, goodA x = true) (hs : smallA l) : allA (l.map aText) = some (l.map fun x => (x.name, itoaF x.n)) ∧ (l.map fun x => (x.name, itoaF x.n)).any tooA = false ∧ (l.map fun x => (x.name, itoaF x.n)).map amtA = l := by
  induction l with
  | nil => exact ⟨rfl, rfl, rfl⟩
  | cons x l ih =>
    obtain ⟨i1, i2, i3⟩ := ih (fun y hy => hg y (List.mem_cons_of_mem _ hy)) (fun y hy => hs y (List.mem_cons_of_mem _ hy))
    have hn := hs x (by simp)
    obtain ⟨v, h1, h2, h3, h4, h5, -⟩ := aText_form x (hg x (by simp)) hn
    have e : aText x = x.name ++ 61 :: v := by simp [aText, h4]
    have hf : formA (aText x) = some (x.name, itoaF x.n) := by
      unfold formA
      rw [e, cutAt_hit h5]
      simp only
      rw [if_pos h1, h4]
    refine ⟨?_, ?_, ?_⟩
    · simp only [List.map_cons, allA, hf, i1]
    · simp only [List.map_cons, List.any_cons, i2, Bool.or_false, tooA, h4, decide_eq_false_iff_not]
      omega
    · simp only [List.map_cons, i3, amtA, h4, h3]
theorem aText_cons (x : Amount) (l : List Amount) : textOf aText (x :: l) = x.name ++ [61] ++ itoaF x.n ++ Lib.joinTail [44] (l.map aText) := by
  have e : textOf aText (x :: l) = Lib.join (aText x :: l.map aText) [44] := by simp [textOf]
  rw [e, Lib.join_cons]
  rfl
theorem readA_back {l : List Amount} (h : ckV l = 0) (hs : smallA l) : readA (textOf aText l) = (l, 0) := by
  cases l with
  | nil => rfl
  | cons x l =>
    obtain ⟨a1, a2, a3⟩ := allA_told (x :: l) (ckV_good h) hs
    have hne : textOf aText (x :: l) ≠ [45] := by
      intro e
      have h61 : (61 : UInt8) ∈ textOf aText (x :: l) := by
        rw [aText_cons]; simp
      rw [e] at h61
      revert h61; decide
    have hp : parts 44 (textOf aText (x :: l)) = (x :: l).map aText := by
      have e : textOf aText (x :: l) = Lib.join ((x :: l).map aText) [44] := by simp [textOf]
      rw [e, List.map_cons]
      refine parts_joinC 44 fun y hy => ?_
      rw [← List.map_cons] at hy
      obtain ⟨z, hz, rfl⟩ := List.mem_map.1 hy
      exact (aText_ok z (ckV_good h z hz) (hs z hz)).2.1
    unfold readA
    rw [if_neg hne, hp, a1]
    simp only
    rw [a2, a3, h]
    simp
theorem endN_32 (b : Bool) : (32 : UInt8) ∉ endN b := by cases b <;> decide
theorem readN_back {n : Node} (h : ckN n = 0) (hs : smallA n.cap) : readN (textN n) = (n, 0) := by
  have ok := nodeOk h
  have hp : parts 32 (textN n) = wordsN n := by
    unfold textN wordsN
    refine parts_joinC 32 fun y hy => ?_
    simp only [List.mem_cons, List.not_mem_nil, or_false] at hy
    rcases hy with rfl | rfl | rfl | rfl | rfl
    · exact name_no ok.name rfl
    · exact aText_32 ok.cap hs
    · exact pText_32 ok.labels
    · exact tText_32 ok.taints
    · exact endN_32 _
  unfold readN
  rw [hp]
  simp only [wordsN]
  have he : endN n.cordon = upW ∨ endN n.cordon = coW := by cases n.cordon <;> simp [endN]
  have hc : (endN n.cordon == coW) = n.cordon := by cases n.cordon <;> rfl
  rw [if_pos he, hc]
  unfold readN5
  rw [readA_back ok.cap hs, pText_read ok.labels, tText_read ok.taints]
  have e : (⟨n.name, n.cap, n.labels, n.taints, n.cordon⟩ : Node) = n := by cases n; rfl
  simp only [if_true, e, h]
end Go.Aa.T
