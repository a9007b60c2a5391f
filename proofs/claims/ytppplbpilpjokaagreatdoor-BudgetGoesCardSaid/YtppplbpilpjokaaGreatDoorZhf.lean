/-
  WHAT THE LAW LEANS ON, part 6 of 6: a machine of values and its soundness; the functions of the law upon it; what they come to.
-/
import Derived.Test.YtppplbpilpjokaaGreatDoorZhe
import Derived.Lib.ItoaLen
import Derived.JoinedOf
import Derived.Test.YtppplbpilpjokaaGreatDoorRows
import Derived.Stop.LaidErr

set_option linter.unusedVariables false
set_option linter.unusedSimpArgs false
set_option maxRecDepth 100000
namespace Go.Aa.T
open Go.Aa Go.Proofs
structure Amount where
  name : List UInt8
  n : Int
def encA (x : Amount) : AV := .agg [.str x.name, .int .i64 x.n]
instance (x : Amount) : Dat (encA x) := ⟨rfl, rfl⟩
def ordV (s : List Amount) (i : Nat) (x : Amount) : Bool := match i with
  | 0 => false
  | j + 1 => match s[j]? with
    | some p => Op.bytesLess x.name p.name || x.name == p.name
    | none => false
def ckVl (s : List Amount) : Nat → List Amount → Int
  | _, [] => 0
  | i, x :: post => if isName x.name then (if x.n ≤ 0 then 1 else if ordV s i x then 13 else ckVl s (i + 1) post) else 3
def ckV (s : List Amount) : Int := if s.length ≤ 8 then ckVl s 0 s else 4
theorem ckV_ref_loop (l : List Amount) (hn : l.length ≤ 8) : ∀ (post : List Amount) (i : Nat) (hd : l.drop i = post) (T : Env) (hT : Has T [(0, .sl .sh (l.map encA)), (3, .int .i64 i)]),
    Goes cfg a77 k77_0 T Heap.nil (IsRet (.int .i64 (ckVl l i post))) := by
  intro post
  induction post with
  | nil =>
    intro i hd T hT
    have hge := drop_ge hd
    exact goG 60 _  hT  (.len (show lenA false (AV.sl SK.sh (List.map encA l)) = some (AV.int IntKind.i64 (↑l.length : Int)) from len_map _) <| .no (show (decide ((↑i : Int) < (↑l.length : Int))) = false from decide_eq_false (show ¬ ((↑i : Int) < (↑l.length : Int)) from (by omega))) <| .fin ((ARes.ret (AV.int IntKind.i64 (0 : Int)), { boxes := [], toks := [], loops := [] : Heap })) rfl) (by kernel_rfl)
  | cons x post ih =>
    intro i hd T hT
    have hlt := drop_lt hd
    have hnx := drop_next hd
    cases i with
    | zero => exact goG 60 _  hT  (.len (show lenA false (AV.sl SK.sh (List.map encA l)) = some (AV.int IntKind.i64 (↑l.length : Int)) from len_map _) <| .yes (show (decide ((↑(0 : Nat) : Int) < (↑l.length : Int))) = true from decide_eq_true (show (↑(0 : Nat) : Int) < (↑l.length : Int) from (by omega))) <| .idx (show idxA (2 : Nat) (AV.sl SK.sh (List.map encA l)) (AV.int IntKind.i64 (↑(0 : Nat) : Int)) = some (AV.ref (encA x).cells) from idx_row hd (by rfl)) <| .callG ([AV.str x.name]) (AV.bool (isName x.name)) (show Gives cfg (76 : FuncId) [AV.str x.name] (AV.bool (isName x.name)) from name_any _) ⟨rfl, rfl⟩ ⟨rfl, rfl⟩ <| .split (isName x.name = true) (fun h1 => .no (show (!isName x.name) = false from by have hh : isName x.name = true := h1; simp [hh]) <| .idx (show idxA (2 : Nat) (AV.sl SK.sh (List.map encA l)) (AV.int IntKind.i64 (↑(0 : Nat) : Int)) = some (AV.ref (encA x).cells) from idx_row hd (by rfl)) <| .split (x.n ≤ (0 : Int)) (fun h2 => .yes (show (decide (x.n ≤ (0 : Int))) = true from decide_eq_true (show x.n ≤ (0 : Int) from h2)) <| .fin ((ARes.ret (AV.int IntKind.i64 (1 : Int)), { boxes := [], toks := [], loops := [] : Heap })) (by simp only [IsRet]; grind [ckVl, ordV])) (fun h2 => .no (show (decide (x.n ≤ (0 : Int))) = false from decide_eq_false (show ¬ (x.n ≤ (0 : Int)) from h2)) <| .ff <| .ff <| .bin (show binA BinOp.add (AV.int IntKind.i64 (↑(0 : Nat) : Int)) (AV.int IntKind.i64 (1 : Int)) = some (AV.int IntKind.i64 (↑((0 : Nat) + (1 : Nat)) : Int)) from inc_i (by omega)) <| .cutQ k77_0 [(0, AV.sl SK.sh (List.map encA l)), (3, AV.int IntKind.i64 (↑((0 : Nat) + (1 : Nat)) : Int))] ({ boxes := [], toks := [], loops := [] : Heap }) (fun T hT => (ih ((0 : Nat) + (1 : Nat)) hnx T hT).to (by grind [ckVl, ordV])))) (fun h1 => .yes (show (!isName x.name) = true from by have hh : ¬ (isName x.name = true) := h1; simp [hh]) <| .fin ((ARes.ret (AV.int IntKind.i64 (3 : Int)), { boxes := [], toks := [], loops := [] : Heap })) (by simp only [IsRet]; grind [ckVl, ordV]))) (by kernel_rfl)
    | succ j =>
      obtain ⟨p, hp⟩ : ∃ p, l[j]? = some p := ⟨l[j], List.getElem?_eq_getElem (by omega)⟩
      exact goG 60 _  hT  (.len (show lenA false (AV.sl SK.sh (List.map encA l)) = some (AV.int IntKind.i64 (↑l.length : Int)) from len_map _) <| .yes (show (decide ((↑(j + (1 : Nat)) : Int) < (↑l.length : Int))) = true from decide_eq_true (show (↑(j + (1 : Nat)) : Int) < (↑l.length : Int) from (by omega))) <| .idx (show idxA (2 : Nat) (AV.sl SK.sh (List.map encA l)) (AV.int IntKind.i64 (↑(j + (1 : Nat)) : Int)) = some (AV.ref (encA x).cells) from idx_row hd (by rfl)) <| .callG ([AV.str x.name]) (AV.bool (isName x.name)) (show Gives cfg (76 : FuncId) [AV.str x.name] (AV.bool (isName x.name)) from name_any _) ⟨rfl, rfl⟩ ⟨rfl, rfl⟩ <| .split (isName x.name = true) (fun h1 => .no (show (!isName x.name) = false from by have hh : isName x.name = true := h1; simp [hh]) <| .idx (show idxA (2 : Nat) (AV.sl SK.sh (List.map encA l)) (AV.int IntKind.i64 (↑(j + (1 : Nat)) : Int)) = some (AV.ref (encA x).cells) from idx_row hd (by rfl)) <| .split (x.n ≤ (0 : Int)) (fun h2 => .yes (show (decide (x.n ≤ (0 : Int))) = true from decide_eq_true (show x.n ≤ (0 : Int) from h2)) <| .fin ((ARes.ret (AV.int IntKind.i64 (1 : Int)), { boxes := [], toks := [], loops := [] : Heap })) (by simp only [IsRet]; grind [ckVl, ordV])) (fun h2 => .no (show (decide (x.n ≤ (0 : Int))) = false from decide_eq_false (show ¬ (x.n ≤ (0 : Int)) from h2)) <| .yes (show (decide ((0 : Int) < (↑(j + (1 : Nat)) : Int))) = true from decide_eq_true (show (0 : Int) < (↑(j + (1 : Nat)) : Int) from (by omega))) <| .idx (show idxA (2 : Nat) (AV.sl SK.sh (List.map encA l)) (AV.int IntKind.i64 (↑(j + (1 : Nat)) : Int)) = some (AV.ref (encA x).cells) from idx_row hd (by rfl)) <| .bin (show binA BinOp.sub (AV.int IntKind.i64 (↑(j + (1 : Nat)) : Int)) (AV.int IntKind.i64 (1 : Int)) = some (AV.int IntKind.i64 (↑j : Int)) from dec_i (by omega)) <| .idx (show idxA (2 : Nat) (AV.sl SK.sh (List.map encA l)) (AV.int IntKind.i64 (↑j : Int)) = some (AV.ref (encA p).cells) from idx_get hp (by rfl)) <| .split ((Op.bytesLess x.name p.name || x.name == p.name) = true) (fun h3 => .yes (show (Op.bytesLess x.name p.name || x.name == p.name) = true from h3) <| .fin ((ARes.ret (AV.int IntKind.i64 (13 : Int)), { boxes := [], toks := [], loops := [] : Heap })) (by simp only [IsRet]; grind [ckVl, ordV])) (fun h3 => .no (show (Op.bytesLess x.name p.name || x.name == p.name) = false from Bool.eq_false_iff.2 (show ¬ ((Op.bytesLess x.name p.name || x.name == p.name) = true) from h3)) <| .bin (show binA BinOp.add (AV.int IntKind.i64 (↑(j + (1 : Nat)) : Int)) (AV.int IntKind.i64 (1 : Int)) = some (AV.int IntKind.i64 (↑(j + (1 : Nat) + (1 : Nat)) : Int)) from inc_i (by omega)) <| .cutQ k77_0 [(0, AV.sl SK.sh (List.map encA l)), (3, AV.int IntKind.i64 (↑(j + (1 : Nat) + (1 : Nat)) : Int))] ({ boxes := [], toks := [], loops := [] : Heap }) (fun T hT => (ih (j + (1 : Nat) + (1 : Nat)) hnx T hT).to (by grind [ckVl, ordV]))))) (fun h1 => .yes (show (!isName x.name) = true from by have hh : ¬ (isName x.name = true) := h1; simp [hh]) <| .fin ((ARes.ret (AV.int IntKind.i64 (3 : Int)), { boxes := [], toks := [], loops := [] : Heap })) (by simp only [IsRet]; grind [ckVl, ordV]))) (by kernel_rfl)
theorem ckV_ref (l : List Amount) : Gives cfg 77 [.sl .sh (l.map encA)] (.int .i64 (ckV l)) := by
  refine Gives.run (l77 _ _) ?_
  have h := fun hn => ckV_ref_loop l hn l 0 rfl
  exact goG 60 []  trivial  (.len (show lenA false (AV.sl SK.sh (List.map encA l)) = some (AV.int IntKind.i64 (↑l.length : Int)) from len_map _) <| .split ((8 : Int) < (↑l.length : Int)) (fun h1 => .yes (show (decide ((8 : Int) < (↑l.length : Int))) = true from decide_eq_true (show (8 : Int) < (↑l.length : Int) from h1)) <| .fin ((ARes.ret (AV.int IntKind.i64 (4 : Int)), { boxes := [], toks := [], loops := [] : Heap })) (by simp only [IsRet]; grind [ckV])) (fun h1 => .no (show (decide ((8 : Int) < (↑l.length : Int))) = false from decide_eq_false (show ¬ ((8 : Int) < (↑l.length : Int)) from h1)) <| .cutQ k77_0 [(0, AV.sl SK.sh (List.map encA l)), (3, AV.int IntKind.i64 (0 : Int))] ({ boxes := [], toks := [], loops := [] : Heap }) (fun T hT => (h (by omega) T hT).to (by grind [ckV])))) (by kernel_rfl)
end Go.Aa.T

set_option linter.unusedVariables false
set_option linter.unusedSimpArgs false
set_option maxRecDepth 100000
namespace Go.Aa.T
open Go.Aa Go.Proofs
def firstE : List Int → Int
  | [] => 0
  | x :: r => if x = 0 then firstE r else x
end Go.Aa.T

set_option linter.unusedVariables false
set_option linter.unusedSimpArgs false
set_option maxRecDepth 100000
namespace Go.Aa.T
open Go.Aa Go.Proofs
structure Node where
  name : List UInt8
  cap : List Amount
  labels : List Pair
  taints : List Taint
  cordon : Bool
def encN (n : Node) : AV := .agg [.str n.name, .sl .sh (n.cap.map encA), .sl .sh (n.labels.map encP), .sl .sh (n.taints.map encT), .bool n.cordon]
end Go.Aa.T

set_option linter.unusedVariables false
set_option linter.unusedSimpArgs false
namespace Go.Aa.T
open Go.Aa
end Go.Aa.T

set_option linter.unusedVariables false
set_option linter.unusedSimpArgs false
set_option maxRecDepth 100000
namespace Go.Aa.T
open Go.Aa Go.Proofs


end Go.Aa.T

set_option linter.unusedVariables false
set_option linter.unusedSimpArgs false
set_option maxRecDepth 100000
namespace Go.Aa.T
open Go.Aa Go.Proofs

def same2 {X : Type} (e : X → X → Bool) : List X → List X → Bool
  | [], [] => true
  | x :: a, y :: b => e x y && same2 e a b
  | _, _ => false
theorem same2_len {X : Type} {e : X → X → Bool} : ∀ {a b : List X}, a.length ≠ b.length → same2 e a b = false
  | [], [], h => absurd rfl h
  | [], _ :: _, _ => rfl
  | _ :: _, [], _ => rfl
  | x :: a, y :: b, h => by
    simp only [List.length_cons, ne_eq, Nat.add_right_cancel_iff] at h
    simp only [same2, same2_len h, Bool.and_false]
theorem same2_iff {X : Type} {e : X → X → Bool} (he : ∀ x y, e x y = true ↔ x = y) : ∀ {a b : List X}, same2 e a b = true ↔ a = b
  | [], [] => by simp [same2]
  | [], _ :: _ => by simp [same2]
  | _ :: _, [] => by simp [same2]
  | x :: a, y :: b => by simp [same2, he, same2_iff he]
theorem same2_refl {X : Type} {e : X → X → Bool} (he : ∀ x y, e x y = true ↔ x = y) (a : List X) : same2 e a a = true := (same2_iff he).2 rfl
end Go.Aa.T

set_option linter.unusedVariables false
set_option linter.unusedSimpArgs false
set_option maxRecDepth 100000
namespace Go.Aa.T
open Go.Aa Go.Proofs
def short1 (x : Amount) : Bool := decide (x.name.length ≤ 50)
def fewA (l : List Amount) : Bool := decide (l.length ≤ 20) && l.all short1

instance (n : Node) : Dat (encN n) := ⟨rfl, rfl⟩
structure FewNd (n : Node) : Prop where
  cap : n.cap.length ≤ 20
  labels : n.labels.length ≤ 20
  taints : n.taints.length ≤ 20

def ordG {X : Type} (nm : X → List UInt8) (s : List X) (i : Nat) (x : X) : Bool := match i with
  | 0 => false
  | j + 1 => match s[j]? with
    | some p => Op.bytesLess (nm x) (nm p) || nm x == nm p
    | none => false
def ckAl {X : Type} (ck : X → Int) (nm : X → List UInt8) (s : List X) : Nat → List X → Int
  | _, [] => 0
  | i, x :: post => if ck x = 0 then (if ordG nm s i x then 13 else ckAl ck nm s (i + 1) post) else ck x
def ckAll {X : Type} (most : Nat) (ck : X → Int) (nm : X → List UInt8) (s : List X) : Int := if s.length ≤ most then ckAl ck nm s 0 s else 4
def findG {X : Type} (nm : X → List UInt8) (l : List X) (n : List UInt8) : Option X := l.find? fun x => nm x == n
theorem findG_mem {X : Type} {nm : X → List UInt8} {l : List X} {s : List UInt8} {x : X} (h : findG nm l s = some x) : x ∈ l := List.mem_of_find?_eq_some h
end Go.Aa.T

set_option linter.unusedVariables false
set_option linter.unusedSimpArgs false
set_option maxRecDepth 100000
namespace Go.Aa.T
open Go.Aa Go.Proofs
structure Pod where
  name : List UInt8
  owner : List UInt8
  prio : Int
  need : List Amount
  labels : List Pair
  sel : List Term
  tols : List Tol
  key : List UInt8
  most : Int
  node : List UInt8
  hold : Bool
def encPd (p : Pod) : AV := .agg [.str p.name, .str p.owner, .int .i64 p.prio, .sl .sh (p.need.map encA), .sl .sh (p.labels.map encP), .sl .sh (p.sel.map encM), .sl .sh (p.tols.map encL), .str p.key, .int .i64 p.most, .str p.node, .bool p.hold]
def maybeE (s : List UInt8) : Int := if s = [] then 0 else if isName s then 0 else 3
def withinE (n lo hi : Int) : Int := if n < lo then 1 else if hi < n then 1 else 0
def prioE (p : Pod) : Int := if p.hold then withinE p.prio (-1) (-1) else withinE p.prio 0 1000000
def mostE (p : Pod) : Int := if p.key = [] then withinE p.most 0 0 else withinE p.most 1 128
def ckPd (p : Pod) : Int := firstE [if isName p.name then 0 else 3, maybeE p.owner, prioE p, ckV p.need, ckS p.labels, ckM p.sel, ckL p.tols, maybeE p.key, mostE p, maybeE p.node]
theorem firstE_zero : ∀ {l : List Int}, firstE l = 0 → ∀ x ∈ l, x = 0
  | [], _ => by simp
  | x :: l, h => by
    unfold firstE at h
    split at h
    · intro y hy
      rcases List.mem_cons.1 hy with rfl | hy
      · assumption
      · exact firstE_zero h y hy
    · contradiction
theorem maybe_ok {s : List UInt8} (h : maybeE s = 0) : s = [] ∨ isName s = true := by
  unfold maybeE at h
  split at h
  · left; assumption
  · split at h
    · right; assumption
    · cases h
theorem within_ok {n lo hi : Int} (h : withinE n lo hi = 0) : lo ≤ n ∧ n ≤ hi := by
  unfold withinE at h
  split at h
  · cases h
  · split at h
    · cases h
    · omega
structure PodOk (p : Pod) : Prop where
  name : isName p.name = true
  owner : p.owner = [] ∨ isName p.owner = true
  prio : -1 ≤ p.prio ∧ p.prio ≤ 1000000
  hold : p.hold = decide (p.prio = -1)
  need : ckV p.need = 0
  labels : ckS p.labels = 0
  sel : ckM p.sel = 0
  tols : ckL p.tols = 0
  key : p.key = [] ∨ isName p.key = true
  most : 0 ≤ p.most ∧ p.most ≤ 128 ∧ (p.key = [] ↔ p.most = 0)
  node : p.node = [] ∨ isName p.node = true
theorem podOk {p : Pod} (h : ckPd p = 0) : PodOk p := by
  have hz := firstE_zero h
  simp only [List.mem_cons, List.not_mem_nil, or_false, forall_eq_or_imp, forall_eq] at hz
  obtain ⟨h1, h2, h3, h4, h5, h6, h7, h8, h9, h10⟩ := hz
  have hn : isName p.name = true := by
    revert h1; cases isName p.name <;> simp
  refine ⟨hn, maybe_ok h2, ?_, ?_, h4, h5, h6, h7, maybe_ok h8, ?_, maybe_ok h10⟩
  · unfold prioE at h3
    split at h3
    · have := within_ok h3; omega
    · have := within_ok h3; omega
  · unfold prioE at h3
    split at h3
    · rename_i hh
      have := within_ok h3
      rw [hh]
      exact (decide_eq_true (by omega)).symm
    · rename_i hh
      have := within_ok h3
      rw [Bool.eq_false_iff.2 hh]
      exact (decide_eq_false (by omega)).symm
  · unfold mostE at h9
    split at h9
    · rename_i hk
      have := within_ok h9
      exact ⟨by omega, by omega, fun _ => by omega, fun _ => hk⟩
    · rename_i hk
      have := within_ok h9
      exact ⟨by omega, by omega, fun e => absurd e hk, fun e => by omega⟩

end Go.Aa.T

set_option linter.unusedVariables false
set_option linter.unusedSimpArgs false
set_option maxRecDepth 100000
namespace Go.Aa.T
open Go.Aa Go.Proofs
instance (n : Pod) : Dat (encPd n) := ⟨rfl, rfl⟩
structure FewPod (p : Pod) : Prop where
  name : p.name.length ≤ 50
  owner : p.owner.length ≤ 50
  key : p.key.length ≤ 50
  node : p.node.length ≤ 50
  need : p.need.length ≤ 20
  labels : p.labels.length ≤ 20
  sel : p.sel.length ≤ 20
  tols : p.tols.length ≤ 20
  fneed : fewA p.need = true
  flabels : fewP p.labels = true
  fsel : fewM p.sel = true
  ftols : fewL p.tols = true
theorem ckPd_ref (p : Pod) : Gives cfg 53 [encPd p] (.int .i64 (ckPd p)) := by
  refine Gives.run (l53 _ _) ?_
  have e : ckPd p = firstE [if isName p.name then 0 else 3, maybeE p.owner, prioE p, ckV p.need, ckS p.labels, ckM p.sel, ckL p.tols, maybeE p.key, mostE p, maybeE p.node] := rfl
  have q1 : prioE p = if p.prio < -1 then 1 else if 1000000 < p.prio then 1 else if p.hold == (p.prio == -1) then 0 else 1 := by
    unfold prioE withinE
    cases p.hold <;> grind
  have q2 : mostE p = if p.key = [] then (if p.most = 0 then 0 else 1) else (if p.most < 1 then 1 else if 128 < p.most then 1 else 0) := by
    unfold mostE withinE
    grind
  rw [e, q1, q2]
  clear e q1 q2
  have a1 := ckV_ref p.need
  have a2 := ckS_ref p.labels
  have a3 := ckM_ref p.sel
  have a4 := ckL_any p.tols
  generalize ckV p.need = c1 at a1 ⊢
  generalize ckS p.labels = c2 at a2 ⊢
  generalize ckM p.sel = c3 at a3 ⊢
  generalize ckL p.tols = c4 at a4 ⊢
  exact goG 160 []  trivial  (.callG ([AV.str p.name]) (AV.bool (isName p.name)) (show Gives cfg (76 : FuncId) [AV.str p.name] (AV.bool (isName p.name)) from name_any _) ⟨rfl, rfl⟩ ⟨rfl, rfl⟩ <| .split (isName p.name = true) (fun h1 => .no (show (!isName p.name) = false from by have hh : isName p.name = true := h1; simp [hh]) <| .split ((p.owner == []) = true) (fun h2 => .no (show (!p.owner == []) = false from by have hh : (p.owner == []) = true := h2; simp [hh]) <| .ff <| .split (p.prio < (-1 : Int)) (fun h3 => .yes (show (decide (p.prio < (-1 : Int))) = true from decide_eq_true (show p.prio < (-1 : Int) from h3)) <| .tt <| .tt <| .fin ((ARes.ret (AV.int IntKind.i64 (1 : Int)), { boxes := [[AV.str p.name, AV.str p.owner, AV.int IntKind.i64 p.prio, AV.sl SK.sh (List.map encA p.need), AV.sl SK.sh (List.map encP p.labels), AV.sl SK.sh (List.map encM p.sel), AV.sl SK.sh (List.map encL p.tols), AV.str p.key, AV.int IntKind.i64 p.most, AV.str p.node, AV.bool p.hold]], toks := [], loops := [] : Heap })) (by simp only [IsRet]; grind [firstE, maybeE])) (fun h3 => .no (show (decide (p.prio < (-1 : Int))) = false from decide_eq_false (show ¬ (p.prio < (-1 : Int)) from h3)) <| .split ((1000000 : Int) < p.prio) (fun h4 => .yes (show (decide ((1000000 : Int) < p.prio)) = true from decide_eq_true (show (1000000 : Int) < p.prio from h4)) <| .tt <| .fin ((ARes.ret (AV.int IntKind.i64 (1 : Int)), { boxes := [[AV.str p.name, AV.str p.owner, AV.int IntKind.i64 p.prio, AV.sl SK.sh (List.map encA p.need), AV.sl SK.sh (List.map encP p.labels), AV.sl SK.sh (List.map encM p.sel), AV.sl SK.sh (List.map encL p.tols), AV.str p.key, AV.int IntKind.i64 p.most, AV.str p.node, AV.bool p.hold]], toks := [], loops := [] : Heap })) (by simp only [IsRet]; grind [firstE, maybeE])) (fun h4 => .no (show (decide ((1000000 : Int) < p.prio)) = false from decide_eq_false (show ¬ ((1000000 : Int) < p.prio) from h4)) <| .split ((if true = true then !p.hold == (p.prio == (-1 : Int)) else p.hold == (p.prio == (-1 : Int))) = true) (fun h5 => .yes (show (if true = true then !p.hold == (p.prio == (-1 : Int)) else p.hold == (p.prio == (-1 : Int))) = true from h5) <| .fin ((ARes.ret (AV.int IntKind.i64 (1 : Int)), { boxes := [[AV.str p.name, AV.str p.owner, AV.int IntKind.i64 p.prio, AV.sl SK.sh (List.map encA p.need), AV.sl SK.sh (List.map encP p.labels), AV.sl SK.sh (List.map encM p.sel), AV.sl SK.sh (List.map encL p.tols), AV.str p.key, AV.int IntKind.i64 p.most, AV.str p.node, AV.bool p.hold]], toks := [], loops := [] : Heap })) (by simp only [IsRet]; grind [firstE, maybeE])) (fun h5 => .no (show (if true = true then !p.hold == (p.prio == (-1 : Int)) else p.hold == (p.prio == (-1 : Int))) = false from Bool.eq_false_iff.2 (show ¬ ((if true = true then !p.hold == (p.prio == (-1 : Int)) else p.hold == (p.prio == (-1 : Int))) = true) from h5)) <| .callG ([AV.sl SK.sh (List.map encA p.need)]) (AV.int IntKind.i64 c1) (show Gives cfg (77 : FuncId) [AV.sl SK.sh (List.map encA p.need)] (AV.int IntKind.i64 c1) from a1) ⟨rfl, rfl⟩ ⟨rfl, rfl⟩ <| .split ((c1 != (0 : Int)) = true) (fun h6 => .yes (show (c1 != (0 : Int)) = true from h6) <| .fin ((ARes.ret (AV.int IntKind.i64 c1), { boxes := [[AV.str p.name, AV.str p.owner, AV.int IntKind.i64 p.prio, AV.sl SK.sh (List.map encA p.need), AV.sl SK.sh (List.map encP p.labels), AV.sl SK.sh (List.map encM p.sel), AV.sl SK.sh (List.map encL p.tols), AV.str p.key, AV.int IntKind.i64 p.most, AV.str p.node, AV.bool p.hold]], toks := [], loops := [] : Heap })) (by simp only [IsRet]; grind [firstE, maybeE])) (fun h6 => .no (show (c1 != (0 : Int)) = false from Bool.eq_false_iff.2 (show ¬ ((c1 != (0 : Int)) = true) from h6)) <| .callG ([AV.sl SK.sh (List.map encP p.labels)]) (AV.int IntKind.i64 c2) (show Gives cfg (78 : FuncId) [AV.sl SK.sh (List.map encP p.labels)] (AV.int IntKind.i64 c2) from a2) ⟨rfl, rfl⟩ ⟨rfl, rfl⟩ <| .split ((c2 != (0 : Int)) = true) (fun h7 => .yes (show (c2 != (0 : Int)) = true from h7) <| .fin ((ARes.ret (AV.int IntKind.i64 c2), { boxes := [[AV.str p.name, AV.str p.owner, AV.int IntKind.i64 p.prio, AV.sl SK.sh (List.map encA p.need), AV.sl SK.sh (List.map encP p.labels), AV.sl SK.sh (List.map encM p.sel), AV.sl SK.sh (List.map encL p.tols), AV.str p.key, AV.int IntKind.i64 p.most, AV.str p.node, AV.bool p.hold]], toks := [], loops := [] : Heap })) (by simp only [IsRet]; grind [firstE, maybeE])) (fun h7 => .no (show (c2 != (0 : Int)) = false from Bool.eq_false_iff.2 (show ¬ ((c2 != (0 : Int)) = true) from h7)) <| .callG ([AV.sl SK.sh (List.map encM p.sel)]) (AV.int IntKind.i64 c3) (show Gives cfg (127 : FuncId) [AV.sl SK.sh (List.map encM p.sel)] (AV.int IntKind.i64 c3) from a3) ⟨rfl, rfl⟩ ⟨rfl, rfl⟩ <| .split ((c3 != (0 : Int)) = true) (fun h8 => .yes (show (c3 != (0 : Int)) = true from h8) <| .fin ((ARes.ret (AV.int IntKind.i64 c3), { boxes := [[AV.str p.name, AV.str p.owner, AV.int IntKind.i64 p.prio, AV.sl SK.sh (List.map encA p.need), AV.sl SK.sh (List.map encP p.labels), AV.sl SK.sh (List.map encM p.sel), AV.sl SK.sh (List.map encL p.tols), AV.str p.key, AV.int IntKind.i64 p.most, AV.str p.node, AV.bool p.hold]], toks := [], loops := [] : Heap })) (by simp only [IsRet]; grind [firstE, maybeE])) (fun h8 => .no (show (c3 != (0 : Int)) = false from Bool.eq_false_iff.2 (show ¬ ((c3 != (0 : Int)) = true) from h8)) <| .callG ([AV.sl SK.sh (List.map encL p.tols)]) (AV.int IntKind.i64 c4) (show Gives cfg (128 : FuncId) [AV.sl SK.sh (List.map encL p.tols)] (AV.int IntKind.i64 c4) from a4) ⟨rfl, rfl⟩ ⟨rfl, rfl⟩ <| .split ((c4 != (0 : Int)) = true) (fun h9 => .yes (show (c4 != (0 : Int)) = true from h9) <| .fin ((ARes.ret (AV.int IntKind.i64 c4), { boxes := [[AV.str p.name, AV.str p.owner, AV.int IntKind.i64 p.prio, AV.sl SK.sh (List.map encA p.need), AV.sl SK.sh (List.map encP p.labels), AV.sl SK.sh (List.map encM p.sel), AV.sl SK.sh (List.map encL p.tols), AV.str p.key, AV.int IntKind.i64 p.most, AV.str p.node, AV.bool p.hold]], toks := [], loops := [] : Heap })) (by simp only [IsRet]; grind [firstE, maybeE])) (fun h9 => .no (show (c4 != (0 : Int)) = false from Bool.eq_false_iff.2 (show ¬ ((c4 != (0 : Int)) = true) from h9)) <| .split ((p.key == []) = true) (fun h10 => .no (show (!p.key == []) = false from by have hh : (p.key == []) = true := h10; simp [hh]) <| .ff <| .no (show (!p.key == []) = false from by have hh : (p.key == []) = true := (by omega); simp [hh]) <| .ff <| .yes (show (p.key == []) = true from (by omega)) <| .split ((p.most != (0 : Int)) = true) (fun h11 => .yes (show (p.most != (0 : Int)) = true from h11) <| .fin ((ARes.ret (AV.int IntKind.i64 (1 : Int)), { boxes := [[AV.str p.name, AV.str p.owner, AV.int IntKind.i64 p.prio, AV.sl SK.sh (List.map encA p.need), AV.sl SK.sh (List.map encP p.labels), AV.sl SK.sh (List.map encM p.sel), AV.sl SK.sh (List.map encL p.tols), AV.str p.key, AV.int IntKind.i64 p.most, AV.str p.node, AV.bool p.hold]], toks := [], loops := [] : Heap })) (by simp_all [IsRet, firstE, maybeE]; omega)) (fun h11 => .no (show (p.most != (0 : Int)) = false from Bool.eq_false_iff.2 (show ¬ ((p.most != (0 : Int)) = true) from h11)) <| .split ((p.node == []) = true) (fun h12 => .no (show (!p.node == []) = false from by have hh : (p.node == []) = true := h12; simp [hh]) <| .ff <| .fin ((ARes.ret (AV.int IntKind.i64 (0 : Int)), { boxes := [[AV.str p.name, AV.str p.owner, AV.int IntKind.i64 p.prio, AV.sl SK.sh (List.map encA p.need), AV.sl SK.sh (List.map encP p.labels), AV.sl SK.sh (List.map encM p.sel), AV.sl SK.sh (List.map encL p.tols), AV.str p.key, AV.int IntKind.i64 p.most, AV.str p.node, AV.bool p.hold]], toks := [], loops := [] : Heap })) (by simp_all [IsRet, firstE, maybeE]; omega)) (fun h12 => .yes (show (!p.node == []) = true from by have hh : ¬ ((p.node == []) = true) := h12; simp [hh]) <| .callG ([AV.str p.node]) (AV.bool (isName p.node)) (show Gives cfg (76 : FuncId) [AV.str p.node] (AV.bool (isName p.node)) from name_any _) ⟨rfl, rfl⟩ ⟨rfl, rfl⟩ <| .split (isName p.node = true) (fun h13 => .no (show (!isName p.node) = false from by have hh : isName p.node = true := h13; simp [hh]) <| .fin ((ARes.ret (AV.int IntKind.i64 (0 : Int)), { boxes := [[AV.str p.name, AV.str p.owner, AV.int IntKind.i64 p.prio, AV.sl SK.sh (List.map encA p.need), AV.sl SK.sh (List.map encP p.labels), AV.sl SK.sh (List.map encM p.sel), AV.sl SK.sh (List.map encL p.tols), AV.str p.key, AV.int IntKind.i64 p.most, AV.str p.node, AV.bool p.hold]], toks := [], loops := [] : Heap })) (by simp_all [IsRet, firstE, maybeE]; omega)) (fun h13 => .yes (show (!isName p.node) = true from by have hh : ¬ (isName p.node = true) := h13; simp [hh]) <| .fin ((ARes.ret (AV.int IntKind.i64 (3 : Int)), { boxes := [[AV.str p.name, AV.str p.owner, AV.int IntKind.i64 p.prio, AV.sl SK.sh (List.map encA p.need), AV.sl SK.sh (List.map encP p.labels), AV.sl SK.sh (List.map encM p.sel), AV.sl SK.sh (List.map encL p.tols), AV.str p.key, AV.int IntKind.i64 p.most, AV.str p.node, AV.bool p.hold]], toks := [], loops := [] : Heap })) (by simp_all [IsRet, firstE, maybeE]; omega))))) (fun h10 => .yes (show (!p.key == []) = true from by have hh : ¬ ((p.key == []) = true) := h10; simp [hh]) <| .callG ([AV.str p.key]) (AV.bool (isName p.key)) (show Gives cfg (76 : FuncId) [AV.str p.key] (AV.bool (isName p.key)) from name_any _) ⟨rfl, rfl⟩ ⟨rfl, rfl⟩ <| .split (isName p.key = true) (fun h11 => .no (show (!isName p.key) = false from by have hh : isName p.key = true := h11; simp [hh]) <| .yes (show (!p.key == []) = true from by have hh : ¬ ((p.key == []) = true) := (by omega); simp [hh]) <| .split (p.most < (1 : Int)) (fun h12 => .yes (show (decide (p.most < (1 : Int))) = true from decide_eq_true (show p.most < (1 : Int) from h12)) <| .tt <| .tt <| .fin ((ARes.ret (AV.int IntKind.i64 (1 : Int)), { boxes := [[AV.str p.name, AV.str p.owner, AV.int IntKind.i64 p.prio, AV.sl SK.sh (List.map encA p.need), AV.sl SK.sh (List.map encP p.labels), AV.sl SK.sh (List.map encM p.sel), AV.sl SK.sh (List.map encL p.tols), AV.str p.key, AV.int IntKind.i64 p.most, AV.str p.node, AV.bool p.hold]], toks := [], loops := [] : Heap })) (by simp_all [IsRet, firstE, maybeE]; omega)) (fun h12 => .no (show (decide (p.most < (1 : Int))) = false from decide_eq_false (show ¬ (p.most < (1 : Int)) from h12)) <| .split ((128 : Int) < p.most) (fun h13 => .yes (show (decide ((128 : Int) < p.most)) = true from decide_eq_true (show (128 : Int) < p.most from h13)) <| .tt <| .fin ((ARes.ret (AV.int IntKind.i64 (1 : Int)), { boxes := [[AV.str p.name, AV.str p.owner, AV.int IntKind.i64 p.prio, AV.sl SK.sh (List.map encA p.need), AV.sl SK.sh (List.map encP p.labels), AV.sl SK.sh (List.map encM p.sel), AV.sl SK.sh (List.map encL p.tols), AV.str p.key, AV.int IntKind.i64 p.most, AV.str p.node, AV.bool p.hold]], toks := [], loops := [] : Heap })) (by simp_all [IsRet, firstE, maybeE]; omega)) (fun h13 => .no (show (decide ((128 : Int) < p.most)) = false from decide_eq_false (show ¬ ((128 : Int) < p.most) from h13)) <| .no (show (p.key == []) = false from Bool.eq_false_iff.2 (show ¬ ((p.key == []) = true) from (by omega))) <| .ff <| .split ((p.node == []) = true) (fun h14 => .no (show (!p.node == []) = false from by have hh : (p.node == []) = true := h14; simp [hh]) <| .ff <| .fin ((ARes.ret (AV.int IntKind.i64 (0 : Int)), { boxes := [[AV.str p.name, AV.str p.owner, AV.int IntKind.i64 p.prio, AV.sl SK.sh (List.map encA p.need), AV.sl SK.sh (List.map encP p.labels), AV.sl SK.sh (List.map encM p.sel), AV.sl SK.sh (List.map encL p.tols), AV.str p.key, AV.int IntKind.i64 p.most, AV.str p.node, AV.bool p.hold]], toks := [], loops := [] : Heap })) (by simp_all [IsRet, firstE, maybeE]; omega)) (fun h14 => .yes (show (!p.node == []) = true from by have hh : ¬ ((p.node == []) = true) := h14; simp [hh]) <| .callG ([AV.str p.node]) (AV.bool (isName p.node)) (show Gives cfg (76 : FuncId) [AV.str p.node] (AV.bool (isName p.node)) from name_any _) ⟨rfl, rfl⟩ ⟨rfl, rfl⟩ <| .split (isName p.node = true) (fun h15 => .no (show (!isName p.node) = false from by have hh : isName p.node = true := h15; simp [hh]) <| .fin ((ARes.ret (AV.int IntKind.i64 (0 : Int)), { boxes := [[AV.str p.name, AV.str p.owner, AV.int IntKind.i64 p.prio, AV.sl SK.sh (List.map encA p.need), AV.sl SK.sh (List.map encP p.labels), AV.sl SK.sh (List.map encM p.sel), AV.sl SK.sh (List.map encL p.tols), AV.str p.key, AV.int IntKind.i64 p.most, AV.str p.node, AV.bool p.hold]], toks := [], loops := [] : Heap })) (by simp_all [IsRet, firstE, maybeE]; omega)) (fun h15 => .yes (show (!isName p.node) = true from by have hh : ¬ (isName p.node = true) := h15; simp [hh]) <| .fin ((ARes.ret (AV.int IntKind.i64 (3 : Int)), { boxes := [[AV.str p.name, AV.str p.owner, AV.int IntKind.i64 p.prio, AV.sl SK.sh (List.map encA p.need), AV.sl SK.sh (List.map encP p.labels), AV.sl SK.sh (List.map encM p.sel), AV.sl SK.sh (List.map encL p.tols), AV.str p.key, AV.int IntKind.i64 p.most, AV.str p.node, AV.bool p.hold]], toks := [], loops := [] : Heap })) (by simp_all [IsRet, firstE, maybeE]; omega)))))) (fun h11 => .yes (show (!isName p.key) = true from by have hh : ¬ (isName p.key = true) := h11; simp [hh]) <| .fin ((ARes.ret (AV.int IntKind.i64 (3 : Int)), { boxes := [[AV.str p.name, AV.str p.owner, AV.int IntKind.i64 p.prio, AV.sl SK.sh (List.map encA p.need), AV.sl SK.sh (List.map encP p.labels), AV.sl SK.sh (List.map encM p.sel), AV.sl SK.sh (List.map encL p.tols), AV.str p.key, AV.int IntKind.i64 p.most, AV.str p.node, AV.bool p.hold]], toks := [], loops := [] : Heap })) (by simp only [IsRet]; grind [firstE, maybeE]))))))))))) (fun h2 => .yes (show (!p.owner == []) = true from by have hh : ¬ ((p.owner == []) = true) := h2; simp [hh]) <| .callG ([AV.str p.owner]) (AV.bool (isName p.owner)) (show Gives cfg (76 : FuncId) [AV.str p.owner] (AV.bool (isName p.owner)) from name_any _) ⟨rfl, rfl⟩ ⟨rfl, rfl⟩ <| .split (isName p.owner = true) (fun h3 => .no (show (!isName p.owner) = false from by have hh : isName p.owner = true := h3; simp [hh]) <| .split (p.prio < (-1 : Int)) (fun h4 => .yes (show (decide (p.prio < (-1 : Int))) = true from decide_eq_true (show p.prio < (-1 : Int) from h4)) <| .tt <| .tt <| .fin ((ARes.ret (AV.int IntKind.i64 (1 : Int)), { boxes := [[AV.str p.name, AV.str p.owner, AV.int IntKind.i64 p.prio, AV.sl SK.sh (List.map encA p.need), AV.sl SK.sh (List.map encP p.labels), AV.sl SK.sh (List.map encM p.sel), AV.sl SK.sh (List.map encL p.tols), AV.str p.key, AV.int IntKind.i64 p.most, AV.str p.node, AV.bool p.hold]], toks := [], loops := [] : Heap })) (by simp only [IsRet]; grind [firstE, maybeE])) (fun h4 => .no (show (decide (p.prio < (-1 : Int))) = false from decide_eq_false (show ¬ (p.prio < (-1 : Int)) from h4)) <| .split ((1000000 : Int) < p.prio) (fun h5 => .yes (show (decide ((1000000 : Int) < p.prio)) = true from decide_eq_true (show (1000000 : Int) < p.prio from h5)) <| .tt <| .fin ((ARes.ret (AV.int IntKind.i64 (1 : Int)), { boxes := [[AV.str p.name, AV.str p.owner, AV.int IntKind.i64 p.prio, AV.sl SK.sh (List.map encA p.need), AV.sl SK.sh (List.map encP p.labels), AV.sl SK.sh (List.map encM p.sel), AV.sl SK.sh (List.map encL p.tols), AV.str p.key, AV.int IntKind.i64 p.most, AV.str p.node, AV.bool p.hold]], toks := [], loops := [] : Heap })) (by simp only [IsRet]; grind [firstE, maybeE])) (fun h5 => .no (show (decide ((1000000 : Int) < p.prio)) = false from decide_eq_false (show ¬ ((1000000 : Int) < p.prio) from h5)) <| .split ((if true = true then !p.hold == (p.prio == (-1 : Int)) else p.hold == (p.prio == (-1 : Int))) = true) (fun h6 => .yes (show (if true = true then !p.hold == (p.prio == (-1 : Int)) else p.hold == (p.prio == (-1 : Int))) = true from h6) <| .fin ((ARes.ret (AV.int IntKind.i64 (1 : Int)), { boxes := [[AV.str p.name, AV.str p.owner, AV.int IntKind.i64 p.prio, AV.sl SK.sh (List.map encA p.need), AV.sl SK.sh (List.map encP p.labels), AV.sl SK.sh (List.map encM p.sel), AV.sl SK.sh (List.map encL p.tols), AV.str p.key, AV.int IntKind.i64 p.most, AV.str p.node, AV.bool p.hold]], toks := [], loops := [] : Heap })) (by simp only [IsRet]; grind [firstE, maybeE])) (fun h6 => .no (show (if true = true then !p.hold == (p.prio == (-1 : Int)) else p.hold == (p.prio == (-1 : Int))) = false from Bool.eq_false_iff.2 (show ¬ ((if true = true then !p.hold == (p.prio == (-1 : Int)) else p.hold == (p.prio == (-1 : Int))) = true) from h6)) <| .callG ([AV.sl SK.sh (List.map encA p.need)]) (AV.int IntKind.i64 c1) (show Gives cfg (77 : FuncId) [AV.sl SK.sh (List.map encA p.need)] (AV.int IntKind.i64 c1) from a1) ⟨rfl, rfl⟩ ⟨rfl, rfl⟩ <| .split ((c1 != (0 : Int)) = true) (fun h7 => .yes (show (c1 != (0 : Int)) = true from h7) <| .fin ((ARes.ret (AV.int IntKind.i64 c1), { boxes := [[AV.str p.name, AV.str p.owner, AV.int IntKind.i64 p.prio, AV.sl SK.sh (List.map encA p.need), AV.sl SK.sh (List.map encP p.labels), AV.sl SK.sh (List.map encM p.sel), AV.sl SK.sh (List.map encL p.tols), AV.str p.key, AV.int IntKind.i64 p.most, AV.str p.node, AV.bool p.hold]], toks := [], loops := [] : Heap })) (by simp only [IsRet]; grind [firstE, maybeE])) (fun h7 => .no (show (c1 != (0 : Int)) = false from Bool.eq_false_iff.2 (show ¬ ((c1 != (0 : Int)) = true) from h7)) <| .callG ([AV.sl SK.sh (List.map encP p.labels)]) (AV.int IntKind.i64 c2) (show Gives cfg (78 : FuncId) [AV.sl SK.sh (List.map encP p.labels)] (AV.int IntKind.i64 c2) from a2) ⟨rfl, rfl⟩ ⟨rfl, rfl⟩ <| .split ((c2 != (0 : Int)) = true) (fun h8 => .yes (show (c2 != (0 : Int)) = true from h8) <| .fin ((ARes.ret (AV.int IntKind.i64 c2), { boxes := [[AV.str p.name, AV.str p.owner, AV.int IntKind.i64 p.prio, AV.sl SK.sh (List.map encA p.need), AV.sl SK.sh (List.map encP p.labels), AV.sl SK.sh (List.map encM p.sel), AV.sl SK.sh (List.map encL p.tols), AV.str p.key, AV.int IntKind.i64 p.most, AV.str p.node, AV.bool p.hold]], toks := [], loops := [] : Heap })) (by simp only [IsRet]; grind [firstE, maybeE])) (fun h8 => .no (show (c2 != (0 : Int)) = false from Bool.eq_false_iff.2 (show ¬ ((c2 != (0 : Int)) = true) from h8)) <| .callG ([AV.sl SK.sh (List.map encM p.sel)]) (AV.int IntKind.i64 c3) (show Gives cfg (127 : FuncId) [AV.sl SK.sh (List.map encM p.sel)] (AV.int IntKind.i64 c3) from a3) ⟨rfl, rfl⟩ ⟨rfl, rfl⟩ <| .split ((c3 != (0 : Int)) = true) (fun h9 => .yes (show (c3 != (0 : Int)) = true from h9) <| .fin ((ARes.ret (AV.int IntKind.i64 c3), { boxes := [[AV.str p.name, AV.str p.owner, AV.int IntKind.i64 p.prio, AV.sl SK.sh (List.map encA p.need), AV.sl SK.sh (List.map encP p.labels), AV.sl SK.sh (List.map encM p.sel), AV.sl SK.sh (List.map encL p.tols), AV.str p.key, AV.int IntKind.i64 p.most, AV.str p.node, AV.bool p.hold]], toks := [], loops := [] : Heap })) (by simp only [IsRet]; grind [firstE, maybeE])) (fun h9 => .no (show (c3 != (0 : Int)) = false from Bool.eq_false_iff.2 (show ¬ ((c3 != (0 : Int)) = true) from h9)) <| .callG ([AV.sl SK.sh (List.map encL p.tols)]) (AV.int IntKind.i64 c4) (show Gives cfg (128 : FuncId) [AV.sl SK.sh (List.map encL p.tols)] (AV.int IntKind.i64 c4) from a4) ⟨rfl, rfl⟩ ⟨rfl, rfl⟩ <| .split ((c4 != (0 : Int)) = true) (fun h10 => .yes (show (c4 != (0 : Int)) = true from h10) <| .fin ((ARes.ret (AV.int IntKind.i64 c4), { boxes := [[AV.str p.name, AV.str p.owner, AV.int IntKind.i64 p.prio, AV.sl SK.sh (List.map encA p.need), AV.sl SK.sh (List.map encP p.labels), AV.sl SK.sh (List.map encM p.sel), AV.sl SK.sh (List.map encL p.tols), AV.str p.key, AV.int IntKind.i64 p.most, AV.str p.node, AV.bool p.hold]], toks := [], loops := [] : Heap })) (by simp only [IsRet]; grind [firstE, maybeE])) (fun h10 => .no (show (c4 != (0 : Int)) = false from Bool.eq_false_iff.2 (show ¬ ((c4 != (0 : Int)) = true) from h10)) <| .split ((p.key == []) = true) (fun h11 => .no (show (!p.key == []) = false from by have hh : (p.key == []) = true := h11; simp [hh]) <| .ff <| .no (show (!p.key == []) = false from by have hh : (p.key == []) = true := (by omega); simp [hh]) <| .ff <| .yes (show (p.key == []) = true from (by omega)) <| .split ((p.most != (0 : Int)) = true) (fun h12 => .yes (show (p.most != (0 : Int)) = true from h12) <| .fin ((ARes.ret (AV.int IntKind.i64 (1 : Int)), { boxes := [[AV.str p.name, AV.str p.owner, AV.int IntKind.i64 p.prio, AV.sl SK.sh (List.map encA p.need), AV.sl SK.sh (List.map encP p.labels), AV.sl SK.sh (List.map encM p.sel), AV.sl SK.sh (List.map encL p.tols), AV.str p.key, AV.int IntKind.i64 p.most, AV.str p.node, AV.bool p.hold]], toks := [], loops := [] : Heap })) (by simp_all [IsRet, firstE, maybeE]; omega)) (fun h12 => .no (show (p.most != (0 : Int)) = false from Bool.eq_false_iff.2 (show ¬ ((p.most != (0 : Int)) = true) from h12)) <| .split ((p.node == []) = true) (fun h13 => .no (show (!p.node == []) = false from by have hh : (p.node == []) = true := h13; simp [hh]) <| .ff <| .fin ((ARes.ret (AV.int IntKind.i64 (0 : Int)), { boxes := [[AV.str p.name, AV.str p.owner, AV.int IntKind.i64 p.prio, AV.sl SK.sh (List.map encA p.need), AV.sl SK.sh (List.map encP p.labels), AV.sl SK.sh (List.map encM p.sel), AV.sl SK.sh (List.map encL p.tols), AV.str p.key, AV.int IntKind.i64 p.most, AV.str p.node, AV.bool p.hold]], toks := [], loops := [] : Heap })) (by simp_all [IsRet, firstE, maybeE]; omega)) (fun h13 => .yes (show (!p.node == []) = true from by have hh : ¬ ((p.node == []) = true) := h13; simp [hh]) <| .callG ([AV.str p.node]) (AV.bool (isName p.node)) (show Gives cfg (76 : FuncId) [AV.str p.node] (AV.bool (isName p.node)) from name_any _) ⟨rfl, rfl⟩ ⟨rfl, rfl⟩ <| .split (isName p.node = true) (fun h14 => .no (show (!isName p.node) = false from by have hh : isName p.node = true := h14; simp [hh]) <| .fin ((ARes.ret (AV.int IntKind.i64 (0 : Int)), { boxes := [[AV.str p.name, AV.str p.owner, AV.int IntKind.i64 p.prio, AV.sl SK.sh (List.map encA p.need), AV.sl SK.sh (List.map encP p.labels), AV.sl SK.sh (List.map encM p.sel), AV.sl SK.sh (List.map encL p.tols), AV.str p.key, AV.int IntKind.i64 p.most, AV.str p.node, AV.bool p.hold]], toks := [], loops := [] : Heap })) (by simp_all [IsRet, firstE, maybeE]; omega)) (fun h14 => .yes (show (!isName p.node) = true from by have hh : ¬ (isName p.node = true) := h14; simp [hh]) <| .fin ((ARes.ret (AV.int IntKind.i64 (3 : Int)), { boxes := [[AV.str p.name, AV.str p.owner, AV.int IntKind.i64 p.prio, AV.sl SK.sh (List.map encA p.need), AV.sl SK.sh (List.map encP p.labels), AV.sl SK.sh (List.map encM p.sel), AV.sl SK.sh (List.map encL p.tols), AV.str p.key, AV.int IntKind.i64 p.most, AV.str p.node, AV.bool p.hold]], toks := [], loops := [] : Heap })) (by simp_all [IsRet, firstE, maybeE]; omega))))) (fun h11 => .yes (show (!p.key == []) = true from by have hh : ¬ ((p.key == []) = true) := h11; simp [hh]) <| .callG ([AV.str p.key]) (AV.bool (isName p.key)) (show Gives cfg (76 : FuncId) [AV.str p.key] (AV.bool (isName p.key)) from name_any _) ⟨rfl, rfl⟩ ⟨rfl, rfl⟩ <| .split (isName p.key = true) (fun h12 => .no (show (!isName p.key) = false from by have hh : isName p.key = true := h12; simp [hh]) <| .yes (show (!p.key == []) = true from by have hh : ¬ ((p.key == []) = true) := (by omega); simp [hh]) <| .split (p.most < (1 : Int)) (fun h13 => .yes (show (decide (p.most < (1 : Int))) = true from decide_eq_true (show p.most < (1 : Int) from h13)) <| .tt <| .tt <| .fin ((ARes.ret (AV.int IntKind.i64 (1 : Int)), { boxes := [[AV.str p.name, AV.str p.owner, AV.int IntKind.i64 p.prio, AV.sl SK.sh (List.map encA p.need), AV.sl SK.sh (List.map encP p.labels), AV.sl SK.sh (List.map encM p.sel), AV.sl SK.sh (List.map encL p.tols), AV.str p.key, AV.int IntKind.i64 p.most, AV.str p.node, AV.bool p.hold]], toks := [], loops := [] : Heap })) (by simp_all [IsRet, firstE, maybeE]; omega)) (fun h13 => .no (show (decide (p.most < (1 : Int))) = false from decide_eq_false (show ¬ (p.most < (1 : Int)) from h13)) <| .split ((128 : Int) < p.most) (fun h14 => .yes (show (decide ((128 : Int) < p.most)) = true from decide_eq_true (show (128 : Int) < p.most from h14)) <| .tt <| .fin ((ARes.ret (AV.int IntKind.i64 (1 : Int)), { boxes := [[AV.str p.name, AV.str p.owner, AV.int IntKind.i64 p.prio, AV.sl SK.sh (List.map encA p.need), AV.sl SK.sh (List.map encP p.labels), AV.sl SK.sh (List.map encM p.sel), AV.sl SK.sh (List.map encL p.tols), AV.str p.key, AV.int IntKind.i64 p.most, AV.str p.node, AV.bool p.hold]], toks := [], loops := [] : Heap })) (by simp_all [IsRet, firstE, maybeE]; omega)) (fun h14 => .no (show (decide ((128 : Int) < p.most)) = false from decide_eq_false (show ¬ ((128 : Int) < p.most) from h14)) <| .no (show (p.key == []) = false from Bool.eq_false_iff.2 (show ¬ ((p.key == []) = true) from (by omega))) <| .ff <| .split ((p.node == []) = true) (fun h15 => .no (show (!p.node == []) = false from by have hh : (p.node == []) = true := h15; simp [hh]) <| .ff <| .fin ((ARes.ret (AV.int IntKind.i64 (0 : Int)), { boxes := [[AV.str p.name, AV.str p.owner, AV.int IntKind.i64 p.prio, AV.sl SK.sh (List.map encA p.need), AV.sl SK.sh (List.map encP p.labels), AV.sl SK.sh (List.map encM p.sel), AV.sl SK.sh (List.map encL p.tols), AV.str p.key, AV.int IntKind.i64 p.most, AV.str p.node, AV.bool p.hold]], toks := [], loops := [] : Heap })) (by simp_all [IsRet, firstE, maybeE]; omega)) (fun h15 => .yes (show (!p.node == []) = true from by have hh : ¬ ((p.node == []) = true) := h15; simp [hh]) <| .callG ([AV.str p.node]) (AV.bool (isName p.node)) (show Gives cfg (76 : FuncId) [AV.str p.node] (AV.bool (isName p.node)) from name_any _) ⟨rfl, rfl⟩ ⟨rfl, rfl⟩ <| .split (isName p.node = true) (fun h16 => .no (show (!isName p.node) = false from by have hh : isName p.node = true := h16; simp [hh]) <| .fin ((ARes.ret (AV.int IntKind.i64 (0 : Int)), { boxes := [[AV.str p.name, AV.str p.owner, AV.int IntKind.i64 p.prio, AV.sl SK.sh (List.map encA p.need), AV.sl SK.sh (List.map encP p.labels), AV.sl SK.sh (List.map encM p.sel), AV.sl SK.sh (List.map encL p.tols), AV.str p.key, AV.int IntKind.i64 p.most, AV.str p.node, AV.bool p.hold]], toks := [], loops := [] : Heap })) (by simp_all [IsRet, firstE, maybeE]; omega)) (fun h16 => .yes (show (!isName p.node) = true from by have hh : ¬ (isName p.node = true) := h16; simp [hh]) <| .fin ((ARes.ret (AV.int IntKind.i64 (3 : Int)), { boxes := [[AV.str p.name, AV.str p.owner, AV.int IntKind.i64 p.prio, AV.sl SK.sh (List.map encA p.need), AV.sl SK.sh (List.map encP p.labels), AV.sl SK.sh (List.map encM p.sel), AV.sl SK.sh (List.map encL p.tols), AV.str p.key, AV.int IntKind.i64 p.most, AV.str p.node, AV.bool p.hold]], toks := [], loops := [] : Heap })) (by simp_all [IsRet, firstE, maybeE]; omega)))))) (fun h12 => .yes (show (!isName p.key) = true from by have hh : ¬ (isName p.key = true) := h12; simp [hh]) <| .fin ((ARes.ret (AV.int IntKind.i64 (3 : Int)), { boxes := [[AV.str p.name, AV.str p.owner, AV.int IntKind.i64 p.prio, AV.sl SK.sh (List.map encA p.need), AV.sl SK.sh (List.map encP p.labels), AV.sl SK.sh (List.map encM p.sel), AV.sl SK.sh (List.map encL p.tols), AV.str p.key, AV.int IntKind.i64 p.most, AV.str p.node, AV.bool p.hold]], toks := [], loops := [] : Heap })) (by simp only [IsRet]; grind [firstE, maybeE]))))))))))) (fun h3 => .yes (show (!isName p.owner) = true from by have hh : ¬ (isName p.owner = true) := h3; simp [hh]) <| .fin ((ARes.ret (AV.int IntKind.i64 (3 : Int)), { boxes := [[AV.str p.name, AV.str p.owner, AV.int IntKind.i64 p.prio, AV.sl SK.sh (List.map encA p.need), AV.sl SK.sh (List.map encP p.labels), AV.sl SK.sh (List.map encM p.sel), AV.sl SK.sh (List.map encL p.tols), AV.str p.key, AV.int IntKind.i64 p.most, AV.str p.node, AV.bool p.hold]], toks := [], loops := [] : Heap })) (by simp only [IsRet]; grind [firstE, maybeE])))) (fun h1 => .yes (show (!isName p.name) = true from by have hh : ¬ (isName p.name = true) := h1; simp [hh]) <| .tt <| .fin ((ARes.ret (AV.int IntKind.i64 (3 : Int)), { boxes := [[AV.str p.name, AV.str p.owner, AV.int IntKind.i64 p.prio, AV.sl SK.sh (List.map encA p.need), AV.sl SK.sh (List.map encP p.labels), AV.sl SK.sh (List.map encM p.sel), AV.sl SK.sh (List.map encL p.tols), AV.str p.key, AV.int IntKind.i64 p.most, AV.str p.node, AV.bool p.hold]], toks := [], loops := [] : Heap })) (by simp only [IsRet]; grind [firstE, maybeE]))) (by kernel_rfl)
theorem ckPds_ref_loop (l : List Pod) (hn : l.length ≤ 128) : ∀ (post : List Pod) (i : Nat) (hd : l.drop i = post) (T : Env) (hT : Has T [(0, .sl .sh (l.map encPd)), (3, .int .i64 i)]),
    Goes cfg a20 k20_0 T Heap.nil (IsRet (.int .i64 (ckAl ckPd Pod.name l i post))) := by
  intro post
  induction post with
  | nil =>
    intro i hd T hT
    have hge := drop_ge hd
    exact goG 60 _  hT  (.len (show lenA false (AV.sl SK.sh (List.map encPd l)) = some (AV.int IntKind.i64 (↑l.length : Int)) from len_map _) <| .no (show (decide ((↑i : Int) < (↑l.length : Int))) = false from decide_eq_false (show ¬ ((↑i : Int) < (↑l.length : Int)) from (by omega))) <| .fin ((ARes.ret (AV.int IntKind.i64 (0 : Int)), { boxes := [], toks := [], loops := [] : Heap })) rfl) (by kernel_rfl)
  | cons x post ih =>
    intro i hd T hT
    have hlt := drop_lt hd
    have hnx := drop_next hd
    have hc := ckPd_ref x
    have e : ckAl ckPd Pod.name l i (x :: post) = if ckPd x = 0 then (if ordG Pod.name l i x then 13 else ckAl ckPd Pod.name l (i + 1) post) else ckPd x := rfl
    rw [e]
    generalize ckPd x = c at hc ⊢
    cases i with
    | zero => exact goG 60 _  hT  (.len (show lenA false (AV.sl SK.sh (List.map encPd l)) = some (AV.int IntKind.i64 (↑l.length : Int)) from len_map _) <| .yes (show (decide ((↑(0 : Nat) : Int) < (↑l.length : Int))) = true from decide_eq_true (show (↑(0 : Nat) : Int) < (↑l.length : Int) from (by omega))) <| .idx (show idxA (11 : Nat) (AV.sl SK.sh (List.map encPd l)) (AV.int IntKind.i64 (↑(0 : Nat) : Int)) = some (AV.ref (encPd x).cells) from idx_row hd (by rfl)) <| .callG ([AV.agg [AV.str x.name, AV.str x.owner, AV.int IntKind.i64 x.prio, AV.sl SK.sh (List.map encA x.need), AV.sl SK.sh (List.map encP x.labels), AV.sl SK.sh (List.map encM x.sel), AV.sl SK.sh (List.map encL x.tols), AV.str x.key, AV.int IntKind.i64 x.most, AV.str x.node, AV.bool x.hold]]) (AV.int IntKind.i64 c) (show Gives cfg (53 : FuncId) [encPd x] (AV.int IntKind.i64 c) from hc) ⟨rfl, rfl⟩ ⟨rfl, rfl⟩ <| .split ((c != (0 : Int)) = true) (fun h1 => .yes (show (c != (0 : Int)) = true from h1) <| .fin ((ARes.ret (AV.int IntKind.i64 c), { boxes := [], toks := [], loops := [] : Heap })) (by simp only [IsRet]; grind [ordG])) (fun h1 => .no (show (c != (0 : Int)) = false from Bool.eq_false_iff.2 (show ¬ ((c != (0 : Int)) = true) from h1)) <| .ff <| .ff <| .bin (show binA BinOp.add (AV.int IntKind.i64 (↑(0 : Nat) : Int)) (AV.int IntKind.i64 (1 : Int)) = some (AV.int IntKind.i64 (↑((0 : Nat) + (1 : Nat)) : Int)) from inc_i (by omega)) <| .cutQ k20_0 [(0, AV.sl SK.sh (List.map encPd l)), (3, AV.int IntKind.i64 (↑((0 : Nat) + (1 : Nat)) : Int))] ({ boxes := [], toks := [], loops := [] : Heap }) (fun T hT => (ih ((0 : Nat) + (1 : Nat)) hnx T hT).to (by grind [ordG])))) (by kernel_rfl)
    | succ j =>
      obtain ⟨p, hp⟩ : ∃ p, l[j]? = some p := ⟨l[j], List.getElem?_eq_getElem (by omega)⟩
      exact goG 60 _  hT  (.len (show lenA false (AV.sl SK.sh (List.map encPd l)) = some (AV.int IntKind.i64 (↑l.length : Int)) from len_map _) <| .yes (show (decide ((↑(j + (1 : Nat)) : Int) < (↑l.length : Int))) = true from decide_eq_true (show (↑(j + (1 : Nat)) : Int) < (↑l.length : Int) from (by omega))) <| .idx (show idxA (11 : Nat) (AV.sl SK.sh (List.map encPd l)) (AV.int IntKind.i64 (↑(j + (1 : Nat)) : Int)) = some (AV.ref (encPd x).cells) from idx_row hd (by rfl)) <| .callG ([AV.agg [AV.str x.name, AV.str x.owner, AV.int IntKind.i64 x.prio, AV.sl SK.sh (List.map encA x.need), AV.sl SK.sh (List.map encP x.labels), AV.sl SK.sh (List.map encM x.sel), AV.sl SK.sh (List.map encL x.tols), AV.str x.key, AV.int IntKind.i64 x.most, AV.str x.node, AV.bool x.hold]]) (AV.int IntKind.i64 c) (show Gives cfg (53 : FuncId) [encPd x] (AV.int IntKind.i64 c) from hc) ⟨rfl, rfl⟩ ⟨rfl, rfl⟩ <| .split ((c != (0 : Int)) = true) (fun h1 => .yes (show (c != (0 : Int)) = true from h1) <| .fin ((ARes.ret (AV.int IntKind.i64 c), { boxes := [], toks := [], loops := [] : Heap })) (by simp only [IsRet]; grind [ordG])) (fun h1 => .no (show (c != (0 : Int)) = false from Bool.eq_false_iff.2 (show ¬ ((c != (0 : Int)) = true) from h1)) <| .yes (show (decide ((0 : Int) < (↑(j + (1 : Nat)) : Int))) = true from decide_eq_true (show (0 : Int) < (↑(j + (1 : Nat)) : Int) from (by omega))) <| .idx (show idxA (11 : Nat) (AV.sl SK.sh (List.map encPd l)) (AV.int IntKind.i64 (↑(j + (1 : Nat)) : Int)) = some (AV.ref (encPd x).cells) from idx_row hd (by rfl)) <| .bin (show binA BinOp.sub (AV.int IntKind.i64 (↑(j + (1 : Nat)) : Int)) (AV.int IntKind.i64 (1 : Int)) = some (AV.int IntKind.i64 (↑j : Int)) from dec_i (by omega)) <| .idx (show idxA (11 : Nat) (AV.sl SK.sh (List.map encPd l)) (AV.int IntKind.i64 (↑j : Int)) = some (AV.ref (encPd p).cells) from idx_get hp (by rfl)) <| .split ((Op.bytesLess x.name p.name || x.name == p.name) = true) (fun h2 => .yes (show (Op.bytesLess x.name p.name || x.name == p.name) = true from h2) <| .fin ((ARes.ret (AV.int IntKind.i64 (13 : Int)), { boxes := [], toks := [], loops := [] : Heap })) (by simp only [IsRet]; grind [ordG])) (fun h2 => .no (show (Op.bytesLess x.name p.name || x.name == p.name) = false from Bool.eq_false_iff.2 (show ¬ ((Op.bytesLess x.name p.name || x.name == p.name) = true) from h2)) <| .bin (show binA BinOp.add (AV.int IntKind.i64 (↑(j + (1 : Nat)) : Int)) (AV.int IntKind.i64 (1 : Int)) = some (AV.int IntKind.i64 (↑(j + (1 : Nat) + (1 : Nat)) : Int)) from inc_i (by omega)) <| .cutQ k20_0 [(0, AV.sl SK.sh (List.map encPd l)), (3, AV.int IntKind.i64 (↑(j + (1 : Nat) + (1 : Nat)) : Int))] ({ boxes := [], toks := [], loops := [] : Heap }) (fun T hT => (ih (j + (1 : Nat) + (1 : Nat)) hnx T hT).to (by grind [ordG]))))) (by kernel_rfl)
theorem ckPds_ref (l : List Pod) : Gives cfg 20 [.sl .sh (l.map encPd)] (.int .i64 (ckAll 128 ckPd Pod.name l)) := by
  refine Gives.run (l20 _ _) ?_
  have h := fun hn => ckPds_ref_loop l hn l 0 rfl
  exact goG 60 []  trivial  (.len (show lenA false (AV.sl SK.sh (List.map encPd l)) = some (AV.int IntKind.i64 (↑l.length : Int)) from len_map _) <| .split ((128 : Int) < (↑l.length : Int)) (fun h1 => .yes (show (decide ((128 : Int) < (↑l.length : Int))) = true from decide_eq_true (show (128 : Int) < (↑l.length : Int) from h1)) <| .fin ((ARes.ret (AV.int IntKind.i64 (4 : Int)), { boxes := [], toks := [], loops := [] : Heap })) (by simp only [IsRet]; grind [ckAll])) (fun h1 => .no (show (decide ((128 : Int) < (↑l.length : Int))) = false from decide_eq_false (show ¬ ((128 : Int) < (↑l.length : Int)) from h1)) <| .cutQ k20_0 [(0, AV.sl SK.sh (List.map encPd l)), (3, AV.int IntKind.i64 (0 : Int))] ({ boxes := [], toks := [], loops := [] : Heap }) (fun T hT => (h (by omega) T hT).to (by grind [ckAll])))) (by kernel_rfl)
def findPdZ : List AV := [.str [], .str [], .int .i64 0, .sl .full [], .sl .full [], .sl .full [], .sl .full [], .str [], .int .i64 0, .str [], .bool false]
def findPdV : Option Pod → AV
  | none => .tuple [.agg findPdZ, .bool false]
  | some x => .tuple [encPd x, .bool true]
theorem findPd_any_loop (l : List Pod) (s : List UInt8) (hn : l.length < 9223372036854775807) : ∀ (post : List Pod) (i : Nat) (bs : List (List AV)) (hd : l.drop i = post) (T : Env) (hT : Has T [(4, .ptr 0 0), (1, .str s), (8, .sl .sh (l.map encPd)), (9, .int .i64 l.length), (10, .int .i64 i)]),
    Goes cfg a48 k48_0 T ⟨findPdZ :: bs, [], []⟩ (IsRet (findPdV (findG Pod.name post s))) := by
  intro post
  induction post with
  | nil =>
    intro i bs hd T hT
    have hge := drop_ge hd
    exact goG 60 _  hT  (.no (show (decide ((↑i : Int) < (↑l.length : Int))) = false from decide_eq_false (show ¬ ((↑i : Int) < (↑l.length : Int)) from (by omega))) <| .store (show storeA (11 : Nat) { boxes := [AV.str [], AV.str [], AV.int IntKind.i64 (0 : Int), AV.sl SK.full [], AV.sl SK.full [], AV.sl SK.full [], AV.sl SK.full [], AV.str [], AV.int IntKind.i64 (0 : Int), AV.str [], AV.bool false] :: bs, toks := [], loops := [] : Heap } (AV.ptr (0 : Nat) (0 : Nat)) (AV.agg [AV.str [], AV.str [], AV.int IntKind.i64 (0 : Int), AV.sl SK.full [], AV.sl SK.full [], AV.sl SK.full [], AV.sl SK.full [], AV.str [], AV.int IntKind.i64 (0 : Int), AV.str [], AV.bool false]) = some ({ boxes := [AV.str [], AV.str [], AV.int IntKind.i64 (0 : Int), AV.sl SK.full [], AV.sl SK.full [], AV.sl SK.full [], AV.sl SK.full [], AV.str [], AV.int IntKind.i64 (0 : Int), AV.str [], AV.bool false] :: bs, toks := [], loops := [] : Heap }) from store_box2 (cs := [AV.str [], AV.str [], AV.int IntKind.i64 (0 : Int), AV.sl SK.full [], AV.sl SK.full [], AV.sl SK.full [], AV.sl SK.full [], AV.str [], AV.int IntKind.i64 (0 : Int), AV.str [], AV.bool false]) (cs' := [AV.str [], AV.str [], AV.int IntKind.i64 (0 : Int), AV.sl SK.full [], AV.sl SK.full [], AV.sl SK.full [], AV.sl SK.full [], AV.str [], AV.int IntKind.i64 (0 : Int), AV.str [], AV.bool false]) (by simp) rfl (by simp [List.set_append])) <| .fin ((ARes.ret (AV.tuple [AV.agg [AV.str [], AV.str [], AV.int IntKind.i64 (0 : Int), AV.sl SK.full [], AV.sl SK.full [], AV.sl SK.full [], AV.sl SK.full [], AV.str [], AV.int IntKind.i64 (0 : Int), AV.str [], AV.bool false], AV.bool false]), { boxes := [AV.str [], AV.str [], AV.int IntKind.i64 (0 : Int), AV.sl SK.full [], AV.sl SK.full [], AV.sl SK.full [], AV.sl SK.full [], AV.str [], AV.int IntKind.i64 (0 : Int), AV.str [], AV.bool false] :: bs, toks := [], loops := [] : Heap })) rfl) (by kernel_rfl)
  | cons x post ih =>
    intro i bs hd T hT
    have hlt := drop_lt hd
    have hnx := drop_next hd
    by_cases hx : Pod.name x = s
    · have e : findG Pod.name (x :: post) s = some x := by simp [findG, List.find?_cons, hx]
      rw [e]
      exact goG 60 _  hT  (.yes (show (decide ((↑i : Int) < (↑l.length : Int))) = true from decide_eq_true (show (↑i : Int) < (↑l.length : Int) from (by omega))) <| .idx (show idxA (11 : Nat) (AV.sl SK.sh (List.map encPd l)) (AV.int IntKind.i64 (↑i : Int)) = some (AV.ref (encPd x).cells) from idx_row hd (by rfl)) <| .load (show loadA true (11 : Nat) { boxes := [AV.str [], AV.str [], AV.int IntKind.i64 (0 : Int), AV.sl SK.full [], AV.sl SK.full [], AV.sl SK.full [], AV.sl SK.full [], AV.str [], AV.int IntKind.i64 (0 : Int), AV.str [], AV.bool false] :: bs, toks := [], loops := [] : Heap } (AV.ref [AV.str x.name, AV.str x.owner, AV.int IntKind.i64 x.prio, AV.sl SK.sh (List.map encA x.need), AV.sl SK.sh (List.map encP x.labels), AV.sl SK.sh (List.map encM x.sel), AV.sl SK.sh (List.map encL x.tols), AV.str x.key, AV.int IntKind.i64 x.most, AV.str x.node, AV.bool x.hold]) = some (AV.agg [AV.str x.name, AV.str x.owner, AV.int IntKind.i64 x.prio, AV.sl SK.sh (List.map encA x.need), AV.sl SK.sh (List.map encP x.labels), AV.sl SK.sh (List.map encM x.sel), AV.sl SK.sh (List.map encL x.tols), AV.str x.key, AV.int IntKind.i64 x.most, AV.str x.node, AV.bool x.hold]) from rfl) <| .store (show storeA (11 : Nat) { boxes := [AV.str [], AV.str [], AV.int IntKind.i64 (0 : Int), AV.sl SK.full [], AV.sl SK.full [], AV.sl SK.full [], AV.sl SK.full [], AV.str [], AV.int IntKind.i64 (0 : Int), AV.str [], AV.bool false] :: (bs ++ [[AV.str [], AV.str [], AV.int IntKind.i64 (0 : Int), AV.sl SK.full [], AV.sl SK.full [], AV.sl SK.full [], AV.sl SK.full [], AV.str [], AV.int IntKind.i64 (0 : Int), AV.str [], AV.bool false]]), toks := [], loops := [] : Heap } (AV.ptr ([AV.str [], AV.str [], AV.int IntKind.i64 (0 : Int), AV.sl SK.full [], AV.sl SK.full [], AV.sl SK.full [], AV.sl SK.full [], AV.str [], AV.int IntKind.i64 (0 : Int), AV.str [], AV.bool false] :: bs).length (0 : Nat)) (AV.agg [AV.str x.name, AV.str x.owner, AV.int IntKind.i64 x.prio, AV.sl SK.sh (List.map encA x.need), AV.sl SK.sh (List.map encP x.labels), AV.sl SK.sh (List.map encM x.sel), AV.sl SK.sh (List.map encL x.tols), AV.str x.key, AV.int IntKind.i64 x.most, AV.str x.node, AV.bool x.hold]) = some ({ boxes := [AV.str [], AV.str [], AV.int IntKind.i64 (0 : Int), AV.sl SK.full [], AV.sl SK.full [], AV.sl SK.full [], AV.sl SK.full [], AV.str [], AV.int IntKind.i64 (0 : Int), AV.str [], AV.bool false] :: (bs ++ [[AV.str x.name, AV.str x.owner, AV.int IntKind.i64 x.prio, AV.sl SK.sh (List.map encA x.need), AV.sl SK.sh (List.map encP x.labels), AV.sl SK.sh (List.map encM x.sel), AV.sl SK.sh (List.map encL x.tols), AV.str x.key, AV.int IntKind.i64 x.most, AV.str x.node, AV.bool x.hold]]), toks := [], loops := [] : Heap }) from store_box2 (cs := [AV.str [], AV.str [], AV.int IntKind.i64 (0 : Int), AV.sl SK.full [], AV.sl SK.full [], AV.sl SK.full [], AV.sl SK.full [], AV.str [], AV.int IntKind.i64 (0 : Int), AV.str [], AV.bool false]) (cs' := [AV.str x.name, AV.str x.owner, AV.int IntKind.i64 x.prio, AV.sl SK.sh (List.map encA x.need), AV.sl SK.sh (List.map encP x.labels), AV.sl SK.sh (List.map encM x.sel), AV.sl SK.sh (List.map encL x.tols), AV.str x.key, AV.int IntKind.i64 x.most, AV.str x.node, AV.bool x.hold]) (by simp) rfl (by simp [List.set_append])) <| .load (show loadA false (1 : Nat) { boxes := [AV.str [], AV.str [], AV.int IntKind.i64 (0 : Int), AV.sl SK.full [], AV.sl SK.full [], AV.sl SK.full [], AV.sl SK.full [], AV.str [], AV.int IntKind.i64 (0 : Int), AV.str [], AV.bool false] :: (bs ++ [[AV.str x.name, AV.str x.owner, AV.int IntKind.i64 x.prio, AV.sl SK.sh (List.map encA x.need), AV.sl SK.sh (List.map encP x.labels), AV.sl SK.sh (List.map encM x.sel), AV.sl SK.sh (List.map encL x.tols), AV.str x.key, AV.int IntKind.i64 x.most, AV.str x.node, AV.bool x.hold]]), toks := [], loops := [] : Heap } (AV.ptr ([AV.str [], AV.str [], AV.int IntKind.i64 (0 : Int), AV.sl SK.full [], AV.sl SK.full [], AV.sl SK.full [], AV.sl SK.full [], AV.str [], AV.int IntKind.i64 (0 : Int), AV.str [], AV.bool false] :: bs).length (0 : Nat)) = some (AV.str x.name) from load_box (cs := [AV.str x.name, AV.str x.owner, AV.int IntKind.i64 x.prio, AV.sl SK.sh (List.map encA x.need), AV.sl SK.sh (List.map encP x.labels), AV.sl SK.sh (List.map encM x.sel), AV.sl SK.sh (List.map encL x.tols), AV.str x.key, AV.int IntKind.i64 x.most, AV.str x.node, AV.bool x.hold]) (by simp) rfl) <| .yes (show (x.name == s) = true from (by simpa using hx)) <| .load (show loadA true (11 : Nat) { boxes := [AV.str [], AV.str [], AV.int IntKind.i64 (0 : Int), AV.sl SK.full [], AV.sl SK.full [], AV.sl SK.full [], AV.sl SK.full [], AV.str [], AV.int IntKind.i64 (0 : Int), AV.str [], AV.bool false] :: (bs ++ [[AV.str x.name, AV.str x.owner, AV.int IntKind.i64 x.prio, AV.sl SK.sh (List.map encA x.need), AV.sl SK.sh (List.map encP x.labels), AV.sl SK.sh (List.map encM x.sel), AV.sl SK.sh (List.map encL x.tols), AV.str x.key, AV.int IntKind.i64 x.most, AV.str x.node, AV.bool x.hold]]), toks := [], loops := [] : Heap } (AV.ptr ([AV.str [], AV.str [], AV.int IntKind.i64 (0 : Int), AV.sl SK.full [], AV.sl SK.full [], AV.sl SK.full [], AV.sl SK.full [], AV.str [], AV.int IntKind.i64 (0 : Int), AV.str [], AV.bool false] :: bs).length (0 : Nat)) = some (AV.agg [AV.str x.name, AV.str x.owner, AV.int IntKind.i64 x.prio, AV.sl SK.sh (List.map encA x.need), AV.sl SK.sh (List.map encP x.labels), AV.sl SK.sh (List.map encM x.sel), AV.sl SK.sh (List.map encL x.tols), AV.str x.key, AV.int IntKind.i64 x.most, AV.str x.node, AV.bool x.hold]) from load_box (cs := [AV.str x.name, AV.str x.owner, AV.int IntKind.i64 x.prio, AV.sl SK.sh (List.map encA x.need), AV.sl SK.sh (List.map encP x.labels), AV.sl SK.sh (List.map encM x.sel), AV.sl SK.sh (List.map encL x.tols), AV.str x.key, AV.int IntKind.i64 x.most, AV.str x.node, AV.bool x.hold]) (by simp) rfl) <| .store (show storeA (11 : Nat) { boxes := [AV.str [], AV.str [], AV.int IntKind.i64 (0 : Int), AV.sl SK.full [], AV.sl SK.full [], AV.sl SK.full [], AV.sl SK.full [], AV.str [], AV.int IntKind.i64 (0 : Int), AV.str [], AV.bool false] :: (bs ++ [[AV.str x.name, AV.str x.owner, AV.int IntKind.i64 x.prio, AV.sl SK.sh (List.map encA x.need), AV.sl SK.sh (List.map encP x.labels), AV.sl SK.sh (List.map encM x.sel), AV.sl SK.sh (List.map encL x.tols), AV.str x.key, AV.int IntKind.i64 x.most, AV.str x.node, AV.bool x.hold]]), toks := [], loops := [] : Heap } (AV.ptr (0 : Nat) (0 : Nat)) (AV.agg [AV.str x.name, AV.str x.owner, AV.int IntKind.i64 x.prio, AV.sl SK.sh (List.map encA x.need), AV.sl SK.sh (List.map encP x.labels), AV.sl SK.sh (List.map encM x.sel), AV.sl SK.sh (List.map encL x.tols), AV.str x.key, AV.int IntKind.i64 x.most, AV.str x.node, AV.bool x.hold]) = some ({ boxes := [AV.str x.name, AV.str x.owner, AV.int IntKind.i64 x.prio, AV.sl SK.sh (List.map encA x.need), AV.sl SK.sh (List.map encP x.labels), AV.sl SK.sh (List.map encM x.sel), AV.sl SK.sh (List.map encL x.tols), AV.str x.key, AV.int IntKind.i64 x.most, AV.str x.node, AV.bool x.hold] :: (bs ++ [[AV.str x.name, AV.str x.owner, AV.int IntKind.i64 x.prio, AV.sl SK.sh (List.map encA x.need), AV.sl SK.sh (List.map encP x.labels), AV.sl SK.sh (List.map encM x.sel), AV.sl SK.sh (List.map encL x.tols), AV.str x.key, AV.int IntKind.i64 x.most, AV.str x.node, AV.bool x.hold]]), toks := [], loops := [] : Heap }) from store_box2 (cs := [AV.str [], AV.str [], AV.int IntKind.i64 (0 : Int), AV.sl SK.full [], AV.sl SK.full [], AV.sl SK.full [], AV.sl SK.full [], AV.str [], AV.int IntKind.i64 (0 : Int), AV.str [], AV.bool false]) (cs' := [AV.str x.name, AV.str x.owner, AV.int IntKind.i64 x.prio, AV.sl SK.sh (List.map encA x.need), AV.sl SK.sh (List.map encP x.labels), AV.sl SK.sh (List.map encM x.sel), AV.sl SK.sh (List.map encL x.tols), AV.str x.key, AV.int IntKind.i64 x.most, AV.str x.node, AV.bool x.hold]) (by simp) rfl (by simp [List.set_append])) <| .fin ((ARes.ret (AV.tuple [AV.agg [AV.str x.name, AV.str x.owner, AV.int IntKind.i64 x.prio, AV.sl SK.sh (List.map encA x.need), AV.sl SK.sh (List.map encP x.labels), AV.sl SK.sh (List.map encM x.sel), AV.sl SK.sh (List.map encL x.tols), AV.str x.key, AV.int IntKind.i64 x.most, AV.str x.node, AV.bool x.hold], AV.bool true]), { boxes := [AV.str x.name, AV.str x.owner, AV.int IntKind.i64 x.prio, AV.sl SK.sh (List.map encA x.need), AV.sl SK.sh (List.map encP x.labels), AV.sl SK.sh (List.map encM x.sel), AV.sl SK.sh (List.map encL x.tols), AV.str x.key, AV.int IntKind.i64 x.most, AV.str x.node, AV.bool x.hold] :: (bs ++ [[AV.str x.name, AV.str x.owner, AV.int IntKind.i64 x.prio, AV.sl SK.sh (List.map encA x.need), AV.sl SK.sh (List.map encP x.labels), AV.sl SK.sh (List.map encM x.sel), AV.sl SK.sh (List.map encL x.tols), AV.str x.key, AV.int IntKind.i64 x.most, AV.str x.node, AV.bool x.hold]]), toks := [], loops := [] : Heap })) rfl) (by kernel_rfl)
    · have e : findG Pod.name (x :: post) s = findG Pod.name post s := by simp [findG, List.find?_cons, hx]
      rw [e]
      exact goG 60 _  hT  (.yes (show (decide ((↑i : Int) < (↑l.length : Int))) = true from decide_eq_true (show (↑i : Int) < (↑l.length : Int) from (by omega))) <| .idx (show idxA (11 : Nat) (AV.sl SK.sh (List.map encPd l)) (AV.int IntKind.i64 (↑i : Int)) = some (AV.ref (encPd x).cells) from idx_row hd (by rfl)) <| .load (show loadA true (11 : Nat) { boxes := [AV.str [], AV.str [], AV.int IntKind.i64 (0 : Int), AV.sl SK.full [], AV.sl SK.full [], AV.sl SK.full [], AV.sl SK.full [], AV.str [], AV.int IntKind.i64 (0 : Int), AV.str [], AV.bool false] :: bs, toks := [], loops := [] : Heap } (AV.ref [AV.str x.name, AV.str x.owner, AV.int IntKind.i64 x.prio, AV.sl SK.sh (List.map encA x.need), AV.sl SK.sh (List.map encP x.labels), AV.sl SK.sh (List.map encM x.sel), AV.sl SK.sh (List.map encL x.tols), AV.str x.key, AV.int IntKind.i64 x.most, AV.str x.node, AV.bool x.hold]) = some (AV.agg [AV.str x.name, AV.str x.owner, AV.int IntKind.i64 x.prio, AV.sl SK.sh (List.map encA x.need), AV.sl SK.sh (List.map encP x.labels), AV.sl SK.sh (List.map encM x.sel), AV.sl SK.sh (List.map encL x.tols), AV.str x.key, AV.int IntKind.i64 x.most, AV.str x.node, AV.bool x.hold]) from rfl) <| .store (show storeA (11 : Nat) { boxes := [AV.str [], AV.str [], AV.int IntKind.i64 (0 : Int), AV.sl SK.full [], AV.sl SK.full [], AV.sl SK.full [], AV.sl SK.full [], AV.str [], AV.int IntKind.i64 (0 : Int), AV.str [], AV.bool false] :: (bs ++ [[AV.str [], AV.str [], AV.int IntKind.i64 (0 : Int), AV.sl SK.full [], AV.sl SK.full [], AV.sl SK.full [], AV.sl SK.full [], AV.str [], AV.int IntKind.i64 (0 : Int), AV.str [], AV.bool false]]), toks := [], loops := [] : Heap } (AV.ptr ([AV.str [], AV.str [], AV.int IntKind.i64 (0 : Int), AV.sl SK.full [], AV.sl SK.full [], AV.sl SK.full [], AV.sl SK.full [], AV.str [], AV.int IntKind.i64 (0 : Int), AV.str [], AV.bool false] :: bs).length (0 : Nat)) (AV.agg [AV.str x.name, AV.str x.owner, AV.int IntKind.i64 x.prio, AV.sl SK.sh (List.map encA x.need), AV.sl SK.sh (List.map encP x.labels), AV.sl SK.sh (List.map encM x.sel), AV.sl SK.sh (List.map encL x.tols), AV.str x.key, AV.int IntKind.i64 x.most, AV.str x.node, AV.bool x.hold]) = some ({ boxes := [AV.str [], AV.str [], AV.int IntKind.i64 (0 : Int), AV.sl SK.full [], AV.sl SK.full [], AV.sl SK.full [], AV.sl SK.full [], AV.str [], AV.int IntKind.i64 (0 : Int), AV.str [], AV.bool false] :: (bs ++ [[AV.str x.name, AV.str x.owner, AV.int IntKind.i64 x.prio, AV.sl SK.sh (List.map encA x.need), AV.sl SK.sh (List.map encP x.labels), AV.sl SK.sh (List.map encM x.sel), AV.sl SK.sh (List.map encL x.tols), AV.str x.key, AV.int IntKind.i64 x.most, AV.str x.node, AV.bool x.hold]]), toks := [], loops := [] : Heap }) from store_box2 (cs := [AV.str [], AV.str [], AV.int IntKind.i64 (0 : Int), AV.sl SK.full [], AV.sl SK.full [], AV.sl SK.full [], AV.sl SK.full [], AV.str [], AV.int IntKind.i64 (0 : Int), AV.str [], AV.bool false]) (cs' := [AV.str x.name, AV.str x.owner, AV.int IntKind.i64 x.prio, AV.sl SK.sh (List.map encA x.need), AV.sl SK.sh (List.map encP x.labels), AV.sl SK.sh (List.map encM x.sel), AV.sl SK.sh (List.map encL x.tols), AV.str x.key, AV.int IntKind.i64 x.most, AV.str x.node, AV.bool x.hold]) (by simp) rfl (by simp [List.set_append])) <| .load (show loadA false (1 : Nat) { boxes := [AV.str [], AV.str [], AV.int IntKind.i64 (0 : Int), AV.sl SK.full [], AV.sl SK.full [], AV.sl SK.full [], AV.sl SK.full [], AV.str [], AV.int IntKind.i64 (0 : Int), AV.str [], AV.bool false] :: (bs ++ [[AV.str x.name, AV.str x.owner, AV.int IntKind.i64 x.prio, AV.sl SK.sh (List.map encA x.need), AV.sl SK.sh (List.map encP x.labels), AV.sl SK.sh (List.map encM x.sel), AV.sl SK.sh (List.map encL x.tols), AV.str x.key, AV.int IntKind.i64 x.most, AV.str x.node, AV.bool x.hold]]), toks := [], loops := [] : Heap } (AV.ptr ([AV.str [], AV.str [], AV.int IntKind.i64 (0 : Int), AV.sl SK.full [], AV.sl SK.full [], AV.sl SK.full [], AV.sl SK.full [], AV.str [], AV.int IntKind.i64 (0 : Int), AV.str [], AV.bool false] :: bs).length (0 : Nat)) = some (AV.str x.name) from load_box (cs := [AV.str x.name, AV.str x.owner, AV.int IntKind.i64 x.prio, AV.sl SK.sh (List.map encA x.need), AV.sl SK.sh (List.map encP x.labels), AV.sl SK.sh (List.map encM x.sel), AV.sl SK.sh (List.map encL x.tols), AV.str x.key, AV.int IntKind.i64 x.most, AV.str x.node, AV.bool x.hold]) (by simp) rfl) <| .no (show (x.name == s) = false from Bool.eq_false_iff.2 (show ¬ ((x.name == s) = true) from (by simpa using hx))) <| .bin (show binA BinOp.add (AV.int IntKind.i64 (↑i : Int)) (AV.int IntKind.i64 (1 : Int)) = some (AV.int IntKind.i64 (↑(i + (1 : Nat)) : Int)) from inc_i (by omega)) <| .cutQ k48_0 [(4, AV.ptr (0 : Nat) (0 : Nat)), (1, AV.str s), (8, AV.sl SK.sh (List.map encPd l)), (9, AV.int IntKind.i64 (↑l.length : Int)), (10, AV.int IntKind.i64 (↑(i + (1 : Nat)) : Int))] ({ boxes := [AV.str [], AV.str [], AV.int IntKind.i64 (0 : Int), AV.sl SK.full [], AV.sl SK.full [], AV.sl SK.full [], AV.sl SK.full [], AV.str [], AV.int IntKind.i64 (0 : Int), AV.str [], AV.bool false] :: (bs ++ [[AV.str x.name, AV.str x.owner, AV.int IntKind.i64 x.prio, AV.sl SK.sh (List.map encA x.need), AV.sl SK.sh (List.map encP x.labels), AV.sl SK.sh (List.map encM x.sel), AV.sl SK.sh (List.map encL x.tols), AV.str x.key, AV.int IntKind.i64 x.most, AV.str x.node, AV.bool x.hold]]), toks := [], loops := [] : Heap }) (fun T hT => (ih (i + (1 : Nat)) (bs ++ [[AV.str x.name, AV.str x.owner, AV.int IntKind.i64 x.prio, AV.sl SK.sh (List.map encA x.need), AV.sl SK.sh (List.map encP x.labels), AV.sl SK.sh (List.map encM x.sel), AV.sl SK.sh (List.map encL x.tols), AV.str x.key, AV.int IntKind.i64 x.most, AV.str x.node, AV.bool x.hold]]) hnx T hT))) (by kernel_rfl)
theorem findPd_any (l : List Pod) (s : List UInt8) (hn : l.length < 9223372036854775807) : Gives cfg 48 [.sl .sh (l.map encPd), .str s] (findPdV (findG Pod.name l s)) := by
  refine Gives.run (l48 _ _) ?_
  have h := findPd_any_loop l s hn l 0 [] rfl
  exact goG 60 []  trivial  (.len (show lenA false (AV.sl SK.sh (List.map encPd l)) = some (AV.int IntKind.i64 (↑l.length : Int)) from len_map _) <| .cutQ k48_0 [(4, AV.ptr (0 : Nat) (0 : Nat)), (1, AV.str s), (8, AV.sl SK.sh (List.map encPd l)), (9, AV.int IntKind.i64 (↑l.length : Int)), (10, AV.int IntKind.i64 (0 : Int))] ({ boxes := [[AV.str [], AV.str [], AV.int IntKind.i64 (0 : Int), AV.sl SK.full [], AV.sl SK.full [], AV.sl SK.full [], AV.sl SK.full [], AV.str [], AV.int IntKind.i64 (0 : Int), AV.str [], AV.bool false]], toks := [], loops := [] : Heap }) (fun T hT => (h T hT))) (by kernel_rfl)
end Go.Aa.T

set_option linter.unusedVariables false
set_option linter.unusedSimpArgs false
set_option maxRecDepth 100000
namespace Go.Aa.T
open Go.Aa Go.Proofs
def pk (prio : Int) (key : List UInt8) (most : Int) (hold : Bool) : AV := .agg [.str [112], .str [], .int .i64 prio, .sl .sh [], .sl .sh [], .sl .sh [], .sl .sh [], .str key, .int .i64 most, .str [], .bool hold]
end Go.Aa.T

set_option linter.unusedVariables false
set_option linter.unusedSimpArgs false
set_option maxRecDepth 100000
namespace Go.Aa.T
open Go.Aa Go.Proofs
end Go.Aa.T

set_option linter.unusedVariables false
set_option linter.unusedSimpArgs false
set_option maxRecDepth 100000
namespace Go.Aa.T
open Go.Aa Go.Proofs

def smallI (l : List Amount) : Prop := ∀ x ∈ l, -9223372036854775808 ≤ x.n ∧ x.n ≤ 9223372036854775807

structure SmallPd (p : Pod) : Prop where
  need : smallI p.need
  prio : -9223372036854775808 ≤ p.prio ∧ p.prio ≤ 9223372036854775807
  most : -9223372036854775808 ≤ p.most ∧ p.most ≤ 9223372036854775807
end Go.Aa.T

set_option linter.unusedVariables false
set_option linter.unusedSimpArgs false
set_option maxRecDepth 100000
namespace Go.Aa.T
open Go.Aa Go.Proofs
structure Bud where
  name : List UInt8
  sel : List Term
  floor : Int
def encB (b : Bud) : AV := .agg [.str b.name, .sl .sh (b.sel.map encM), .int .i64 b.floor]
instance (n : Bud) : Dat (encB n) := ⟨rfl, rfl⟩
def fewB1 (b : Bud) : Bool := decide (b.name.length ≤ 50) && fewM b.sel
def fewBs (l : List Bud) : Bool := decide (l.length ≤ 20) && l.all fewB1
theorem fewBs_len {l : List Bud} (h : fewBs l = true) : l.length ≤ 20 := by
  simp only [fewBs, Bool.and_eq_true, decide_eq_true_eq] at h; exact h.1
theorem fewBs_all {l : List Bud} (h : fewBs l = true) : ∀ x ∈ l, fewB1 x = true := by
  simp only [fewBs, Bool.and_eq_true, decide_eq_true_eq, List.all_eq_true] at h; exact h.2
theorem fewB1_sel {b : Bud} (h : fewB1 b = true) : b.sel.length ≤ 20 := by
  simp only [fewB1, Bool.and_eq_true, decide_eq_true_eq] at h; exact fewM_len h.2
theorem fewBs_loop (l : List Bud) (hn : l.length ≤ 20) : ∀ (post : List Bud) (i : Nat) (hd : l.drop i = post) (T : Env) (hT : Has T [(0, .sl .sh (l.map encB)), (3, .int .i64 i)]),
    Goes cfg a14 k14_0 T Heap.nil (IsRet (.bool (post.all fewB1))) := by
  intro post
  induction post with
  | nil =>
    intro i hd T hT
    have hge := drop_ge hd
    exact goG 60 _  hT  (.len (show lenA false (AV.sl SK.sh (List.map encB l)) = some (AV.int IntKind.i64 (↑l.length : Int)) from len_map _) <| .no (show (decide ((↑i : Int) < (↑l.length : Int))) = false from decide_eq_false (show ¬ ((↑i : Int) < (↑l.length : Int)) from (by omega))) <| .fin ((ARes.ret (AV.bool true), { boxes := [], toks := [], loops := [] : Heap })) rfl) (by kernel_rfl)
  | cons x post ih =>
    intro i hd T hT
    have hlt := drop_lt hd
    have hnx := drop_next hd
    exact goG 60 _  hT  (.len (show lenA false (AV.sl SK.sh (List.map encB l)) = some (AV.int IntKind.i64 (↑l.length : Int)) from len_map _) <| .yes (show (decide ((↑i : Int) < (↑l.length : Int))) = true from decide_eq_true (show (↑i : Int) < (↑l.length : Int) from (by omega))) <| .idx (show idxA (3 : Nat) (AV.sl SK.sh (List.map encB l)) (AV.int IntKind.i64 (↑i : Int)) = some (AV.ref (encB x).cells) from idx_row hd (by rfl)) <| .len (show lenA true (AV.str x.name) = some (AV.int IntKind.i64 (↑x.name.length : Int)) from len_str _) <| .split ((50 : Int) < (↑x.name.length : Int)) (fun h1 => .yes (show (decide ((50 : Int) < (↑x.name.length : Int))) = true from decide_eq_true (show (50 : Int) < (↑x.name.length : Int) from h1)) <| .tt <| .fin ((ARes.ret (AV.bool false), { boxes := [], toks := [], loops := [] : Heap })) (by simp only [IsRet]; grind [fewB1])) (fun h1 => .no (show (decide ((50 : Int) < (↑x.name.length : Int))) = false from decide_eq_false (show ¬ ((50 : Int) < (↑x.name.length : Int)) from h1)) <| .idx (show idxA (3 : Nat) (AV.sl SK.sh (List.map encB l)) (AV.int IntKind.i64 (↑i : Int)) = some (AV.ref (encB x).cells) from idx_row hd (by rfl)) <| .callG ([AV.sl SK.sh (List.map encM x.sel)]) (AV.bool (fewM x.sel)) (show Gives cfg (58 : FuncId) [AV.sl SK.sh (List.map encM x.sel)] (AV.bool (fewM x.sel)) from fewM_any _) ⟨rfl, rfl⟩ ⟨rfl, rfl⟩ <| .split (fewM x.sel = true) (fun h2 => .no (show (!fewM x.sel) = false from by have hh : fewM x.sel = true := h2; simp [hh]) <| .bin (show binA BinOp.add (AV.int IntKind.i64 (↑i : Int)) (AV.int IntKind.i64 (1 : Int)) = some (AV.int IntKind.i64 (↑(i + (1 : Nat)) : Int)) from inc_i (by omega)) <| .cutQ k14_0 [(0, AV.sl SK.sh (List.map encB l)), (3, AV.int IntKind.i64 (↑(i + (1 : Nat)) : Int))] ({ boxes := [], toks := [], loops := [] : Heap }) (fun T hT => (ih (i + (1 : Nat)) hnx T hT).to (by grind [fewB1]))) (fun h2 => .yes (show (!fewM x.sel) = true from by have hh : ¬ (fewM x.sel = true) := h2; simp [hh]) <| .fin ((ARes.ret (AV.bool false), { boxes := [], toks := [], loops := [] : Heap })) (by simp only [IsRet]; grind [fewB1])))) (by kernel_rfl)
theorem fewBs_any (l : List Bud) : Gives cfg 14 [.sl .sh (l.map encB)] (.bool (fewBs l)) := by
  refine Gives.run (l14 _ _) ?_
  have h := fun hn => fewBs_loop l hn l 0 rfl
  exact goG 60 []  trivial  (.len (show lenA false (AV.sl SK.sh (List.map encB l)) = some (AV.int IntKind.i64 (↑l.length : Int)) from len_map _) <| .split ((20 : Int) < (↑l.length : Int)) (fun h1 => .yes (show (decide ((20 : Int) < (↑l.length : Int))) = true from decide_eq_true (show (20 : Int) < (↑l.length : Int) from h1)) <| .fin ((ARes.ret (AV.bool false), { boxes := [], toks := [], loops := [] : Heap })) (by simp only [IsRet]; grind [fewBs])) (fun h1 => .no (show (decide ((20 : Int) < (↑l.length : Int))) = false from decide_eq_false (show ¬ ((20 : Int) < (↑l.length : Int)) from h1)) <| .cutQ k14_0 [(0, AV.sl SK.sh (List.map encB l)), (3, AV.int IntKind.i64 (0 : Int))] ({ boxes := [], toks := [], loops := [] : Heap }) (fun T hT => (h (by omega) T hT).to (by grind [fewBs])))) (by kernel_rfl)
theorem ofB1 (b : Bud) (m1 : b.sel.length ≤ 20) : Gives cfg 62 [encB b] (encB b) := by
  refine Gives.run (l62 _ _) ?_
  exact goG 80 []  trivial  (.callG ([AV.sl SK.sh (List.map encM b.sel)]) (AV.sl SK.sh (List.map encM b.sel)) (show Gives cfg (120 : FuncId) [AV.sl SK.sh (List.map encM b.sel)] (rowS Heap.nil (List.map encM b.sel)) from ofM_any _ m1) ⟨rfl, rfl⟩ Res.p <| .fin ((ARes.ret (AV.agg [AV.str b.name, AV.sl SK.sh (List.map encM b.sel), AV.int IntKind.i64 b.floor]), { boxes := [[AV.str b.name, AV.sl SK.sh (List.map encM b.sel), AV.int IntKind.i64 b.floor], [AV.str b.name, AV.sl SK.sh (List.map encM b.sel), AV.int IntKind.i64 b.floor]], toks := [], loops := [] : Heap })) rfl) (by kernel_rfl)
theorem ofB_any (b : Bud) (h : fewB1 b = true) : Gives cfg 62 [encB b] (encB b) := ofB1 b (fewB1_sel h)
theorem ofBs_loop (l : List Bud) (hn : l.length ≤ 20) (hf : ∀ x ∈ l, fewB1 x = true) : ∀ (post : List Bud) (i : Nat) (acc : List AV) (hd : l.drop i = post) (ha : acc.length = i) (hl : lenOk 3 acc = true) (T : Env) (hT : Has T [(0, .sl .sh (l.map encB)), (3, rowS Heap.nil acc), (4, .int .i64 i)]),
    Goes cfg a16 k16_0 T (rowH Heap.nil acc) (IsRet (rowS Heap.nil (acc ++ post.map encB))) := by
  intro post
  induction post with
  | nil =>
    intro i acc hd ha hl T hT
    have hge := drop_ge hd
    exact goG 60 _  hT  (.len (show lenA false (AV.sl SK.sh (List.map encB l)) = some (AV.int IntKind.i64 (↑l.length : Int)) from len_map _) <| .no (show (decide ((↑i : Int) < (↑l.length : Int))) = false from decide_eq_false (show ¬ ((↑i : Int) < (↑l.length : Int)) from (by omega))) <| .fin ((ARes.ret (setD (setD (setD (setD (setD (setD (updL T [((0 : Nat), AV.sl SK.sh (List.map encB l)), ((3 : Nat), rowS Heap.nil acc), ((4 : Nat), AV.int IntKind.i64 (↑i : Int))]) { dst := some (5 : Nat), op := AOp.mov (Opd.t (4 : Nat)), guard := none, deps := [] : AOper }.dst (ev (updL T [((0 : Nat), AV.sl SK.sh (List.map encB l)), ((3 : Nat), rowS Heap.nil acc), ((4 : Nat), AV.int IntKind.i64 (↑i : Int))]) (Opd.t (4 : Nat)))) { dst := some (6 : Nat), op := AOp.mov (Opd.t (0 : Nat)), guard := none, deps := [] : AOper }.dst (ev (setD (updL T [((0 : Nat), AV.sl SK.sh (List.map encB l)), ((3 : Nat), rowS Heap.nil acc), ((4 : Nat), AV.int IntKind.i64 (↑i : Int))]) { dst := some (5 : Nat), op := AOp.mov (Opd.t (4 : Nat)), guard := none, deps := [] : AOper }.dst (ev (updL T [((0 : Nat), AV.sl SK.sh (List.map encB l)), ((3 : Nat), rowS Heap.nil acc), ((4 : Nat), AV.int IntKind.i64 (↑i : Int))]) (Opd.t (4 : Nat)))) (Opd.t (0 : Nat)))) { dst := some (7 : Nat), op := AOp.len false (Opd.t (6 : Nat)), guard := none, deps := [] : AOper }.dst (AV.int IntKind.i64 (↑l.length : Int))) { dst := some (8 : Nat), op := AOp.bin BinOp.lss (Opd.t (5 : Nat)) (Opd.t (7 : Nat)), guard := none, deps := [] : AOper }.dst (AV.bool (decide ((↑i : Int) < (↑l.length : Int))))) { dst := some (19 : Nat), op := AOp.mov (Opd.t (3 : Nat)), guard := none, deps := [] : AOper }.dst (ev (setD (setD (setD (setD (updL T [((0 : Nat), AV.sl SK.sh (List.map encB l)), ((3 : Nat), rowS Heap.nil acc), ((4 : Nat), AV.int IntKind.i64 (↑i : Int))]) { dst := some (5 : Nat), op := AOp.mov (Opd.t (4 : Nat)), guard := none, deps := [] : AOper }.dst (ev (updL T [((0 : Nat), AV.sl SK.sh (List.map encB l)), ((3 : Nat), rowS Heap.nil acc), ((4 : Nat), AV.int IntKind.i64 (↑i : Int))]) (Opd.t (4 : Nat)))) { dst := some (6 : Nat), op := AOp.mov (Opd.t (0 : Nat)), guard := none, deps := [] : AOper }.dst (ev (setD (updL T [((0 : Nat), AV.sl SK.sh (List.map encB l)), ((3 : Nat), rowS Heap.nil acc), ((4 : Nat), AV.int IntKind.i64 (↑i : Int))]) { dst := some (5 : Nat), op := AOp.mov (Opd.t (4 : Nat)), guard := none, deps := [] : AOper }.dst (ev (updL T [((0 : Nat), AV.sl SK.sh (List.map encB l)), ((3 : Nat), rowS Heap.nil acc), ((4 : Nat), AV.int IntKind.i64 (↑i : Int))]) (Opd.t (4 : Nat)))) (Opd.t (0 : Nat)))) { dst := some (7 : Nat), op := AOp.len false (Opd.t (6 : Nat)), guard := none, deps := [] : AOper }.dst (AV.int IntKind.i64 (↑l.length : Int))) { dst := some (8 : Nat), op := AOp.bin BinOp.lss (Opd.t (5 : Nat)) (Opd.t (7 : Nat)), guard := none, deps := [] : AOper }.dst (AV.bool (decide ((↑i : Int) < (↑l.length : Int))))) (Opd.t (3 : Nat)))) { dst := some (2 : Nat), op := AOp.mov (Opd.t (19 : Nat)), guard := none, deps := [] : AOper }.dst (ev (setD (setD (setD (setD (setD (updL T [((0 : Nat), AV.sl SK.sh (List.map encB l)), ((3 : Nat), rowS Heap.nil acc), ((4 : Nat), AV.int IntKind.i64 (↑i : Int))]) { dst := some (5 : Nat), op := AOp.mov (Opd.t (4 : Nat)), guard := none, deps := [] : AOper }.dst (ev (updL T [((0 : Nat), AV.sl SK.sh (List.map encB l)), ((3 : Nat), rowS Heap.nil acc), ((4 : Nat), AV.int IntKind.i64 (↑i : Int))]) (Opd.t (4 : Nat)))) { dst := some (6 : Nat), op := AOp.mov (Opd.t (0 : Nat)), guard := none, deps := [] : AOper }.dst (ev (setD (updL T [((0 : Nat), AV.sl SK.sh (List.map encB l)), ((3 : Nat), rowS Heap.nil acc), ((4 : Nat), AV.int IntKind.i64 (↑i : Int))]) { dst := some (5 : Nat), op := AOp.mov (Opd.t (4 : Nat)), guard := none, deps := [] : AOper }.dst (ev (updL T [((0 : Nat), AV.sl SK.sh (List.map encB l)), ((3 : Nat), rowS Heap.nil acc), ((4 : Nat), AV.int IntKind.i64 (↑i : Int))]) (Opd.t (4 : Nat)))) (Opd.t (0 : Nat)))) { dst := some (7 : Nat), op := AOp.len false (Opd.t (6 : Nat)), guard := none, deps := [] : AOper }.dst (AV.int IntKind.i64 (↑l.length : Int))) { dst := some (8 : Nat), op := AOp.bin BinOp.lss (Opd.t (5 : Nat)) (Opd.t (7 : Nat)), guard := none, deps := [] : AOper }.dst (AV.bool (decide ((↑i : Int) < (↑l.length : Int))))) { dst := some (19 : Nat), op := AOp.mov (Opd.t (3 : Nat)), guard := none, deps := [] : AOper }.dst (ev (setD (setD (setD (setD (updL T [((0 : Nat), AV.sl SK.sh (List.map encB l)), ((3 : Nat), rowS Heap.nil acc), ((4 : Nat), AV.int IntKind.i64 (↑i : Int))]) { dst := some (5 : Nat), op := AOp.mov (Opd.t (4 : Nat)), guard := none, deps := [] : AOper }.dst (ev (updL T [((0 : Nat), AV.sl SK.sh (List.map encB l)), ((3 : Nat), rowS Heap.nil acc), ((4 : Nat), AV.int IntKind.i64 (↑i : Int))]) (Opd.t (4 : Nat)))) { dst := some (6 : Nat), op := AOp.mov (Opd.t (0 : Nat)), guard := none, deps := [] : AOper }.dst (ev (setD (updL T [((0 : Nat), AV.sl SK.sh (List.map encB l)), ((3 : Nat), rowS Heap.nil acc), ((4 : Nat), AV.int IntKind.i64 (↑i : Int))]) { dst := some (5 : Nat), op := AOp.mov (Opd.t (4 : Nat)), guard := none, deps := [] : AOper }.dst (ev (updL T [((0 : Nat), AV.sl SK.sh (List.map encB l)), ((3 : Nat), rowS Heap.nil acc), ((4 : Nat), AV.int IntKind.i64 (↑i : Int))]) (Opd.t (4 : Nat)))) (Opd.t (0 : Nat)))) { dst := some (7 : Nat), op := AOp.len false (Opd.t (6 : Nat)), guard := none, deps := [] : AOper }.dst (AV.int IntKind.i64 (↑l.length : Int))) { dst := some (8 : Nat), op := AOp.bin BinOp.lss (Opd.t (5 : Nat)) (Opd.t (7 : Nat)), guard := none, deps := [] : AOper }.dst (AV.bool (decide ((↑i : Int) < (↑l.length : Int))))) (Opd.t (3 : Nat)))) (Opd.t (19 : Nat))) (2 : Nat)), rowH Heap.nil acc)) (by simp only [IsRet, List.map_nil, List.append_nil]; rfl)) (by kernel_rfl)
  | cons x post ih =>
    intro i acc hd ha hl T hT
    have hlt := drop_lt hd
    have hnx := drop_next hd
    have hx := hf x (drop_mem hd)
    exact goG 60 _  hT  (.len (show lenA false (AV.sl SK.sh (List.map encB l)) = some (AV.int IntKind.i64 (↑l.length : Int)) from len_map _) <| .yes (show (decide ((↑i : Int) < (↑l.length : Int))) = true from decide_eq_true (show (↑i : Int) < (↑l.length : Int) from (by simp; omega))) <| .idx (show idxA (3 : Nat) (AV.sl SK.sh (List.map encB l)) (AV.int IntKind.i64 (↑i : Int)) = some (AV.ref (encB x).cells) from idx_row hd (by rfl)) <| .load (show loadA true (3 : Nat) (rowH Heap.nil acc) (AV.ref [AV.str x.name, AV.sl SK.sh (List.map encM x.sel), AV.int IntKind.i64 x.floor]) = some (AV.agg [AV.str x.name, AV.sl SK.sh (List.map encM x.sel), AV.int IntKind.i64 x.floor]) from rfl) <| .callG ([AV.agg [AV.str x.name, AV.sl SK.sh (List.map encM x.sel), AV.int IntKind.i64 x.floor]]) (AV.agg [AV.str x.name, AV.sl SK.sh (List.map encM x.sel), AV.int IntKind.i64 x.floor]) (show Gives cfg (62 : FuncId) [encB x] (encB x) from ofB_any _ hx) ⟨rfl, rfl⟩ ⟨rfl, rfl⟩ <| .append (show appendA (3 : Nat) (48 : Nat) (rowH Heap.nil acc) (rowS Heap.nil acc) (AV.sl SK.full [AV.agg [AV.str x.name, AV.sl SK.sh (List.map encM x.sel), AV.int IntKind.i64 x.floor]]) = some ((rowS Heap.nil (acc ++ [AV.agg [AV.str x.name, AV.sl SK.sh (List.map encM x.sel), AV.int IntKind.i64 x.floor]]), rowH Heap.nil (acc ++ [AV.agg [AV.str x.name, AV.sl SK.sh (List.map encM x.sel), AV.int IntKind.i64 x.floor]]))) from row_append (by omega) hl (by rfl) (by rfl)) <| .bin (show binA BinOp.add (AV.int IntKind.i64 (↑i : Int)) (AV.int IntKind.i64 (1 : Int)) = some (AV.int IntKind.i64 (↑(i + (1 : Nat)) : Int)) from inc_i (by omega)) <| .cutQ k16_0 [(0, AV.sl SK.sh (List.map encB l)), (3, rowS Heap.nil (acc ++ [AV.agg [AV.str x.name, AV.sl SK.sh (List.map encM x.sel), AV.int IntKind.i64 x.floor]])), (4, AV.int IntKind.i64 (↑(i + (1 : Nat)) : Int))] (rowH Heap.nil (acc ++ [AV.agg [AV.str x.name, AV.sl SK.sh (List.map encM x.sel), AV.int IntKind.i64 x.floor]])) (fun T hT => (ih (i + (1 : Nat)) (acc ++ [AV.agg [AV.str x.name, AV.sl SK.sh (List.map encM x.sel), AV.int IntKind.i64 x.floor]]) hnx (by simp; omega) (by exact lenOk_snoc (by assumption) rfl) T hT).to (by simp [encB]))) (by kernel_rfl)
theorem ofBs_any (l : List Bud) (hn : l.length ≤ 20) (hf : ∀ x ∈ l, fewB1 x = true) : Gives cfg 16 [.sl .sh (l.map encB)] (rowS Heap.nil (l.map encB)) := by
  refine Gives.run (l16 _ _) ?_
  have h := ofBs_loop l hn hf l 0 [] rfl rfl rfl
  exact goG 60 []  trivial  (.cutQ k16_0 [(0, AV.sl SK.sh (List.map encB l)), (3, AV.sl SK.full []), (4, AV.int IntKind.i64 (0 : Int))] ({ boxes := [], toks := [], loops := [] : Heap }) (fun T hT => (h T hT))) (by kernel_rfl)
def floorE (n : Int) : Int := if n < 0 then 1 else if 128 < n then 1 else 0
def ckB (b : Bud) : Int := firstE [if isName b.name then 0 else 3, ckM b.sel, floorE b.floor]
theorem ckB_ref (b : Bud) : Gives cfg 63 [encB b] (.int .i64 (ckB b)) := by
  refine Gives.run (l63 _ _) ?_
  have e : ckB b = firstE [if isName b.name then 0 else 3, ckM b.sel, floorE b.floor] := rfl
  rw [e]
  have a1 := ckM_ref b.sel
  generalize ckM b.sel = c at a1 ⊢
  exact goG 90 []  trivial  (.callG ([AV.str b.name]) (AV.bool (isName b.name)) (show Gives cfg (76 : FuncId) [AV.str b.name] (AV.bool (isName b.name)) from name_any _) ⟨rfl, rfl⟩ ⟨rfl, rfl⟩ <| .split (isName b.name = true) (fun h1 => .no (show (!isName b.name) = false from by have hh : isName b.name = true := h1; simp [hh]) <| .callG ([AV.sl SK.sh (List.map encM b.sel)]) (AV.int IntKind.i64 c) (show Gives cfg (127 : FuncId) [AV.sl SK.sh (List.map encM b.sel)] (AV.int IntKind.i64 c) from a1) ⟨rfl, rfl⟩ ⟨rfl, rfl⟩ <| .split ((c != (0 : Int)) = true) (fun h2 => .yes (show (c != (0 : Int)) = true from h2) <| .fin ((ARes.ret (AV.int IntKind.i64 c), { boxes := [[AV.str b.name, AV.sl SK.sh (List.map encM b.sel), AV.int IntKind.i64 b.floor]], toks := [], loops := [] : Heap })) (by simp only [IsRet]; grind [firstE, floorE])) (fun h2 => .no (show (c != (0 : Int)) = false from Bool.eq_false_iff.2 (show ¬ ((c != (0 : Int)) = true) from h2)) <| .split (b.floor < (0 : Int)) (fun h3 => .yes (show (decide (b.floor < (0 : Int))) = true from decide_eq_true (show b.floor < (0 : Int) from h3)) <| .tt <| .fin ((ARes.ret (AV.int IntKind.i64 (1 : Int)), { boxes := [[AV.str b.name, AV.sl SK.sh (List.map encM b.sel), AV.int IntKind.i64 b.floor]], toks := [], loops := [] : Heap })) (by simp only [IsRet]; grind [firstE, floorE])) (fun h3 => .no (show (decide (b.floor < (0 : Int))) = false from decide_eq_false (show ¬ (b.floor < (0 : Int)) from h3)) <| .split ((128 : Int) < b.floor) (fun h4 => .yes (show (decide ((128 : Int) < b.floor)) = true from decide_eq_true (show (128 : Int) < b.floor from h4)) <| .fin ((ARes.ret (AV.int IntKind.i64 (1 : Int)), { boxes := [[AV.str b.name, AV.sl SK.sh (List.map encM b.sel), AV.int IntKind.i64 b.floor]], toks := [], loops := [] : Heap })) (by simp only [IsRet]; grind [firstE, floorE])) (fun h4 => .no (show (decide ((128 : Int) < b.floor)) = false from decide_eq_false (show ¬ ((128 : Int) < b.floor) from h4)) <| .fin ((ARes.ret (AV.int IntKind.i64 (0 : Int)), { boxes := [[AV.str b.name, AV.sl SK.sh (List.map encM b.sel), AV.int IntKind.i64 b.floor]], toks := [], loops := [] : Heap })) (by simp only [IsRet]; grind [firstE, floorE]))))) (fun h1 => .yes (show (!isName b.name) = true from by have hh : ¬ (isName b.name = true) := h1; simp [hh]) <| .fin ((ARes.ret (AV.int IntKind.i64 (3 : Int)), { boxes := [[AV.str b.name, AV.sl SK.sh (List.map encM b.sel), AV.int IntKind.i64 b.floor]], toks := [], loops := [] : Heap })) (by simp only [IsRet]; grind [firstE, floorE]))) (by kernel_rfl)
theorem ckBs_ref_loop (l : List Bud) (hn : l.length ≤ 8) : ∀ (post : List Bud) (i : Nat) (hd : l.drop i = post) (T : Env) (hT : Has T [(0, .sl .sh (l.map encB)), (3, .int .i64 i)]),
    Goes cfg a18 k18_0 T Heap.nil (IsRet (.int .i64 (ckAl ckB Bud.name l i post))) := by
  intro post
  induction post with
  | nil =>
    intro i hd T hT
    have hge := drop_ge hd
    exact goG 60 _  hT  (.len (show lenA false (AV.sl SK.sh (List.map encB l)) = some (AV.int IntKind.i64 (↑l.length : Int)) from len_map _) <| .no (show (decide ((↑i : Int) < (↑l.length : Int))) = false from decide_eq_false (show ¬ ((↑i : Int) < (↑l.length : Int)) from (by omega))) <| .fin ((ARes.ret (AV.int IntKind.i64 (0 : Int)), { boxes := [], toks := [], loops := [] : Heap })) rfl) (by kernel_rfl)
  | cons x post ih =>
    intro i hd T hT
    have hlt := drop_lt hd
    have hnx := drop_next hd
    have hc := ckB_ref x
    have e : ckAl ckB Bud.name l i (x :: post) = if ckB x = 0 then (if ordG Bud.name l i x then 13 else ckAl ckB Bud.name l (i + 1) post) else ckB x := rfl
    rw [e]
    generalize ckB x = c at hc ⊢
    cases i with
    | zero => exact goG 60 _  hT  (.len (show lenA false (AV.sl SK.sh (List.map encB l)) = some (AV.int IntKind.i64 (↑l.length : Int)) from len_map _) <| .yes (show (decide ((↑(0 : Nat) : Int) < (↑l.length : Int))) = true from decide_eq_true (show (↑(0 : Nat) : Int) < (↑l.length : Int) from (by omega))) <| .idx (show idxA (3 : Nat) (AV.sl SK.sh (List.map encB l)) (AV.int IntKind.i64 (↑(0 : Nat) : Int)) = some (AV.ref (encB x).cells) from idx_row hd (by rfl)) <| .callG ([AV.agg [AV.str x.name, AV.sl SK.sh (List.map encM x.sel), AV.int IntKind.i64 x.floor]]) (AV.int IntKind.i64 c) (show Gives cfg (63 : FuncId) [encB x] (AV.int IntKind.i64 c) from hc) ⟨rfl, rfl⟩ ⟨rfl, rfl⟩ <| .split ((c != (0 : Int)) = true) (fun h1 => .yes (show (c != (0 : Int)) = true from h1) <| .fin ((ARes.ret (AV.int IntKind.i64 c), { boxes := [], toks := [], loops := [] : Heap })) (by simp only [IsRet]; grind [ordG])) (fun h1 => .no (show (c != (0 : Int)) = false from Bool.eq_false_iff.2 (show ¬ ((c != (0 : Int)) = true) from h1)) <| .ff <| .ff <| .bin (show binA BinOp.add (AV.int IntKind.i64 (↑(0 : Nat) : Int)) (AV.int IntKind.i64 (1 : Int)) = some (AV.int IntKind.i64 (↑((0 : Nat) + (1 : Nat)) : Int)) from inc_i (by omega)) <| .cutQ k18_0 [(0, AV.sl SK.sh (List.map encB l)), (3, AV.int IntKind.i64 (↑((0 : Nat) + (1 : Nat)) : Int))] ({ boxes := [], toks := [], loops := [] : Heap }) (fun T hT => (ih ((0 : Nat) + (1 : Nat)) hnx T hT).to (by grind [ordG])))) (by kernel_rfl)
    | succ j =>
      obtain ⟨p, hp⟩ : ∃ p, l[j]? = some p := ⟨l[j], List.getElem?_eq_getElem (by omega)⟩
      exact goG 60 _  hT  (.len (show lenA false (AV.sl SK.sh (List.map encB l)) = some (AV.int IntKind.i64 (↑l.length : Int)) from len_map _) <| .yes (show (decide ((↑(j + (1 : Nat)) : Int) < (↑l.length : Int))) = true from decide_eq_true (show (↑(j + (1 : Nat)) : Int) < (↑l.length : Int) from (by omega))) <| .idx (show idxA (3 : Nat) (AV.sl SK.sh (List.map encB l)) (AV.int IntKind.i64 (↑(j + (1 : Nat)) : Int)) = some (AV.ref (encB x).cells) from idx_row hd (by rfl)) <| .callG ([AV.agg [AV.str x.name, AV.sl SK.sh (List.map encM x.sel), AV.int IntKind.i64 x.floor]]) (AV.int IntKind.i64 c) (show Gives cfg (63 : FuncId) [encB x] (AV.int IntKind.i64 c) from hc) ⟨rfl, rfl⟩ ⟨rfl, rfl⟩ <| .split ((c != (0 : Int)) = true) (fun h1 => .yes (show (c != (0 : Int)) = true from h1) <| .fin ((ARes.ret (AV.int IntKind.i64 c), { boxes := [], toks := [], loops := [] : Heap })) (by simp only [IsRet]; grind [ordG])) (fun h1 => .no (show (c != (0 : Int)) = false from Bool.eq_false_iff.2 (show ¬ ((c != (0 : Int)) = true) from h1)) <| .yes (show (decide ((0 : Int) < (↑(j + (1 : Nat)) : Int))) = true from decide_eq_true (show (0 : Int) < (↑(j + (1 : Nat)) : Int) from (by omega))) <| .idx (show idxA (3 : Nat) (AV.sl SK.sh (List.map encB l)) (AV.int IntKind.i64 (↑(j + (1 : Nat)) : Int)) = some (AV.ref (encB x).cells) from idx_row hd (by rfl)) <| .bin (show binA BinOp.sub (AV.int IntKind.i64 (↑(j + (1 : Nat)) : Int)) (AV.int IntKind.i64 (1 : Int)) = some (AV.int IntKind.i64 (↑j : Int)) from dec_i (by omega)) <| .idx (show idxA (3 : Nat) (AV.sl SK.sh (List.map encB l)) (AV.int IntKind.i64 (↑j : Int)) = some (AV.ref (encB p).cells) from idx_get hp (by rfl)) <| .split ((Op.bytesLess x.name p.name || x.name == p.name) = true) (fun h2 => .yes (show (Op.bytesLess x.name p.name || x.name == p.name) = true from h2) <| .fin ((ARes.ret (AV.int IntKind.i64 (13 : Int)), { boxes := [], toks := [], loops := [] : Heap })) (by simp only [IsRet]; grind [ordG])) (fun h2 => .no (show (Op.bytesLess x.name p.name || x.name == p.name) = false from Bool.eq_false_iff.2 (show ¬ ((Op.bytesLess x.name p.name || x.name == p.name) = true) from h2)) <| .bin (show binA BinOp.add (AV.int IntKind.i64 (↑(j + (1 : Nat)) : Int)) (AV.int IntKind.i64 (1 : Int)) = some (AV.int IntKind.i64 (↑(j + (1 : Nat) + (1 : Nat)) : Int)) from inc_i (by omega)) <| .cutQ k18_0 [(0, AV.sl SK.sh (List.map encB l)), (3, AV.int IntKind.i64 (↑(j + (1 : Nat) + (1 : Nat)) : Int))] ({ boxes := [], toks := [], loops := [] : Heap }) (fun T hT => (ih (j + (1 : Nat) + (1 : Nat)) hnx T hT).to (by grind [ordG]))))) (by kernel_rfl)
theorem ckBs_ref (l : List Bud) : Gives cfg 18 [.sl .sh (l.map encB)] (.int .i64 (ckAll 8 ckB Bud.name l)) := by
  refine Gives.run (l18 _ _) ?_
  have h := fun hn => ckBs_ref_loop l hn l 0 rfl
  exact goG 60 []  trivial  (.len (show lenA false (AV.sl SK.sh (List.map encB l)) = some (AV.int IntKind.i64 (↑l.length : Int)) from len_map _) <| .split ((8 : Int) < (↑l.length : Int)) (fun h1 => .yes (show (decide ((8 : Int) < (↑l.length : Int))) = true from decide_eq_true (show (8 : Int) < (↑l.length : Int) from h1)) <| .fin ((ARes.ret (AV.int IntKind.i64 (4 : Int)), { boxes := [], toks := [], loops := [] : Heap })) (by simp only [IsRet]; grind [ckAll])) (fun h1 => .no (show (decide ((8 : Int) < (↑l.length : Int))) = false from decide_eq_false (show ¬ ((8 : Int) < (↑l.length : Int)) from h1)) <| .cutQ k18_0 [(0, AV.sl SK.sh (List.map encB l)), (3, AV.int IntKind.i64 (0 : Int))] ({ boxes := [], toks := [], loops := [] : Heap }) (fun T hT => (h (by omega) T hT).to (by grind [ckAll])))) (by kernel_rfl)

def cntB (b : Bud) (p : Pod) : Bool := !(p.node == []) && (!p.hold && matchB p.labels b.sel)
def countB (b : Bud) (l : List Pod) : Nat := l.countP (cntB b)
theorem cnt_any (b : Bud) (p : Pod) (m1 : p.labels.length < 9223372036854775807) (m2 : b.sel.length < 9223372036854775807) : Gives cfg 66 [encB b, encPd p] (.bool (cntB b p)) := by
  refine Gives.run (l66 _ _) ?_
  exact goG 90 []  trivial  (.split ((p.node == []) = true) (fun h1 => .no (show (!p.node == []) = false from by have hh : (p.node == []) = true := h1; simp [hh]) <| .ff <| .fin ((ARes.ret (AV.bool false), { boxes := [[AV.str b.name, AV.sl SK.sh (List.map encM b.sel), AV.int IntKind.i64 b.floor], [AV.str p.name, AV.str p.owner, AV.int IntKind.i64 p.prio, AV.sl SK.sh (List.map encA p.need), AV.sl SK.sh (List.map encP p.labels), AV.sl SK.sh (List.map encM p.sel), AV.sl SK.sh (List.map encL p.tols), AV.str p.key, AV.int IntKind.i64 p.most, AV.str p.node, AV.bool p.hold]], toks := [], loops := [] : Heap })) (by simp only [IsRet]; grind [cntB])) (fun h1 => .yes (show (!p.node == []) = true from by have hh : ¬ ((p.node == []) = true) := h1; simp [hh]) <| .split (p.hold = true) (fun h2 => .no (show (!p.hold) = false from by have hh : p.hold = true := h2; simp [hh]) <| .fin ((ARes.ret (AV.bool false), { boxes := [[AV.str b.name, AV.sl SK.sh (List.map encM b.sel), AV.int IntKind.i64 b.floor], [AV.str p.name, AV.str p.owner, AV.int IntKind.i64 p.prio, AV.sl SK.sh (List.map encA p.need), AV.sl SK.sh (List.map encP p.labels), AV.sl SK.sh (List.map encM p.sel), AV.sl SK.sh (List.map encL p.tols), AV.str p.key, AV.int IntKind.i64 p.most, AV.str p.node, AV.bool p.hold]], toks := [], loops := [] : Heap })) (by simp only [IsRet]; grind [cntB])) (fun h2 => .yes (show (!p.hold) = true from by have hh : ¬ (p.hold = true) := h2; simp [hh]) <| .callG ([AV.sl SK.sh (List.map encM b.sel), AV.sl SK.sh (List.map encP p.labels)]) (AV.bool (matchB p.labels b.sel)) (show Gives cfg (137 : FuncId) [AV.sl SK.sh (List.map encM b.sel), AV.sl SK.sh (List.map encP p.labels)] (AV.bool (matchB p.labels b.sel)) from match_any _ _ m1 m2) ⟨rfl, rfl⟩ ⟨rfl, rfl⟩ <| .fin ((ARes.ret (AV.bool (matchB p.labels b.sel)), { boxes := [[AV.str b.name, AV.sl SK.sh (List.map encM b.sel), AV.int IntKind.i64 b.floor], [AV.str p.name, AV.str p.owner, AV.int IntKind.i64 p.prio, AV.sl SK.sh (List.map encA p.need), AV.sl SK.sh (List.map encP p.labels), AV.sl SK.sh (List.map encM p.sel), AV.sl SK.sh (List.map encL p.tols), AV.str p.key, AV.int IntKind.i64 p.most, AV.str p.node, AV.bool p.hold]], toks := [], loops := [] : Heap })) (by simp only [IsRet]; grind [cntB])))) (by kernel_rfl)
theorem count_any_loop (b : Bud) (l : List Pod) (hn : l.length < 9223372036854775807) (hl : ∀ x ∈ l, x.labels.length < 9223372036854775807) (hb : b.sel.length < 9223372036854775807) : ∀ (post : List Pod) (i m : Nat) (bs : List (List AV)) (hd : l.drop i = post) (hm : m ≤ i) (T : Env) (hT : Has T [(2, .ptr 0 0), (5, .int .i64 m), (8, .sl .sh (l.map encPd)), (9, .int .i64 l.length), (10, .int .i64 i)]),
    Goes cfg a21 k21_0 T ⟨(encB b).cells :: bs, [], []⟩ (IsRet (.int .i64 ((m + countB b post : Nat) : Int))) := by
  intro post
  induction post with
  | nil =>
    intro i m bs hd hm T hT
    have hge := drop_ge hd
    exact goG 60 _  hT  (.no (show (decide ((↑i : Int) < (↑l.length : Int))) = false from decide_eq_false (show ¬ ((↑i : Int) < (↑l.length : Int)) from (by omega))) <| .fin ((ARes.ret (AV.int IntKind.i64 (↑m : Int)), { boxes := [AV.str b.name, AV.sl SK.sh (List.map encM b.sel), AV.int IntKind.i64 b.floor] :: bs, toks := [], loops := [] : Heap })) rfl) (by kernel_rfl)
  | cons x post ih =>
    intro i m bs hd hm T hT
    have hlt := drop_lt hd
    have hnx := drop_next hd
    have hx := hl x (drop_mem hd)
    have hc := cnt_any b x hx hb
    by_cases hq : cntB b x = true
    · have e : m + countB b (x :: post) = (m + 1) + countB b post := by
        simp only [countB, List.countP_cons_of_pos hq]; omega
      rw [e]
      rw [hq] at hc
      exact goG 60 _  hT  (.yes (show (decide ((↑i : Int) < (↑l.length : Int))) = true from decide_eq_true (show (↑i : Int) < (↑l.length : Int) from (by omega))) <| .idx (show idxA (11 : Nat) (AV.sl SK.sh (List.map encPd l)) (AV.int IntKind.i64 (↑i : Int)) = some (AV.ref (encPd x).cells) from idx_row hd (by rfl)) <| .load (show loadA true (11 : Nat) { boxes := [AV.str b.name, AV.sl SK.sh (List.map encM b.sel), AV.int IntKind.i64 b.floor] :: bs, toks := [], loops := [] : Heap } (AV.ref [AV.str x.name, AV.str x.owner, AV.int IntKind.i64 x.prio, AV.sl SK.sh (List.map encA x.need), AV.sl SK.sh (List.map encP x.labels), AV.sl SK.sh (List.map encM x.sel), AV.sl SK.sh (List.map encL x.tols), AV.str x.key, AV.int IntKind.i64 x.most, AV.str x.node, AV.bool x.hold]) = some (AV.agg [AV.str x.name, AV.str x.owner, AV.int IntKind.i64 x.prio, AV.sl SK.sh (List.map encA x.need), AV.sl SK.sh (List.map encP x.labels), AV.sl SK.sh (List.map encM x.sel), AV.sl SK.sh (List.map encL x.tols), AV.str x.key, AV.int IntKind.i64 x.most, AV.str x.node, AV.bool x.hold]) from rfl) <| .store (show storeA (11 : Nat) { boxes := [AV.str b.name, AV.sl SK.sh (List.map encM b.sel), AV.int IntKind.i64 b.floor] :: (bs ++ [[AV.str [], AV.str [], AV.int IntKind.i64 (0 : Int), AV.sl SK.full [], AV.sl SK.full [], AV.sl SK.full [], AV.sl SK.full [], AV.str [], AV.int IntKind.i64 (0 : Int), AV.str [], AV.bool false]]), toks := [], loops := [] : Heap } (AV.ptr ([AV.str b.name, AV.sl SK.sh (List.map encM b.sel), AV.int IntKind.i64 b.floor] :: bs).length (0 : Nat)) (AV.agg [AV.str x.name, AV.str x.owner, AV.int IntKind.i64 x.prio, AV.sl SK.sh (List.map encA x.need), AV.sl SK.sh (List.map encP x.labels), AV.sl SK.sh (List.map encM x.sel), AV.sl SK.sh (List.map encL x.tols), AV.str x.key, AV.int IntKind.i64 x.most, AV.str x.node, AV.bool x.hold]) = some ({ boxes := [AV.str b.name, AV.sl SK.sh (List.map encM b.sel), AV.int IntKind.i64 b.floor] :: (bs ++ [[AV.str x.name, AV.str x.owner, AV.int IntKind.i64 x.prio, AV.sl SK.sh (List.map encA x.need), AV.sl SK.sh (List.map encP x.labels), AV.sl SK.sh (List.map encM x.sel), AV.sl SK.sh (List.map encL x.tols), AV.str x.key, AV.int IntKind.i64 x.most, AV.str x.node, AV.bool x.hold]]), toks := [], loops := [] : Heap }) from store_box2 (cs := [AV.str [], AV.str [], AV.int IntKind.i64 (0 : Int), AV.sl SK.full [], AV.sl SK.full [], AV.sl SK.full [], AV.sl SK.full [], AV.str [], AV.int IntKind.i64 (0 : Int), AV.str [], AV.bool false]) (cs' := [AV.str x.name, AV.str x.owner, AV.int IntKind.i64 x.prio, AV.sl SK.sh (List.map encA x.need), AV.sl SK.sh (List.map encP x.labels), AV.sl SK.sh (List.map encM x.sel), AV.sl SK.sh (List.map encL x.tols), AV.str x.key, AV.int IntKind.i64 x.most, AV.str x.node, AV.bool x.hold]) (by simp) rfl (by simp [List.set_append])) <| .load (show loadA true (3 : Nat) { boxes := [AV.str b.name, AV.sl SK.sh (List.map encM b.sel), AV.int IntKind.i64 b.floor] :: (bs ++ [[AV.str x.name, AV.str x.owner, AV.int IntKind.i64 x.prio, AV.sl SK.sh (List.map encA x.need), AV.sl SK.sh (List.map encP x.labels), AV.sl SK.sh (List.map encM x.sel), AV.sl SK.sh (List.map encL x.tols), AV.str x.key, AV.int IntKind.i64 x.most, AV.str x.node, AV.bool x.hold]]), toks := [], loops := [] : Heap } (AV.ptr (0 : Nat) (0 : Nat)) = some (AV.agg [AV.str b.name, AV.sl SK.sh (List.map encM b.sel), AV.int IntKind.i64 b.floor]) from load_box (cs := [AV.str b.name, AV.sl SK.sh (List.map encM b.sel), AV.int IntKind.i64 b.floor]) (by simp) rfl) <| .load (show loadA true (11 : Nat) { boxes := [AV.str b.name, AV.sl SK.sh (List.map encM b.sel), AV.int IntKind.i64 b.floor] :: (bs ++ [[AV.str x.name, AV.str x.owner, AV.int IntKind.i64 x.prio, AV.sl SK.sh (List.map encA x.need), AV.sl SK.sh (List.map encP x.labels), AV.sl SK.sh (List.map encM x.sel), AV.sl SK.sh (List.map encL x.tols), AV.str x.key, AV.int IntKind.i64 x.most, AV.str x.node, AV.bool x.hold]]), toks := [], loops := [] : Heap } (AV.ptr ([AV.str b.name, AV.sl SK.sh (List.map encM b.sel), AV.int IntKind.i64 b.floor] :: bs).length (0 : Nat)) = some (AV.agg [AV.str x.name, AV.str x.owner, AV.int IntKind.i64 x.prio, AV.sl SK.sh (List.map encA x.need), AV.sl SK.sh (List.map encP x.labels), AV.sl SK.sh (List.map encM x.sel), AV.sl SK.sh (List.map encL x.tols), AV.str x.key, AV.int IntKind.i64 x.most, AV.str x.node, AV.bool x.hold]) from load_box (cs := [AV.str x.name, AV.str x.owner, AV.int IntKind.i64 x.prio, AV.sl SK.sh (List.map encA x.need), AV.sl SK.sh (List.map encP x.labels), AV.sl SK.sh (List.map encM x.sel), AV.sl SK.sh (List.map encL x.tols), AV.str x.key, AV.int IntKind.i64 x.most, AV.str x.node, AV.bool x.hold]) (by simp) rfl) <| .callG ([AV.agg [AV.str b.name, AV.sl SK.sh (List.map encM b.sel), AV.int IntKind.i64 b.floor], AV.agg [AV.str x.name, AV.str x.owner, AV.int IntKind.i64 x.prio, AV.sl SK.sh (List.map encA x.need), AV.sl SK.sh (List.map encP x.labels), AV.sl SK.sh (List.map encM x.sel), AV.sl SK.sh (List.map encL x.tols), AV.str x.key, AV.int IntKind.i64 x.most, AV.str x.node, AV.bool x.hold]]) (AV.bool true) (show Gives cfg (66 : FuncId) [encB b, encPd x] (AV.bool true) from hc) ⟨rfl, rfl⟩ ⟨rfl, rfl⟩ <| .tt <| .bin (show binA BinOp.add (AV.int IntKind.i64 (↑m : Int)) (AV.int IntKind.i64 (1 : Int)) = some (AV.int IntKind.i64 (↑(m + (1 : Nat)) : Int)) from inc_i (by omega)) <| .bin (show binA BinOp.add (AV.int IntKind.i64 (↑i : Int)) (AV.int IntKind.i64 (1 : Int)) = some (AV.int IntKind.i64 (↑(i + (1 : Nat)) : Int)) from inc_i (by omega)) <| .cutQ k21_0 [(2, AV.ptr (0 : Nat) (0 : Nat)), (5, AV.int IntKind.i64 (↑(m + (1 : Nat)) : Int)), (8, AV.sl SK.sh (List.map encPd l)), (9, AV.int IntKind.i64 (↑l.length : Int)), (10, AV.int IntKind.i64 (↑(i + (1 : Nat)) : Int))] ({ boxes := [AV.str b.name, AV.sl SK.sh (List.map encM b.sel), AV.int IntKind.i64 b.floor] :: (bs ++ [[AV.str x.name, AV.str x.owner, AV.int IntKind.i64 x.prio, AV.sl SK.sh (List.map encA x.need), AV.sl SK.sh (List.map encP x.labels), AV.sl SK.sh (List.map encM x.sel), AV.sl SK.sh (List.map encL x.tols), AV.str x.key, AV.int IntKind.i64 x.most, AV.str x.node, AV.bool x.hold]]), toks := [], loops := [] : Heap }) (fun T hT => (ih (i + (1 : Nat)) (m + (1 : Nat)) (bs ++ [[AV.str x.name, AV.str x.owner, AV.int IntKind.i64 x.prio, AV.sl SK.sh (List.map encA x.need), AV.sl SK.sh (List.map encP x.labels), AV.sl SK.sh (List.map encM x.sel), AV.sl SK.sh (List.map encL x.tols), AV.str x.key, AV.int IntKind.i64 x.most, AV.str x.node, AV.bool x.hold]]) hnx (by omega) T hT))) (by kernel_rfl)
    · have e : m + countB b (x :: post) = m + countB b post := by
        simp only [countB, List.countP_cons_of_neg hq]
      rw [e]
      rw [Bool.eq_false_iff.2 hq] at hc
      exact goG 60 _  hT  (.yes (show (decide ((↑i : Int) < (↑l.length : Int))) = true from decide_eq_true (show (↑i : Int) < (↑l.length : Int) from (by omega))) <| .idx (show idxA (11 : Nat) (AV.sl SK.sh (List.map encPd l)) (AV.int IntKind.i64 (↑i : Int)) = some (AV.ref (encPd x).cells) from idx_row hd (by rfl)) <| .load (show loadA true (11 : Nat) { boxes := [AV.str b.name, AV.sl SK.sh (List.map encM b.sel), AV.int IntKind.i64 b.floor] :: bs, toks := [], loops := [] : Heap } (AV.ref [AV.str x.name, AV.str x.owner, AV.int IntKind.i64 x.prio, AV.sl SK.sh (List.map encA x.need), AV.sl SK.sh (List.map encP x.labels), AV.sl SK.sh (List.map encM x.sel), AV.sl SK.sh (List.map encL x.tols), AV.str x.key, AV.int IntKind.i64 x.most, AV.str x.node, AV.bool x.hold]) = some (AV.agg [AV.str x.name, AV.str x.owner, AV.int IntKind.i64 x.prio, AV.sl SK.sh (List.map encA x.need), AV.sl SK.sh (List.map encP x.labels), AV.sl SK.sh (List.map encM x.sel), AV.sl SK.sh (List.map encL x.tols), AV.str x.key, AV.int IntKind.i64 x.most, AV.str x.node, AV.bool x.hold]) from rfl) <| .store (show storeA (11 : Nat) { boxes := [AV.str b.name, AV.sl SK.sh (List.map encM b.sel), AV.int IntKind.i64 b.floor] :: (bs ++ [[AV.str [], AV.str [], AV.int IntKind.i64 (0 : Int), AV.sl SK.full [], AV.sl SK.full [], AV.sl SK.full [], AV.sl SK.full [], AV.str [], AV.int IntKind.i64 (0 : Int), AV.str [], AV.bool false]]), toks := [], loops := [] : Heap } (AV.ptr ([AV.str b.name, AV.sl SK.sh (List.map encM b.sel), AV.int IntKind.i64 b.floor] :: bs).length (0 : Nat)) (AV.agg [AV.str x.name, AV.str x.owner, AV.int IntKind.i64 x.prio, AV.sl SK.sh (List.map encA x.need), AV.sl SK.sh (List.map encP x.labels), AV.sl SK.sh (List.map encM x.sel), AV.sl SK.sh (List.map encL x.tols), AV.str x.key, AV.int IntKind.i64 x.most, AV.str x.node, AV.bool x.hold]) = some ({ boxes := [AV.str b.name, AV.sl SK.sh (List.map encM b.sel), AV.int IntKind.i64 b.floor] :: (bs ++ [[AV.str x.name, AV.str x.owner, AV.int IntKind.i64 x.prio, AV.sl SK.sh (List.map encA x.need), AV.sl SK.sh (List.map encP x.labels), AV.sl SK.sh (List.map encM x.sel), AV.sl SK.sh (List.map encL x.tols), AV.str x.key, AV.int IntKind.i64 x.most, AV.str x.node, AV.bool x.hold]]), toks := [], loops := [] : Heap }) from store_box2 (cs := [AV.str [], AV.str [], AV.int IntKind.i64 (0 : Int), AV.sl SK.full [], AV.sl SK.full [], AV.sl SK.full [], AV.sl SK.full [], AV.str [], AV.int IntKind.i64 (0 : Int), AV.str [], AV.bool false]) (cs' := [AV.str x.name, AV.str x.owner, AV.int IntKind.i64 x.prio, AV.sl SK.sh (List.map encA x.need), AV.sl SK.sh (List.map encP x.labels), AV.sl SK.sh (List.map encM x.sel), AV.sl SK.sh (List.map encL x.tols), AV.str x.key, AV.int IntKind.i64 x.most, AV.str x.node, AV.bool x.hold]) (by simp) rfl (by simp [List.set_append])) <| .load (show loadA true (3 : Nat) { boxes := [AV.str b.name, AV.sl SK.sh (List.map encM b.sel), AV.int IntKind.i64 b.floor] :: (bs ++ [[AV.str x.name, AV.str x.owner, AV.int IntKind.i64 x.prio, AV.sl SK.sh (List.map encA x.need), AV.sl SK.sh (List.map encP x.labels), AV.sl SK.sh (List.map encM x.sel), AV.sl SK.sh (List.map encL x.tols), AV.str x.key, AV.int IntKind.i64 x.most, AV.str x.node, AV.bool x.hold]]), toks := [], loops := [] : Heap } (AV.ptr (0 : Nat) (0 : Nat)) = some (AV.agg [AV.str b.name, AV.sl SK.sh (List.map encM b.sel), AV.int IntKind.i64 b.floor]) from load_box (cs := [AV.str b.name, AV.sl SK.sh (List.map encM b.sel), AV.int IntKind.i64 b.floor]) (by simp) rfl) <| .load (show loadA true (11 : Nat) { boxes := [AV.str b.name, AV.sl SK.sh (List.map encM b.sel), AV.int IntKind.i64 b.floor] :: (bs ++ [[AV.str x.name, AV.str x.owner, AV.int IntKind.i64 x.prio, AV.sl SK.sh (List.map encA x.need), AV.sl SK.sh (List.map encP x.labels), AV.sl SK.sh (List.map encM x.sel), AV.sl SK.sh (List.map encL x.tols), AV.str x.key, AV.int IntKind.i64 x.most, AV.str x.node, AV.bool x.hold]]), toks := [], loops := [] : Heap } (AV.ptr ([AV.str b.name, AV.sl SK.sh (List.map encM b.sel), AV.int IntKind.i64 b.floor] :: bs).length (0 : Nat)) = some (AV.agg [AV.str x.name, AV.str x.owner, AV.int IntKind.i64 x.prio, AV.sl SK.sh (List.map encA x.need), AV.sl SK.sh (List.map encP x.labels), AV.sl SK.sh (List.map encM x.sel), AV.sl SK.sh (List.map encL x.tols), AV.str x.key, AV.int IntKind.i64 x.most, AV.str x.node, AV.bool x.hold]) from load_box (cs := [AV.str x.name, AV.str x.owner, AV.int IntKind.i64 x.prio, AV.sl SK.sh (List.map encA x.need), AV.sl SK.sh (List.map encP x.labels), AV.sl SK.sh (List.map encM x.sel), AV.sl SK.sh (List.map encL x.tols), AV.str x.key, AV.int IntKind.i64 x.most, AV.str x.node, AV.bool x.hold]) (by simp) rfl) <| .callG ([AV.agg [AV.str b.name, AV.sl SK.sh (List.map encM b.sel), AV.int IntKind.i64 b.floor], AV.agg [AV.str x.name, AV.str x.owner, AV.int IntKind.i64 x.prio, AV.sl SK.sh (List.map encA x.need), AV.sl SK.sh (List.map encP x.labels), AV.sl SK.sh (List.map encM x.sel), AV.sl SK.sh (List.map encL x.tols), AV.str x.key, AV.int IntKind.i64 x.most, AV.str x.node, AV.bool x.hold]]) (AV.bool false) (show Gives cfg (66 : FuncId) [encB b, encPd x] (AV.bool false) from hc) ⟨rfl, rfl⟩ ⟨rfl, rfl⟩ <| .ff <| .bin (show binA BinOp.add (AV.int IntKind.i64 (↑i : Int)) (AV.int IntKind.i64 (1 : Int)) = some (AV.int IntKind.i64 (↑(i + (1 : Nat)) : Int)) from inc_i (by omega)) <| .cutQ k21_0 [(2, AV.ptr (0 : Nat) (0 : Nat)), (5, AV.int IntKind.i64 (↑m : Int)), (8, AV.sl SK.sh (List.map encPd l)), (9, AV.int IntKind.i64 (↑l.length : Int)), (10, AV.int IntKind.i64 (↑(i + (1 : Nat)) : Int))] ({ boxes := [AV.str b.name, AV.sl SK.sh (List.map encM b.sel), AV.int IntKind.i64 b.floor] :: (bs ++ [[AV.str x.name, AV.str x.owner, AV.int IntKind.i64 x.prio, AV.sl SK.sh (List.map encA x.need), AV.sl SK.sh (List.map encP x.labels), AV.sl SK.sh (List.map encM x.sel), AV.sl SK.sh (List.map encL x.tols), AV.str x.key, AV.int IntKind.i64 x.most, AV.str x.node, AV.bool x.hold]]), toks := [], loops := [] : Heap }) (fun T hT => (ih (i + (1 : Nat)) (m) (bs ++ [[AV.str x.name, AV.str x.owner, AV.int IntKind.i64 x.prio, AV.sl SK.sh (List.map encA x.need), AV.sl SK.sh (List.map encP x.labels), AV.sl SK.sh (List.map encM x.sel), AV.sl SK.sh (List.map encL x.tols), AV.str x.key, AV.int IntKind.i64 x.most, AV.str x.node, AV.bool x.hold]]) hnx (by omega) T hT))) (by kernel_rfl)
theorem count_any (b : Bud) (l : List Pod) (hn : l.length < 9223372036854775807) (hl : ∀ x ∈ l, x.labels.length < 9223372036854775807) (hb : b.sel.length < 9223372036854775807) : Gives cfg 21 [encB b, .sl .sh (l.map encPd)] (.int .i64 (countB b l : Nat)) := by
  refine Gives.run (l21 _ _) ?_
  have h := count_any_loop b l hn hl hb l 0 0 [] rfl (Nat.le_refl _)
  rw [Nat.zero_add] at h
  exact goG 60 []  trivial  (.len (show lenA false (AV.sl SK.sh (List.map encPd l)) = some (AV.int IntKind.i64 (↑l.length : Int)) from len_map _) <| .cutQ k21_0 [(2, AV.ptr (0 : Nat) (0 : Nat)), (5, AV.int IntKind.i64 (0 : Int)), (8, AV.sl SK.sh (List.map encPd l)), (9, AV.int IntKind.i64 (↑l.length : Int)), (10, AV.int IntKind.i64 (0 : Int))] ({ boxes := [[AV.str b.name, AV.sl SK.sh (List.map encM b.sel), AV.int IntKind.i64 b.floor]], toks := [], loops := [] : Heap }) (fun T hT => (h T hT))) (by kernel_rfl)
end Go.Aa.T

set_option linter.unusedVariables false
set_option linter.unusedSimpArgs false
set_option maxRecDepth 100000
namespace Go.Aa.T
open Go.Aa Go.Proofs

def eqS (x y : List UInt8) : Bool := x == y
theorem eqS_iff (x y : List UInt8) : eqS x y = true ↔ x = y := by simp [eqS]
theorem names_any_loop (a b : List (List UInt8)) (hn : a.length < 9223372036854775807) (he : a.length = b.length) : ∀ (post q : List (List UInt8)) (i : Nat) (hd : a.drop i = post) (hq : b.drop i = q) (T : Env) (hT : Has T [(0, .sl .sh (a.map AV.str)), (1, .sl .sh (b.map AV.str)), (5, .int .i64 i)]),
    Goes cfg a27 k27_0 T Heap.nil (IsRet (.bool (same2 eqS post q))) := by
  intro post
  induction post with
  | nil =>
    intro q i hd hq T hT
    have hge := drop_ge hd
    have e : q = [] := by rw [← hq]; exact List.drop_eq_nil_of_le (by omega)
    subst e
    exact goG 60 _  hT  (.len (show lenA false (AV.sl SK.sh (List.map AV.str a)) = some (AV.int IntKind.i64 (↑a.length : Int)) from len_map _) <| .no (show (decide ((↑i : Int) < (↑a.length : Int))) = false from decide_eq_false (show ¬ ((↑i : Int) < (↑a.length : Int)) from (by omega))) <| .fin ((ARes.ret (AV.bool true), { boxes := [], toks := [], loops := [] : Heap })) rfl) (by kernel_rfl)
  | cons x post ih =>
    intro q i hd hq T hT
    have hlt := drop_lt hd
    have hnx := drop_next hd
    cases q with
    | nil => have := drop_ge hq; omega
    | cons y q =>
      have hnq := drop_next hq
      exact goG 60 _  hT  (.len (show lenA false (AV.sl SK.sh (List.map AV.str a)) = some (AV.int IntKind.i64 (↑a.length : Int)) from len_map _) <| .yes (show (decide ((↑i : Int) < (↑a.length : Int))) = true from decide_eq_true (show (↑i : Int) < (↑a.length : Int) from (by omega))) <| .idx (show idxA (1 : Nat) (AV.sl SK.sh (List.map AV.str a)) (AV.int IntKind.i64 (↑i : Int)) = some (AV.ref (AV.str x).cells) from idx_row hd (by rfl)) <| .idx (show idxA (1 : Nat) (AV.sl SK.sh (List.map AV.str b)) (AV.int IntKind.i64 (↑i : Int)) = some (AV.ref (AV.str y).cells) from idx_row hq (by rfl)) <| .split ((x == y) = true) (fun h1 => .no (show (!x == y) = false from by have hh : (x == y) = true := h1; simp [hh]) <| .bin (show binA BinOp.add (AV.int IntKind.i64 (↑i : Int)) (AV.int IntKind.i64 (1 : Int)) = some (AV.int IntKind.i64 (↑(i + (1 : Nat)) : Int)) from inc_i (by omega)) <| .cutQ k27_0 [(0, AV.sl SK.sh (List.map AV.str a)), (1, AV.sl SK.sh (List.map AV.str b)), (5, AV.int IntKind.i64 (↑(i + (1 : Nat)) : Int))] ({ boxes := [], toks := [], loops := [] : Heap }) (fun T hT => (ih (q) (i + (1 : Nat)) hnx hnq T hT).to (by grind [same2, eqS]))) (fun h1 => .yes (show (!x == y) = true from by have hh : ¬ ((x == y) = true) := h1; simp [hh]) <| .fin ((ARes.ret (AV.bool false), { boxes := [], toks := [], loops := [] : Heap })) (by simp only [IsRet]; grind [same2, eqS]))) (by kernel_rfl)
theorem names_any (a b : List (List UInt8)) (hn : a.length < 9223372036854775807) : Gives cfg 27 [.sl .sh (a.map AV.str), .sl .sh (b.map AV.str)] (.bool (same2 eqS a b)) := by
  refine Gives.run (l27 _ _) ?_
  by_cases he : a.length = b.length
  · have h := names_any_loop a b hn he a b 0 rfl rfl
    exact goG 60 []  trivial  (.len (show lenA false (AV.sl SK.sh (List.map AV.str a)) = some (AV.int IntKind.i64 (↑a.length : Int)) from len_map _) <| .len (show lenA false (AV.sl SK.sh (List.map AV.str b)) = some (AV.int IntKind.i64 (↑b.length : Int)) from len_map _) <| .no (show ((↑a.length : Int) != (↑b.length : Int)) = false from Bool.eq_false_iff.2 (show ¬ (((↑a.length : Int) != (↑b.length : Int)) = true) from (by simp [he]))) <| .cutQ k27_0 [(0, AV.sl SK.sh (List.map AV.str a)), (1, AV.sl SK.sh (List.map AV.str b)), (5, AV.int IntKind.i64 (0 : Int))] ({ boxes := [], toks := [], loops := [] : Heap }) (fun T hT => (h T hT))) (by kernel_rfl)
  · rw [same2_len he]
    exact goG 60 []  trivial  (.len (show lenA false (AV.sl SK.sh (List.map AV.str a)) = some (AV.int IntKind.i64 (↑a.length : Int)) from len_map _) <| .len (show lenA false (AV.sl SK.sh (List.map AV.str b)) = some (AV.int IntKind.i64 (↑b.length : Int)) from len_map _) <| .yes (show ((↑a.length : Int) != (↑b.length : Int)) = true from (by simp; omega)) <| .fin ((ARes.ret (AV.bool false), { boxes := [], toks := [], loops := [] : Heap })) rfl) (by kernel_rfl)
def brB (bs : List Bud) (l : List Pod) : List (List UInt8) := (bs.filter fun b => decide ((countB b l : Int) < b.floor)).map (·.name)
theorem br_any_loop (bs : List Bud) (l : List Pod) (hb : bs.length ≤ 20) (hn : l.length < 9223372036854775807) (hl : ∀ x ∈ l, x.labels.length < 9223372036854775807) (hs : ∀ b ∈ bs, b.sel.length < 9223372036854775807) : ∀ (post : List Bud) (i : Nat) (acc : List (List UInt8)) (xs : List (List AV)) (hd : bs.drop i = post) (ha : acc.length ≤ i) (T : Env) (hT : Has T [(1, .sl .sh (l.map encPd)), (5, rowF AV.str acc), (8, .sl .sh (bs.map encB)), (9, .int .i64 bs.length), (10, .int .i64 i)]),
    Goes cfg a28 k28_0 T ⟨xs, tkR AV.str acc, []⟩ (IsRet (rowF AV.str (acc ++ brB post l))) := by
  intro post
  induction post with
  | nil =>
    intro i acc xs hd ha T hT
    have hge := drop_ge hd
    have e : acc ++ brB [] l = acc := by simp [brB]
    rw [e]
    exact goG 60 _  hT  (.no (show (decide ((↑i : Int) < (↑bs.length : Int))) = false from decide_eq_false (show ¬ ((↑i : Int) < (↑bs.length : Int)) from (by omega))) <| .fin ((ARes.ret (AV.sl (skF acc) (List.map AV.str acc)), { boxes := xs, toks := tkR AV.str acc, loops := [] : Heap })) rfl) (by kernel_rfl)
  | cons b post ih =>
    intro i acc xs hd ha T hT
    have hlt := drop_lt hd
    have hnx := drop_next hd
    have hc := count_any b l hn hl (hs b (drop_mem hd))
    by_cases hq : (countB b l : Int) < b.floor
    · have e : acc ++ brB (b :: post) l = (acc ++ [b.name]) ++ brB post l := by simp [brB, hq]
      rw [e]
      exact goG 90 _  hT  (.yes (show (decide ((↑i : Int) < (↑bs.length : Int))) = true from decide_eq_true (show (↑i : Int) < (↑bs.length : Int) from (by simp; omega))) <| .idx (show idxA (3 : Nat) (AV.sl SK.sh (List.map encB bs)) (AV.int IntKind.i64 (↑i : Int)) = some (AV.ref (encB b).cells) from idx_row hd (by rfl)) <| .load (show loadA true (3 : Nat) { boxes := xs, toks := tkR AV.str acc, loops := [] : Heap } (AV.ref [AV.str b.name, AV.sl SK.sh (List.map encM b.sel), AV.int IntKind.i64 b.floor]) = some (AV.agg [AV.str b.name, AV.sl SK.sh (List.map encM b.sel), AV.int IntKind.i64 b.floor]) from rfl) <| .store (show storeA (3 : Nat) { boxes := xs ++ [[AV.str [], AV.sl SK.full [], AV.int IntKind.i64 (0 : Int)]], toks := tkR AV.str acc, loops := [] : Heap } (AV.ptr xs.length (0 : Nat)) (AV.agg [AV.str b.name, AV.sl SK.sh (List.map encM b.sel), AV.int IntKind.i64 b.floor]) = some ({ boxes := xs ++ [[AV.str b.name, AV.sl SK.sh (List.map encM b.sel), AV.int IntKind.i64 b.floor]], toks := tkR AV.str acc, loops := [] : Heap }) from store_box2 (cs := [AV.str [], AV.sl SK.full [], AV.int IntKind.i64 (0 : Int)]) (cs' := [AV.str b.name, AV.sl SK.sh (List.map encM b.sel), AV.int IntKind.i64 b.floor]) (by simp) rfl (by simp [List.set_append])) <| .load (show loadA true (3 : Nat) { boxes := xs ++ [[AV.str b.name, AV.sl SK.sh (List.map encM b.sel), AV.int IntKind.i64 b.floor]], toks := tkR AV.str acc, loops := [] : Heap } (AV.ptr xs.length (0 : Nat)) = some (AV.agg [AV.str b.name, AV.sl SK.sh (List.map encM b.sel), AV.int IntKind.i64 b.floor]) from load_box (cs := [AV.str b.name, AV.sl SK.sh (List.map encM b.sel), AV.int IntKind.i64 b.floor]) (by simp) rfl) <| .callG ([AV.agg [AV.str b.name, AV.sl SK.sh (List.map encM b.sel), AV.int IntKind.i64 b.floor], AV.sl SK.sh (List.map encPd l)]) (AV.int IntKind.i64 (↑(countB b l) : Int)) (show Gives cfg (21 : FuncId) [encB b, AV.sl SK.sh (List.map encPd l)] (AV.int IntKind.i64 (↑(countB b l) : Int)) from hc) ⟨rfl, rfl⟩ ⟨rfl, rfl⟩ <| .load (show loadA false (1 : Nat) { boxes := xs ++ [[AV.str b.name, AV.sl SK.sh (List.map encM b.sel), AV.int IntKind.i64 b.floor]], toks := tkR AV.str acc, loops := [] : Heap } (AV.ptr xs.length (2 : Nat)) = some (AV.int IntKind.i64 b.floor) from load_box (cs := [AV.str b.name, AV.sl SK.sh (List.map encM b.sel), AV.int IntKind.i64 b.floor]) (by simp) rfl) <| .yes (show (decide ((↑(countB b l) : Int) < b.floor)) = true from decide_eq_true (show (↑(countB b l) : Int) < b.floor from (by omega))) <| .load (show loadA false (1 : Nat) { boxes := xs ++ [[AV.str b.name, AV.sl SK.sh (List.map encM b.sel), AV.int IntKind.i64 b.floor]], toks := tkR AV.str acc, loops := [] : Heap } (AV.ptr xs.length (0 : Nat)) = some (AV.str b.name) from load_box (cs := [AV.str b.name, AV.sl SK.sh (List.map encM b.sel), AV.int IntKind.i64 b.floor]) (by simp) rfl) <| .append (show appendA (1 : Nat) (16 : Nat) { boxes := xs ++ [[AV.str b.name, AV.sl SK.sh (List.map encM b.sel), AV.int IntKind.i64 b.floor]], toks := tkR AV.str acc, loops := [] : Heap } (AV.sl (skF acc) (List.map AV.str acc)) (AV.sl SK.full [AV.str b.name]) = some ((rowF AV.str (acc ++ [b.name]), { boxes := xs ++ [[AV.str b.name, AV.sl SK.sh (List.map encM b.sel), AV.int IntKind.i64 b.floor]], toks := tkR AV.str (acc ++ [b.name]), loops := [] : Heap })) from row_append_T _ (by simp; omega) (by exact lenSt) (by rfl) (by rfl)) <| .bin (show binA BinOp.add (AV.int IntKind.i64 (↑i : Int)) (AV.int IntKind.i64 (1 : Int)) = some (AV.int IntKind.i64 (↑(i + (1 : Nat)) : Int)) from inc_i (by omega)) <| .cutQ k28_0 [(1, AV.sl SK.sh (List.map encPd l)), (5, AV.sl (skF (acc ++ [b.name])) (List.map AV.str (acc ++ [b.name]))), (8, AV.sl SK.sh (List.map encB bs)), (9, AV.int IntKind.i64 (↑bs.length : Int)), (10, AV.int IntKind.i64 (↑(i + (1 : Nat)) : Int))] ({ boxes := xs ++ [[AV.str b.name, AV.sl SK.sh (List.map encM b.sel), AV.int IntKind.i64 b.floor]], toks := tkR AV.str (acc ++ [b.name]), loops := [] : Heap }) (fun T hT => (ih (i + (1 : Nat)) (acc ++ [b.name]) (xs ++ [[AV.str b.name, AV.sl SK.sh (List.map encM b.sel), AV.int IntKind.i64 b.floor]]) hnx (by simp; omega) T hT))) (by kernel_rfl)
    · have e : acc ++ brB (b :: post) l = acc ++ brB post l := by simp [brB, hq]
      rw [e]
      exact goG 90 _  hT  (.yes (show (decide ((↑i : Int) < (↑bs.length : Int))) = true from decide_eq_true (show (↑i : Int) < (↑bs.length : Int) from (by omega))) <| .idx (show idxA (3 : Nat) (AV.sl SK.sh (List.map encB bs)) (AV.int IntKind.i64 (↑i : Int)) = some (AV.ref (encB b).cells) from idx_row hd (by rfl)) <| .load (show loadA true (3 : Nat) { boxes := xs, toks := tkR AV.str acc, loops := [] : Heap } (AV.ref [AV.str b.name, AV.sl SK.sh (List.map encM b.sel), AV.int IntKind.i64 b.floor]) = some (AV.agg [AV.str b.name, AV.sl SK.sh (List.map encM b.sel), AV.int IntKind.i64 b.floor]) from rfl) <| .store (show storeA (3 : Nat) { boxes := xs ++ [[AV.str [], AV.sl SK.full [], AV.int IntKind.i64 (0 : Int)]], toks := tkR AV.str acc, loops := [] : Heap } (AV.ptr xs.length (0 : Nat)) (AV.agg [AV.str b.name, AV.sl SK.sh (List.map encM b.sel), AV.int IntKind.i64 b.floor]) = some ({ boxes := xs ++ [[AV.str b.name, AV.sl SK.sh (List.map encM b.sel), AV.int IntKind.i64 b.floor]], toks := tkR AV.str acc, loops := [] : Heap }) from store_box2 (cs := [AV.str [], AV.sl SK.full [], AV.int IntKind.i64 (0 : Int)]) (cs' := [AV.str b.name, AV.sl SK.sh (List.map encM b.sel), AV.int IntKind.i64 b.floor]) (by simp) rfl (by simp [List.set_append])) <| .load (show loadA true (3 : Nat) { boxes := xs ++ [[AV.str b.name, AV.sl SK.sh (List.map encM b.sel), AV.int IntKind.i64 b.floor]], toks := tkR AV.str acc, loops := [] : Heap } (AV.ptr xs.length (0 : Nat)) = some (AV.agg [AV.str b.name, AV.sl SK.sh (List.map encM b.sel), AV.int IntKind.i64 b.floor]) from load_box (cs := [AV.str b.name, AV.sl SK.sh (List.map encM b.sel), AV.int IntKind.i64 b.floor]) (by simp) rfl) <| .callG ([AV.agg [AV.str b.name, AV.sl SK.sh (List.map encM b.sel), AV.int IntKind.i64 b.floor], AV.sl SK.sh (List.map encPd l)]) (AV.int IntKind.i64 (↑(countB b l) : Int)) (show Gives cfg (21 : FuncId) [encB b, AV.sl SK.sh (List.map encPd l)] (AV.int IntKind.i64 (↑(countB b l) : Int)) from hc) ⟨rfl, rfl⟩ ⟨rfl, rfl⟩ <| .load (show loadA false (1 : Nat) { boxes := xs ++ [[AV.str b.name, AV.sl SK.sh (List.map encM b.sel), AV.int IntKind.i64 b.floor]], toks := tkR AV.str acc, loops := [] : Heap } (AV.ptr xs.length (2 : Nat)) = some (AV.int IntKind.i64 b.floor) from load_box (cs := [AV.str b.name, AV.sl SK.sh (List.map encM b.sel), AV.int IntKind.i64 b.floor]) (by simp) rfl) <| .no (show (decide ((↑(countB b l) : Int) < b.floor)) = false from decide_eq_false (show ¬ ((↑(countB b l) : Int) < b.floor) from (by omega))) <| .bin (show binA BinOp.add (AV.int IntKind.i64 (↑i : Int)) (AV.int IntKind.i64 (1 : Int)) = some (AV.int IntKind.i64 (↑(i + (1 : Nat)) : Int)) from inc_i (by omega)) <| .cutQ k28_0 [(1, AV.sl SK.sh (List.map encPd l)), (5, AV.sl (skF acc) (List.map AV.str acc)), (8, AV.sl SK.sh (List.map encB bs)), (9, AV.int IntKind.i64 (↑bs.length : Int)), (10, AV.int IntKind.i64 (↑(i + (1 : Nat)) : Int))] ({ boxes := xs ++ [[AV.str b.name, AV.sl SK.sh (List.map encM b.sel), AV.int IntKind.i64 b.floor]], toks := tkR AV.str acc, loops := [] : Heap }) (fun T hT => (ih (i + (1 : Nat)) (acc) (xs ++ [[AV.str b.name, AV.sl SK.sh (List.map encM b.sel), AV.int IntKind.i64 b.floor]]) hnx (by omega) T hT))) (by kernel_rfl)
theorem br_any (bs : List Bud) (l : List Pod) (hb : bs.length ≤ 20) (hn : l.length < 9223372036854775807) (hl : ∀ x ∈ l, x.labels.length < 9223372036854775807) (hs : ∀ b ∈ bs, b.sel.length < 9223372036854775807) : Gives cfg 28 [.sl .sh (bs.map encB), .sl .sh (l.map encPd)] (rowF AV.str (brB bs l)) := by
  refine Gives.run (l28 _ _) ?_
  have h := br_any_loop bs l hb hn hl hs bs 0 [] [] rfl (Nat.le_refl _)
  rw [List.nil_append] at h
  exact goG 60 []  trivial  (.len (show lenA false (AV.sl SK.sh (List.map encB bs)) = some (AV.int IntKind.i64 (↑bs.length : Int)) from len_map _) <| .cutQ k28_0 [(1, AV.sl SK.sh (List.map encPd l)), (5, AV.sl SK.full []), (8, AV.sl SK.sh (List.map encB bs)), (9, AV.int IntKind.i64 (↑bs.length : Int)), (10, AV.int IntKind.i64 (0 : Int))] ({ boxes := [], toks := [], loops := [] : Heap }) (fun T hT => (h T hT))) (by kernel_rfl)
end Go.Aa.T

set_option linter.unusedVariables false
set_option linter.unusedSimpArgs false
set_option maxRecDepth 100000
namespace Go.Aa.T
open Go.Aa Go.Proofs
def stopB (l : List Pod) (p : Pod) (b : Bud) : Bool := cntB b p && decide ((countB b l : Int) ≤ b.floor)
def alB (l : List Pod) (p : Pod) : List Bud → List UInt8 × Bool
  | [] => ([], true)
  | b :: bs => if stopB l p b then (b.name, false) else alB l p bs
def alV (x : List UInt8 × Bool) : AV := .tuple [.str x.1, .bool x.2]
def allowsB (bs : List Bud) (l : List Pod) (s : List UInt8) : List UInt8 × Bool := match findG Pod.name l s with
  | none => ([], true)
  | some p => alB l p bs
theorem al_any_loop (bs : List Bud) (l : List Pod) (p : Pod) (hb : bs.length ≤ 20) (hn : l.length < 9223372036854775807) (hl : ∀ x ∈ l, x.labels.length < 9223372036854775807) (hp : p.labels.length < 9223372036854775807) (hs : ∀ b ∈ bs, b.sel.length < 9223372036854775807) : ∀ (post : List Bud) (i : Nat) (xs : List (List AV)) (hd : bs.drop i = post) (T : Env) (hT : Has T [(1, .sl .sh (l.map encPd)), (8, .ptr 0 0), (20, .sl .sh (bs.map encB)), (21, .int .i64 bs.length), (22, .int .i64 i)]),
    Goes cfg a25 k25_0 T ⟨(encPd p).cells :: xs, [], []⟩ (IsRet (alV (alB l p post))) := by
  intro post
  induction post with
  | nil =>
    intro i xs hd T hT
    have hge := drop_ge hd
    exact goG 60 _  hT  (.no (show (decide ((↑i : Int) < (↑bs.length : Int))) = false from decide_eq_false (show ¬ ((↑i : Int) < (↑bs.length : Int)) from (by omega))) <| .fin ((ARes.ret (AV.tuple [AV.str [], AV.bool true]), { boxes := [AV.str p.name, AV.str p.owner, AV.int IntKind.i64 p.prio, AV.sl SK.sh (List.map encA p.need), AV.sl SK.sh (List.map encP p.labels), AV.sl SK.sh (List.map encM p.sel), AV.sl SK.sh (List.map encL p.tols), AV.str p.key, AV.int IntKind.i64 p.most, AV.str p.node, AV.bool p.hold] :: xs, toks := [], loops := [] : Heap })) rfl) (by kernel_rfl)
  | cons b post ih =>
    intro i xs hd T hT
    have hlt := drop_lt hd
    have hnx := drop_next hd
    have hc := count_any b l hn hl (hs b (drop_mem hd))
    have hk := cnt_any b p hp (hs b (drop_mem hd))
    by_cases hq : stopB l p b = true
    · have e : alB l p (b :: post) = (b.name, false) := by simp [alB, hq]
      rw [e]
      simp only [stopB, Bool.and_eq_true, decide_eq_true_eq] at hq
      obtain ⟨q1, q2⟩ := hq
      rw [q1] at hk
      exact goG 90 _  hT  (.yes (show (decide ((↑i : Int) < (↑bs.length : Int))) = true from decide_eq_true (show (↑i : Int) < (↑bs.length : Int) from (by omega))) <| .idx (show idxA (3 : Nat) (AV.sl SK.sh (List.map encB bs)) (AV.int IntKind.i64 (↑i : Int)) = some (AV.ref (encB b).cells) from idx_row hd (by rfl)) <| .load (show loadA true (3 : Nat) { boxes := [AV.str p.name, AV.str p.owner, AV.int IntKind.i64 p.prio, AV.sl SK.sh (List.map encA p.need), AV.sl SK.sh (List.map encP p.labels), AV.sl SK.sh (List.map encM p.sel), AV.sl SK.sh (List.map encL p.tols), AV.str p.key, AV.int IntKind.i64 p.most, AV.str p.node, AV.bool p.hold] :: xs, toks := [], loops := [] : Heap } (AV.ref [AV.str b.name, AV.sl SK.sh (List.map encM b.sel), AV.int IntKind.i64 b.floor]) = some (AV.agg [AV.str b.name, AV.sl SK.sh (List.map encM b.sel), AV.int IntKind.i64 b.floor]) from rfl) <| .store (show storeA (3 : Nat) { boxes := [AV.str p.name, AV.str p.owner, AV.int IntKind.i64 p.prio, AV.sl SK.sh (List.map encA p.need), AV.sl SK.sh (List.map encP p.labels), AV.sl SK.sh (List.map encM p.sel), AV.sl SK.sh (List.map encL p.tols), AV.str p.key, AV.int IntKind.i64 p.most, AV.str p.node, AV.bool p.hold] :: (xs ++ [[AV.str [], AV.sl SK.full [], AV.int IntKind.i64 (0 : Int)]]), toks := [], loops := [] : Heap } (AV.ptr ([AV.str p.name, AV.str p.owner, AV.int IntKind.i64 p.prio, AV.sl SK.sh (List.map encA p.need), AV.sl SK.sh (List.map encP p.labels), AV.sl SK.sh (List.map encM p.sel), AV.sl SK.sh (List.map encL p.tols), AV.str p.key, AV.int IntKind.i64 p.most, AV.str p.node, AV.bool p.hold] :: xs).length (0 : Nat)) (AV.agg [AV.str b.name, AV.sl SK.sh (List.map encM b.sel), AV.int IntKind.i64 b.floor]) = some ({ boxes := [AV.str p.name, AV.str p.owner, AV.int IntKind.i64 p.prio, AV.sl SK.sh (List.map encA p.need), AV.sl SK.sh (List.map encP p.labels), AV.sl SK.sh (List.map encM p.sel), AV.sl SK.sh (List.map encL p.tols), AV.str p.key, AV.int IntKind.i64 p.most, AV.str p.node, AV.bool p.hold] :: (xs ++ [[AV.str b.name, AV.sl SK.sh (List.map encM b.sel), AV.int IntKind.i64 b.floor]]), toks := [], loops := [] : Heap }) from store_box2 (cs := [AV.str [], AV.sl SK.full [], AV.int IntKind.i64 (0 : Int)]) (cs' := [AV.str b.name, AV.sl SK.sh (List.map encM b.sel), AV.int IntKind.i64 b.floor]) (by simp) rfl (by simp [List.set_append])) <| .load (show loadA true (3 : Nat) { boxes := [AV.str p.name, AV.str p.owner, AV.int IntKind.i64 p.prio, AV.sl SK.sh (List.map encA p.need), AV.sl SK.sh (List.map encP p.labels), AV.sl SK.sh (List.map encM p.sel), AV.sl SK.sh (List.map encL p.tols), AV.str p.key, AV.int IntKind.i64 p.most, AV.str p.node, AV.bool p.hold] :: (xs ++ [[AV.str b.name, AV.sl SK.sh (List.map encM b.sel), AV.int IntKind.i64 b.floor]]), toks := [], loops := [] : Heap } (AV.ptr ([AV.str p.name, AV.str p.owner, AV.int IntKind.i64 p.prio, AV.sl SK.sh (List.map encA p.need), AV.sl SK.sh (List.map encP p.labels), AV.sl SK.sh (List.map encM p.sel), AV.sl SK.sh (List.map encL p.tols), AV.str p.key, AV.int IntKind.i64 p.most, AV.str p.node, AV.bool p.hold] :: xs).length (0 : Nat)) = some (AV.agg [AV.str b.name, AV.sl SK.sh (List.map encM b.sel), AV.int IntKind.i64 b.floor]) from load_box (cs := [AV.str b.name, AV.sl SK.sh (List.map encM b.sel), AV.int IntKind.i64 b.floor]) (by simp) rfl) <| .load (show loadA true (11 : Nat) { boxes := [AV.str p.name, AV.str p.owner, AV.int IntKind.i64 p.prio, AV.sl SK.sh (List.map encA p.need), AV.sl SK.sh (List.map encP p.labels), AV.sl SK.sh (List.map encM p.sel), AV.sl SK.sh (List.map encL p.tols), AV.str p.key, AV.int IntKind.i64 p.most, AV.str p.node, AV.bool p.hold] :: (xs ++ [[AV.str b.name, AV.sl SK.sh (List.map encM b.sel), AV.int IntKind.i64 b.floor]]), toks := [], loops := [] : Heap } (AV.ptr (0 : Nat) (0 : Nat)) = some (AV.agg [AV.str p.name, AV.str p.owner, AV.int IntKind.i64 p.prio, AV.sl SK.sh (List.map encA p.need), AV.sl SK.sh (List.map encP p.labels), AV.sl SK.sh (List.map encM p.sel), AV.sl SK.sh (List.map encL p.tols), AV.str p.key, AV.int IntKind.i64 p.most, AV.str p.node, AV.bool p.hold]) from load_box (cs := [AV.str p.name, AV.str p.owner, AV.int IntKind.i64 p.prio, AV.sl SK.sh (List.map encA p.need), AV.sl SK.sh (List.map encP p.labels), AV.sl SK.sh (List.map encM p.sel), AV.sl SK.sh (List.map encL p.tols), AV.str p.key, AV.int IntKind.i64 p.most, AV.str p.node, AV.bool p.hold]) (by simp) rfl) <| .callG ([AV.agg [AV.str b.name, AV.sl SK.sh (List.map encM b.sel), AV.int IntKind.i64 b.floor], AV.agg [AV.str p.name, AV.str p.owner, AV.int IntKind.i64 p.prio, AV.sl SK.sh (List.map encA p.need), AV.sl SK.sh (List.map encP p.labels), AV.sl SK.sh (List.map encM p.sel), AV.sl SK.sh (List.map encL p.tols), AV.str p.key, AV.int IntKind.i64 p.most, AV.str p.node, AV.bool p.hold]]) (AV.bool true) (show Gives cfg (66 : FuncId) [encB b, encPd p] (AV.bool true) from hk) ⟨rfl, rfl⟩ ⟨rfl, rfl⟩ <| .tt <| .load (show loadA true (3 : Nat) { boxes := [AV.str p.name, AV.str p.owner, AV.int IntKind.i64 p.prio, AV.sl SK.sh (List.map encA p.need), AV.sl SK.sh (List.map encP p.labels), AV.sl SK.sh (List.map encM p.sel), AV.sl SK.sh (List.map encL p.tols), AV.str p.key, AV.int IntKind.i64 p.most, AV.str p.node, AV.bool p.hold] :: (xs ++ [[AV.str b.name, AV.sl SK.sh (List.map encM b.sel), AV.int IntKind.i64 b.floor]]), toks := [], loops := [] : Heap } (AV.ptr ([AV.str p.name, AV.str p.owner, AV.int IntKind.i64 p.prio, AV.sl SK.sh (List.map encA p.need), AV.sl SK.sh (List.map encP p.labels), AV.sl SK.sh (List.map encM p.sel), AV.sl SK.sh (List.map encL p.tols), AV.str p.key, AV.int IntKind.i64 p.most, AV.str p.node, AV.bool p.hold] :: xs).length (0 : Nat)) = some (AV.agg [AV.str b.name, AV.sl SK.sh (List.map encM b.sel), AV.int IntKind.i64 b.floor]) from load_box (cs := [AV.str b.name, AV.sl SK.sh (List.map encM b.sel), AV.int IntKind.i64 b.floor]) (by simp) rfl) <| .callG ([AV.agg [AV.str b.name, AV.sl SK.sh (List.map encM b.sel), AV.int IntKind.i64 b.floor], AV.sl SK.sh (List.map encPd l)]) (AV.int IntKind.i64 (↑(countB b l) : Int)) (show Gives cfg (21 : FuncId) [encB b, AV.sl SK.sh (List.map encPd l)] (AV.int IntKind.i64 (↑(countB b l) : Int)) from hc) ⟨rfl, rfl⟩ ⟨rfl, rfl⟩ <| .load (show loadA false (1 : Nat) { boxes := [AV.str p.name, AV.str p.owner, AV.int IntKind.i64 p.prio, AV.sl SK.sh (List.map encA p.need), AV.sl SK.sh (List.map encP p.labels), AV.sl SK.sh (List.map encM p.sel), AV.sl SK.sh (List.map encL p.tols), AV.str p.key, AV.int IntKind.i64 p.most, AV.str p.node, AV.bool p.hold] :: (xs ++ [[AV.str b.name, AV.sl SK.sh (List.map encM b.sel), AV.int IntKind.i64 b.floor]]), toks := [], loops := [] : Heap } (AV.ptr ([AV.str p.name, AV.str p.owner, AV.int IntKind.i64 p.prio, AV.sl SK.sh (List.map encA p.need), AV.sl SK.sh (List.map encP p.labels), AV.sl SK.sh (List.map encM p.sel), AV.sl SK.sh (List.map encL p.tols), AV.str p.key, AV.int IntKind.i64 p.most, AV.str p.node, AV.bool p.hold] :: xs).length (2 : Nat)) = some (AV.int IntKind.i64 b.floor) from load_box (cs := [AV.str b.name, AV.sl SK.sh (List.map encM b.sel), AV.int IntKind.i64 b.floor]) (by simp) rfl) <| .yes (show (decide ((↑(countB b l) : Int) ≤ b.floor)) = true from decide_eq_true (show (↑(countB b l) : Int) ≤ b.floor from (by omega))) <| .load (show loadA false (1 : Nat) { boxes := [AV.str p.name, AV.str p.owner, AV.int IntKind.i64 p.prio, AV.sl SK.sh (List.map encA p.need), AV.sl SK.sh (List.map encP p.labels), AV.sl SK.sh (List.map encM p.sel), AV.sl SK.sh (List.map encL p.tols), AV.str p.key, AV.int IntKind.i64 p.most, AV.str p.node, AV.bool p.hold] :: (xs ++ [[AV.str b.name, AV.sl SK.sh (List.map encM b.sel), AV.int IntKind.i64 b.floor]]), toks := [], loops := [] : Heap } (AV.ptr ([AV.str p.name, AV.str p.owner, AV.int IntKind.i64 p.prio, AV.sl SK.sh (List.map encA p.need), AV.sl SK.sh (List.map encP p.labels), AV.sl SK.sh (List.map encM p.sel), AV.sl SK.sh (List.map encL p.tols), AV.str p.key, AV.int IntKind.i64 p.most, AV.str p.node, AV.bool p.hold] :: xs).length (0 : Nat)) = some (AV.str b.name) from load_box (cs := [AV.str b.name, AV.sl SK.sh (List.map encM b.sel), AV.int IntKind.i64 b.floor]) (by simp) rfl) <| .fin ((ARes.ret (AV.tuple [AV.str b.name, AV.bool false]), { boxes := [AV.str p.name, AV.str p.owner, AV.int IntKind.i64 p.prio, AV.sl SK.sh (List.map encA p.need), AV.sl SK.sh (List.map encP p.labels), AV.sl SK.sh (List.map encM p.sel), AV.sl SK.sh (List.map encL p.tols), AV.str p.key, AV.int IntKind.i64 p.most, AV.str p.node, AV.bool p.hold] :: (xs ++ [[AV.str b.name, AV.sl SK.sh (List.map encM b.sel), AV.int IntKind.i64 b.floor]]), toks := [], loops := [] : Heap })) rfl) (by kernel_rfl)
    · have e : alB l p (b :: post) = alB l p post := by simp [alB, hq]
      rw [e]
      by_cases q1 : cntB b p = true
      · have q2 : ¬ (countB b l : Int) ≤ b.floor := by
          intro h; exact hq (by simp [stopB, q1, h])
        rw [q1] at hk
        exact goG 90 _  hT  (.yes (show (decide ((↑i : Int) < (↑bs.length : Int))) = true from decide_eq_true (show (↑i : Int) < (↑bs.length : Int) from (by omega))) <| .idx (show idxA (3 : Nat) (AV.sl SK.sh (List.map encB bs)) (AV.int IntKind.i64 (↑i : Int)) = some (AV.ref (encB b).cells) from idx_row hd (by rfl)) <| .load (show loadA true (3 : Nat) { boxes := [AV.str p.name, AV.str p.owner, AV.int IntKind.i64 p.prio, AV.sl SK.sh (List.map encA p.need), AV.sl SK.sh (List.map encP p.labels), AV.sl SK.sh (List.map encM p.sel), AV.sl SK.sh (List.map encL p.tols), AV.str p.key, AV.int IntKind.i64 p.most, AV.str p.node, AV.bool p.hold] :: xs, toks := [], loops := [] : Heap } (AV.ref [AV.str b.name, AV.sl SK.sh (List.map encM b.sel), AV.int IntKind.i64 b.floor]) = some (AV.agg [AV.str b.name, AV.sl SK.sh (List.map encM b.sel), AV.int IntKind.i64 b.floor]) from rfl) <| .store (show storeA (3 : Nat) { boxes := [AV.str p.name, AV.str p.owner, AV.int IntKind.i64 p.prio, AV.sl SK.sh (List.map encA p.need), AV.sl SK.sh (List.map encP p.labels), AV.sl SK.sh (List.map encM p.sel), AV.sl SK.sh (List.map encL p.tols), AV.str p.key, AV.int IntKind.i64 p.most, AV.str p.node, AV.bool p.hold] :: (xs ++ [[AV.str [], AV.sl SK.full [], AV.int IntKind.i64 (0 : Int)]]), toks := [], loops := [] : Heap } (AV.ptr ([AV.str p.name, AV.str p.owner, AV.int IntKind.i64 p.prio, AV.sl SK.sh (List.map encA p.need), AV.sl SK.sh (List.map encP p.labels), AV.sl SK.sh (List.map encM p.sel), AV.sl SK.sh (List.map encL p.tols), AV.str p.key, AV.int IntKind.i64 p.most, AV.str p.node, AV.bool p.hold] :: xs).length (0 : Nat)) (AV.agg [AV.str b.name, AV.sl SK.sh (List.map encM b.sel), AV.int IntKind.i64 b.floor]) = some ({ boxes := [AV.str p.name, AV.str p.owner, AV.int IntKind.i64 p.prio, AV.sl SK.sh (List.map encA p.need), AV.sl SK.sh (List.map encP p.labels), AV.sl SK.sh (List.map encM p.sel), AV.sl SK.sh (List.map encL p.tols), AV.str p.key, AV.int IntKind.i64 p.most, AV.str p.node, AV.bool p.hold] :: (xs ++ [[AV.str b.name, AV.sl SK.sh (List.map encM b.sel), AV.int IntKind.i64 b.floor]]), toks := [], loops := [] : Heap }) from store_box2 (cs := [AV.str [], AV.sl SK.full [], AV.int IntKind.i64 (0 : Int)]) (cs' := [AV.str b.name, AV.sl SK.sh (List.map encM b.sel), AV.int IntKind.i64 b.floor]) (by simp) rfl (by simp [List.set_append])) <| .load (show loadA true (3 : Nat) { boxes := [AV.str p.name, AV.str p.owner, AV.int IntKind.i64 p.prio, AV.sl SK.sh (List.map encA p.need), AV.sl SK.sh (List.map encP p.labels), AV.sl SK.sh (List.map encM p.sel), AV.sl SK.sh (List.map encL p.tols), AV.str p.key, AV.int IntKind.i64 p.most, AV.str p.node, AV.bool p.hold] :: (xs ++ [[AV.str b.name, AV.sl SK.sh (List.map encM b.sel), AV.int IntKind.i64 b.floor]]), toks := [], loops := [] : Heap } (AV.ptr ([AV.str p.name, AV.str p.owner, AV.int IntKind.i64 p.prio, AV.sl SK.sh (List.map encA p.need), AV.sl SK.sh (List.map encP p.labels), AV.sl SK.sh (List.map encM p.sel), AV.sl SK.sh (List.map encL p.tols), AV.str p.key, AV.int IntKind.i64 p.most, AV.str p.node, AV.bool p.hold] :: xs).length (0 : Nat)) = some (AV.agg [AV.str b.name, AV.sl SK.sh (List.map encM b.sel), AV.int IntKind.i64 b.floor]) from load_box (cs := [AV.str b.name, AV.sl SK.sh (List.map encM b.sel), AV.int IntKind.i64 b.floor]) (by simp) rfl) <| .load (show loadA true (11 : Nat) { boxes := [AV.str p.name, AV.str p.owner, AV.int IntKind.i64 p.prio, AV.sl SK.sh (List.map encA p.need), AV.sl SK.sh (List.map encP p.labels), AV.sl SK.sh (List.map encM p.sel), AV.sl SK.sh (List.map encL p.tols), AV.str p.key, AV.int IntKind.i64 p.most, AV.str p.node, AV.bool p.hold] :: (xs ++ [[AV.str b.name, AV.sl SK.sh (List.map encM b.sel), AV.int IntKind.i64 b.floor]]), toks := [], loops := [] : Heap } (AV.ptr (0 : Nat) (0 : Nat)) = some (AV.agg [AV.str p.name, AV.str p.owner, AV.int IntKind.i64 p.prio, AV.sl SK.sh (List.map encA p.need), AV.sl SK.sh (List.map encP p.labels), AV.sl SK.sh (List.map encM p.sel), AV.sl SK.sh (List.map encL p.tols), AV.str p.key, AV.int IntKind.i64 p.most, AV.str p.node, AV.bool p.hold]) from load_box (cs := [AV.str p.name, AV.str p.owner, AV.int IntKind.i64 p.prio, AV.sl SK.sh (List.map encA p.need), AV.sl SK.sh (List.map encP p.labels), AV.sl SK.sh (List.map encM p.sel), AV.sl SK.sh (List.map encL p.tols), AV.str p.key, AV.int IntKind.i64 p.most, AV.str p.node, AV.bool p.hold]) (by simp) rfl) <| .callG ([AV.agg [AV.str b.name, AV.sl SK.sh (List.map encM b.sel), AV.int IntKind.i64 b.floor], AV.agg [AV.str p.name, AV.str p.owner, AV.int IntKind.i64 p.prio, AV.sl SK.sh (List.map encA p.need), AV.sl SK.sh (List.map encP p.labels), AV.sl SK.sh (List.map encM p.sel), AV.sl SK.sh (List.map encL p.tols), AV.str p.key, AV.int IntKind.i64 p.most, AV.str p.node, AV.bool p.hold]]) (AV.bool true) (show Gives cfg (66 : FuncId) [encB b, encPd p] (AV.bool true) from hk) ⟨rfl, rfl⟩ ⟨rfl, rfl⟩ <| .tt <| .load (show loadA true (3 : Nat) { boxes := [AV.str p.name, AV.str p.owner, AV.int IntKind.i64 p.prio, AV.sl SK.sh (List.map encA p.need), AV.sl SK.sh (List.map encP p.labels), AV.sl SK.sh (List.map encM p.sel), AV.sl SK.sh (List.map encL p.tols), AV.str p.key, AV.int IntKind.i64 p.most, AV.str p.node, AV.bool p.hold] :: (xs ++ [[AV.str b.name, AV.sl SK.sh (List.map encM b.sel), AV.int IntKind.i64 b.floor]]), toks := [], loops := [] : Heap } (AV.ptr ([AV.str p.name, AV.str p.owner, AV.int IntKind.i64 p.prio, AV.sl SK.sh (List.map encA p.need), AV.sl SK.sh (List.map encP p.labels), AV.sl SK.sh (List.map encM p.sel), AV.sl SK.sh (List.map encL p.tols), AV.str p.key, AV.int IntKind.i64 p.most, AV.str p.node, AV.bool p.hold] :: xs).length (0 : Nat)) = some (AV.agg [AV.str b.name, AV.sl SK.sh (List.map encM b.sel), AV.int IntKind.i64 b.floor]) from load_box (cs := [AV.str b.name, AV.sl SK.sh (List.map encM b.sel), AV.int IntKind.i64 b.floor]) (by simp) rfl) <| .callG ([AV.agg [AV.str b.name, AV.sl SK.sh (List.map encM b.sel), AV.int IntKind.i64 b.floor], AV.sl SK.sh (List.map encPd l)]) (AV.int IntKind.i64 (↑(countB b l) : Int)) (show Gives cfg (21 : FuncId) [encB b, AV.sl SK.sh (List.map encPd l)] (AV.int IntKind.i64 (↑(countB b l) : Int)) from hc) ⟨rfl, rfl⟩ ⟨rfl, rfl⟩ <| .load (show loadA false (1 : Nat) { boxes := [AV.str p.name, AV.str p.owner, AV.int IntKind.i64 p.prio, AV.sl SK.sh (List.map encA p.need), AV.sl SK.sh (List.map encP p.labels), AV.sl SK.sh (List.map encM p.sel), AV.sl SK.sh (List.map encL p.tols), AV.str p.key, AV.int IntKind.i64 p.most, AV.str p.node, AV.bool p.hold] :: (xs ++ [[AV.str b.name, AV.sl SK.sh (List.map encM b.sel), AV.int IntKind.i64 b.floor]]), toks := [], loops := [] : Heap } (AV.ptr ([AV.str p.name, AV.str p.owner, AV.int IntKind.i64 p.prio, AV.sl SK.sh (List.map encA p.need), AV.sl SK.sh (List.map encP p.labels), AV.sl SK.sh (List.map encM p.sel), AV.sl SK.sh (List.map encL p.tols), AV.str p.key, AV.int IntKind.i64 p.most, AV.str p.node, AV.bool p.hold] :: xs).length (2 : Nat)) = some (AV.int IntKind.i64 b.floor) from load_box (cs := [AV.str b.name, AV.sl SK.sh (List.map encM b.sel), AV.int IntKind.i64 b.floor]) (by simp) rfl) <| .no (show (decide ((↑(countB b l) : Int) ≤ b.floor)) = false from decide_eq_false (show ¬ ((↑(countB b l) : Int) ≤ b.floor) from (by omega))) <| .bin (show binA BinOp.add (AV.int IntKind.i64 (↑i : Int)) (AV.int IntKind.i64 (1 : Int)) = some (AV.int IntKind.i64 (↑(i + (1 : Nat)) : Int)) from inc_i (by omega)) <| .cutQ k25_0 [(1, AV.sl SK.sh (List.map encPd l)), (8, AV.ptr (0 : Nat) (0 : Nat)), (20, AV.sl SK.sh (List.map encB bs)), (21, AV.int IntKind.i64 (↑bs.length : Int)), (22, AV.int IntKind.i64 (↑(i + (1 : Nat)) : Int))] ({ boxes := [AV.str p.name, AV.str p.owner, AV.int IntKind.i64 p.prio, AV.sl SK.sh (List.map encA p.need), AV.sl SK.sh (List.map encP p.labels), AV.sl SK.sh (List.map encM p.sel), AV.sl SK.sh (List.map encL p.tols), AV.str p.key, AV.int IntKind.i64 p.most, AV.str p.node, AV.bool p.hold] :: (xs ++ [[AV.str b.name, AV.sl SK.sh (List.map encM b.sel), AV.int IntKind.i64 b.floor]]), toks := [], loops := [] : Heap }) (fun T hT => (ih (i + (1 : Nat)) (xs ++ [[AV.str b.name, AV.sl SK.sh (List.map encM b.sel), AV.int IntKind.i64 b.floor]]) hnx T hT))) (by kernel_rfl)
      · rw [Bool.eq_false_iff.2 q1] at hk
        exact goG 90 _  hT  (.yes (show (decide ((↑i : Int) < (↑bs.length : Int))) = true from decide_eq_true (show (↑i : Int) < (↑bs.length : Int) from (by omega))) <| .idx (show idxA (3 : Nat) (AV.sl SK.sh (List.map encB bs)) (AV.int IntKind.i64 (↑i : Int)) = some (AV.ref (encB b).cells) from idx_row hd (by rfl)) <| .load (show loadA true (3 : Nat) { boxes := [AV.str p.name, AV.str p.owner, AV.int IntKind.i64 p.prio, AV.sl SK.sh (List.map encA p.need), AV.sl SK.sh (List.map encP p.labels), AV.sl SK.sh (List.map encM p.sel), AV.sl SK.sh (List.map encL p.tols), AV.str p.key, AV.int IntKind.i64 p.most, AV.str p.node, AV.bool p.hold] :: xs, toks := [], loops := [] : Heap } (AV.ref [AV.str b.name, AV.sl SK.sh (List.map encM b.sel), AV.int IntKind.i64 b.floor]) = some (AV.agg [AV.str b.name, AV.sl SK.sh (List.map encM b.sel), AV.int IntKind.i64 b.floor]) from rfl) <| .store (show storeA (3 : Nat) { boxes := [AV.str p.name, AV.str p.owner, AV.int IntKind.i64 p.prio, AV.sl SK.sh (List.map encA p.need), AV.sl SK.sh (List.map encP p.labels), AV.sl SK.sh (List.map encM p.sel), AV.sl SK.sh (List.map encL p.tols), AV.str p.key, AV.int IntKind.i64 p.most, AV.str p.node, AV.bool p.hold] :: (xs ++ [[AV.str [], AV.sl SK.full [], AV.int IntKind.i64 (0 : Int)]]), toks := [], loops := [] : Heap } (AV.ptr ([AV.str p.name, AV.str p.owner, AV.int IntKind.i64 p.prio, AV.sl SK.sh (List.map encA p.need), AV.sl SK.sh (List.map encP p.labels), AV.sl SK.sh (List.map encM p.sel), AV.sl SK.sh (List.map encL p.tols), AV.str p.key, AV.int IntKind.i64 p.most, AV.str p.node, AV.bool p.hold] :: xs).length (0 : Nat)) (AV.agg [AV.str b.name, AV.sl SK.sh (List.map encM b.sel), AV.int IntKind.i64 b.floor]) = some ({ boxes := [AV.str p.name, AV.str p.owner, AV.int IntKind.i64 p.prio, AV.sl SK.sh (List.map encA p.need), AV.sl SK.sh (List.map encP p.labels), AV.sl SK.sh (List.map encM p.sel), AV.sl SK.sh (List.map encL p.tols), AV.str p.key, AV.int IntKind.i64 p.most, AV.str p.node, AV.bool p.hold] :: (xs ++ [[AV.str b.name, AV.sl SK.sh (List.map encM b.sel), AV.int IntKind.i64 b.floor]]), toks := [], loops := [] : Heap }) from store_box2 (cs := [AV.str [], AV.sl SK.full [], AV.int IntKind.i64 (0 : Int)]) (cs' := [AV.str b.name, AV.sl SK.sh (List.map encM b.sel), AV.int IntKind.i64 b.floor]) (by simp) rfl (by simp [List.set_append])) <| .load (show loadA true (3 : Nat) { boxes := [AV.str p.name, AV.str p.owner, AV.int IntKind.i64 p.prio, AV.sl SK.sh (List.map encA p.need), AV.sl SK.sh (List.map encP p.labels), AV.sl SK.sh (List.map encM p.sel), AV.sl SK.sh (List.map encL p.tols), AV.str p.key, AV.int IntKind.i64 p.most, AV.str p.node, AV.bool p.hold] :: (xs ++ [[AV.str b.name, AV.sl SK.sh (List.map encM b.sel), AV.int IntKind.i64 b.floor]]), toks := [], loops := [] : Heap } (AV.ptr ([AV.str p.name, AV.str p.owner, AV.int IntKind.i64 p.prio, AV.sl SK.sh (List.map encA p.need), AV.sl SK.sh (List.map encP p.labels), AV.sl SK.sh (List.map encM p.sel), AV.sl SK.sh (List.map encL p.tols), AV.str p.key, AV.int IntKind.i64 p.most, AV.str p.node, AV.bool p.hold] :: xs).length (0 : Nat)) = some (AV.agg [AV.str b.name, AV.sl SK.sh (List.map encM b.sel), AV.int IntKind.i64 b.floor]) from load_box (cs := [AV.str b.name, AV.sl SK.sh (List.map encM b.sel), AV.int IntKind.i64 b.floor]) (by simp) rfl) <| .load (show loadA true (11 : Nat) { boxes := [AV.str p.name, AV.str p.owner, AV.int IntKind.i64 p.prio, AV.sl SK.sh (List.map encA p.need), AV.sl SK.sh (List.map encP p.labels), AV.sl SK.sh (List.map encM p.sel), AV.sl SK.sh (List.map encL p.tols), AV.str p.key, AV.int IntKind.i64 p.most, AV.str p.node, AV.bool p.hold] :: (xs ++ [[AV.str b.name, AV.sl SK.sh (List.map encM b.sel), AV.int IntKind.i64 b.floor]]), toks := [], loops := [] : Heap } (AV.ptr (0 : Nat) (0 : Nat)) = some (AV.agg [AV.str p.name, AV.str p.owner, AV.int IntKind.i64 p.prio, AV.sl SK.sh (List.map encA p.need), AV.sl SK.sh (List.map encP p.labels), AV.sl SK.sh (List.map encM p.sel), AV.sl SK.sh (List.map encL p.tols), AV.str p.key, AV.int IntKind.i64 p.most, AV.str p.node, AV.bool p.hold]) from load_box (cs := [AV.str p.name, AV.str p.owner, AV.int IntKind.i64 p.prio, AV.sl SK.sh (List.map encA p.need), AV.sl SK.sh (List.map encP p.labels), AV.sl SK.sh (List.map encM p.sel), AV.sl SK.sh (List.map encL p.tols), AV.str p.key, AV.int IntKind.i64 p.most, AV.str p.node, AV.bool p.hold]) (by simp) rfl) <| .callG ([AV.agg [AV.str b.name, AV.sl SK.sh (List.map encM b.sel), AV.int IntKind.i64 b.floor], AV.agg [AV.str p.name, AV.str p.owner, AV.int IntKind.i64 p.prio, AV.sl SK.sh (List.map encA p.need), AV.sl SK.sh (List.map encP p.labels), AV.sl SK.sh (List.map encM p.sel), AV.sl SK.sh (List.map encL p.tols), AV.str p.key, AV.int IntKind.i64 p.most, AV.str p.node, AV.bool p.hold]]) (AV.bool false) (show Gives cfg (66 : FuncId) [encB b, encPd p] (AV.bool false) from hk) ⟨rfl, rfl⟩ ⟨rfl, rfl⟩ <| .ff <| .ff <| .bin (show binA BinOp.add (AV.int IntKind.i64 (↑i : Int)) (AV.int IntKind.i64 (1 : Int)) = some (AV.int IntKind.i64 (↑(i + (1 : Nat)) : Int)) from inc_i (by omega)) <| .cutQ k25_0 [(1, AV.sl SK.sh (List.map encPd l)), (8, AV.ptr (0 : Nat) (0 : Nat)), (20, AV.sl SK.sh (List.map encB bs)), (21, AV.int IntKind.i64 (↑bs.length : Int)), (22, AV.int IntKind.i64 (↑(i + (1 : Nat)) : Int))] ({ boxes := [AV.str p.name, AV.str p.owner, AV.int IntKind.i64 p.prio, AV.sl SK.sh (List.map encA p.need), AV.sl SK.sh (List.map encP p.labels), AV.sl SK.sh (List.map encM p.sel), AV.sl SK.sh (List.map encL p.tols), AV.str p.key, AV.int IntKind.i64 p.most, AV.str p.node, AV.bool p.hold] :: (xs ++ [[AV.str b.name, AV.sl SK.sh (List.map encM b.sel), AV.int IntKind.i64 b.floor]]), toks := [], loops := [] : Heap }) (fun T hT => (ih (i + (1 : Nat)) (xs ++ [[AV.str b.name, AV.sl SK.sh (List.map encM b.sel), AV.int IntKind.i64 b.floor]]) hnx T hT))) (by kernel_rfl)
theorem al_any (bs : List Bud) (l : List Pod) (s : List UInt8) (hb : bs.length ≤ 20) (hn : l.length < 9223372036854775807) (hl : ∀ x ∈ l, x.labels.length < 9223372036854775807) (hs : ∀ b ∈ bs, b.sel.length < 9223372036854775807) : Gives cfg 25 [.sl .sh (bs.map encB), .sl .sh (l.map encPd), .str s] (alV (allowsB bs l s)) := by
  refine Gives.run (l25 _ _) ?_
  have f := findPd_any l s hn
  unfold allowsB
  cases ho : findG Pod.name l s with
  | none =>
    rw [ho] at f
    have f' : Gives cfg 48 [.sl .sh (l.map encPd), .str s] (.tuple [.agg findPdZ, .bool false]) := f
    exact goG 90 []  trivial  (.callG ([AV.sl SK.sh (List.map encPd l), AV.str s]) (AV.tuple [AV.agg [AV.str [], AV.str [], AV.int IntKind.i64 (0 : Int), AV.sl SK.sh [], AV.sl SK.sh [], AV.sl SK.sh [], AV.sl SK.sh [], AV.str [], AV.int IntKind.i64 (0 : Int), AV.str [], AV.bool false], AV.bool false]) (show Gives cfg (48 : FuncId) [AV.sl SK.sh (List.map encPd l), AV.str s] (AV.tuple [AV.agg findPdZ, AV.bool false]) from f') ⟨rfl, rfl⟩ ⟨rfl, rfl⟩ <| .tt <| .fin ((ARes.ret (AV.tuple [AV.str [], AV.bool true]), { boxes := [[AV.str [], AV.str [], AV.int IntKind.i64 (0 : Int), AV.sl SK.sh [], AV.sl SK.sh [], AV.sl SK.sh [], AV.sl SK.sh [], AV.str [], AV.int IntKind.i64 (0 : Int), AV.str [], AV.bool false]], toks := [], loops := [] : Heap })) rfl) (by kernel_rfl)
  | some p =>
    rw [ho] at f
    have f' : Gives cfg 48 [.sl .sh (l.map encPd), .str s] (.tuple [encPd p, .bool true]) := f
    have h := al_any_loop bs l p hb hn hl (hl p (findG_mem ho)) hs bs 0 [] rfl
    exact goG 90 []  trivial  (.callG ([AV.sl SK.sh (List.map encPd l), AV.str s]) (AV.tuple [AV.agg [AV.str p.name, AV.str p.owner, AV.int IntKind.i64 p.prio, AV.sl SK.sh (List.map encA p.need), AV.sl SK.sh (List.map encP p.labels), AV.sl SK.sh (List.map encM p.sel), AV.sl SK.sh (List.map encL p.tols), AV.str p.key, AV.int IntKind.i64 p.most, AV.str p.node, AV.bool p.hold], AV.bool true]) (show Gives cfg (48 : FuncId) [AV.sl SK.sh (List.map encPd l), AV.str s] (AV.tuple [encPd p, AV.bool true]) from f') ⟨rfl, rfl⟩ ⟨rfl, rfl⟩ <| .ff <| .len (show lenA false (AV.sl SK.sh (List.map encB bs)) = some (AV.int IntKind.i64 (↑bs.length : Int)) from len_map _) <| .cutQ k25_0 [(1, AV.sl SK.sh (List.map encPd l)), (8, AV.ptr (0 : Nat) (0 : Nat)), (20, AV.sl SK.sh (List.map encB bs)), (21, AV.int IntKind.i64 (↑bs.length : Int)), (22, AV.int IntKind.i64 (0 : Int))] ({ boxes := [[AV.str p.name, AV.str p.owner, AV.int IntKind.i64 p.prio, AV.sl SK.sh (List.map encA p.need), AV.sl SK.sh (List.map encP p.labels), AV.sl SK.sh (List.map encM p.sel), AV.sl SK.sh (List.map encL p.tols), AV.str p.key, AV.int IntKind.i64 p.most, AV.str p.node, AV.bool p.hold]], toks := [], loops := [] : Heap }) (fun T hT => (h T hT))) (by kernel_rfl)
end Go.Aa.T

set_option linter.unusedVariables false
set_option linter.unusedSimpArgs false
set_option maxRecDepth 100000
namespace Go.Aa.T
open Go.Aa Go.Proofs
theorem ckAl_all {X : Type} {ck : X → Int} {nm : X → List UInt8} {s : List X} : ∀ {post : List X} {i : Nat}, ckAl ck nm s i post = 0 → ∀ x ∈ post, ck x = 0
  | [], _, _ => by simp
  | x :: post, i, h => by
    unfold ckAl at h
    split at h
    · rename_i hx
      split at h
      · cases h
      · intro y hy
        rcases List.mem_cons.1 hy with rfl | hy
        · exact hx
        · exact ckAl_all h y hy
    · rename_i hx; exact absurd h hx
theorem ckAll_all {X : Type} {most : Nat} {ck : X → Int} {nm : X → List UInt8} {s : List X} (h : ckAll most ck nm s = 0) : s.length ≤ most ∧ ∀ x ∈ s, ck x = 0 := by
  unfold ckAll at h
  split at h
  · rename_i hl; exact ⟨hl, ckAl_all h⟩
  · cases h
theorem known13' : Gives cfg 13 [] (.bool true) := by
  obtain ⟨H, h⟩ := known_ret13
  exact Gives.of h
end Go.Aa.T

set_option linter.unusedVariables false
set_option linter.unusedSimpArgs false
set_option maxRecDepth 100000
namespace Go.Aa.T
open Go.Aa Go.Proofs
theorem ofAz_loop (l : List Amount) (hn : l.length * 24 ≤ 140737488355328) : ∀ (post : List Amount) (i : Nat) (acc : List AV) (hd : l.drop i = post) (ha : acc.length = i) (hl : lenOk 2 acc = true) (T : Env) (hT : Has T [(0, .sl .sh (l.map encA)), (3, rowS Heap.nil acc), (4, .int .i64 i)]),
    Goes cfg a73 k73_0 T (rowH Heap.nil acc) (IsRet (rowS Heap.nil (acc ++ post.map encA))) := by
  intro post
  induction post with
  | nil =>
    intro i acc hd ha hl T hT
    have hge := drop_ge hd
    exact goG 60 _  hT  (.len (show lenA false (AV.sl SK.sh (List.map encA l)) = some (AV.int IntKind.i64 (↑l.length : Int)) from len_map _) <| .no (show (decide ((↑i : Int) < (↑l.length : Int))) = false from decide_eq_false (show ¬ ((↑i : Int) < (↑l.length : Int)) from (by omega))) <| .fin ((ARes.ret (rowS Heap.nil acc), rowH Heap.nil acc)) (by simp [IsRet])) (by kernel_rfl)
  | cons x post ih =>
    intro i acc hd ha hl T hT
    have hlt := drop_lt hd
    have hnx := drop_next hd
    exact goG 60 _  hT  (.len (show lenA false (AV.sl SK.sh (List.map encA l)) = some (AV.int IntKind.i64 (↑l.length : Int)) from len_map _) <| .yes (show (decide ((↑i : Int) < (↑l.length : Int))) = true from decide_eq_true (show (↑i : Int) < (↑l.length : Int) from (by simp; omega))) <| .idx (show idxA (2 : Nat) (AV.sl SK.sh (List.map encA l)) (AV.int IntKind.i64 (↑i : Int)) = some (AV.ref (encA x).cells) from idx_row hd (by rfl)) <| .load (show loadA false (1 : Nat) (rowH Heap.nil acc) (AV.ref [AV.str x.name]) = some (AV.str x.name) from rfl) <| .idx (show idxA (2 : Nat) (AV.sl SK.sh (List.map encA l)) (AV.int IntKind.i64 (↑i : Int)) = some (AV.ref (encA x).cells) from idx_row hd (by rfl)) <| .load (show loadA false (1 : Nat) (rowH Heap.nil acc) (AV.ref [AV.int IntKind.i64 x.n]) = some (AV.int IntKind.i64 x.n) from rfl) <| .append (show appendA (2 : Nat) (24 : Nat) (rowH Heap.nil acc) (rowS Heap.nil acc) (AV.sl SK.full [AV.agg [AV.str x.name, AV.int IntKind.i64 x.n]]) = some ((rowS Heap.nil (acc ++ [AV.agg [AV.str x.name, AV.int IntKind.i64 x.n]]), rowH Heap.nil (acc ++ [AV.agg [AV.str x.name, AV.int IntKind.i64 x.n]]))) from row_append (by omega) hl (by rfl) (by rfl)) <| .bin (show binA BinOp.add (AV.int IntKind.i64 (↑i : Int)) (AV.int IntKind.i64 (1 : Int)) = some (AV.int IntKind.i64 (↑(i + (1 : Nat)) : Int)) from inc_i (by omega)) <| .cutQ k73_0 [(0, AV.sl SK.sh (List.map encA l)), (3, rowS Heap.nil (acc ++ [AV.agg [AV.str x.name, AV.int IntKind.i64 x.n]])), (4, AV.int IntKind.i64 (↑(i + (1 : Nat)) : Int))] (rowH Heap.nil (acc ++ [AV.agg [AV.str x.name, AV.int IntKind.i64 x.n]])) (fun T hT => (ih (i + (1 : Nat)) (acc ++ [AV.agg [AV.str x.name, AV.int IntKind.i64 x.n]]) hnx (by simp; omega) (by exact lenOk_snoc (by assumption) rfl) T hT).to (by simp [encA]))) (by kernel_rfl)
theorem ofAz_any (l : List Amount) (hn : l.length * 24 ≤ 140737488355328) : Gives cfg 73 [.sl .sh (l.map encA)] (rowS Heap.nil (l.map encA)) := by
  refine Gives.run (l73 _ _) ?_
  have h := ofAz_loop l hn l 0 [] rfl rfl rfl
  exact goG 60 []  trivial  (.cutQ k73_0 [(0, AV.sl SK.sh (List.map encA l)), (3, AV.sl SK.full []), (4, AV.int IntKind.i64 (0 : Int))] ({ boxes := [], toks := [], loops := [] : Heap }) (fun T hT => (h T hT))) (by kernel_rfl)
theorem ofPz_loop (l : List Pair) (hn : l.length * 32 ≤ 140737488355328) : ∀ (post : List Pair) (i : Nat) (acc : List AV) (hd : l.drop i = post) (ha : acc.length = i) (hl : lenOk 2 acc = true) (T : Env) (hT : Has T [(0, .sl .sh (l.map encP)), (3, rowS Heap.nil acc), (4, .int .i64 i)]),
    Goes cfg a74 k74_0 T (rowH Heap.nil acc) (IsRet (rowS Heap.nil (acc ++ post.map encP))) := by
  intro post
  induction post with
  | nil =>
    intro i acc hd ha hl T hT
    have hge := drop_ge hd
    exact goG 60 _  hT  (.len (show lenA false (AV.sl SK.sh (List.map encP l)) = some (AV.int IntKind.i64 (↑l.length : Int)) from len_map _) <| .no (show (decide ((↑i : Int) < (↑l.length : Int))) = false from decide_eq_false (show ¬ ((↑i : Int) < (↑l.length : Int)) from (by omega))) <| .fin ((ARes.ret (rowS Heap.nil acc), rowH Heap.nil acc)) (by simp [IsRet])) (by kernel_rfl)
  | cons x post ih =>
    intro i acc hd ha hl T hT
    have hlt := drop_lt hd
    have hnx := drop_next hd
    exact goG 60 _  hT  (.len (show lenA false (AV.sl SK.sh (List.map encP l)) = some (AV.int IntKind.i64 (↑l.length : Int)) from len_map _) <| .yes (show (decide ((↑i : Int) < (↑l.length : Int))) = true from decide_eq_true (show (↑i : Int) < (↑l.length : Int) from (by simp; omega))) <| .idx (show idxA (2 : Nat) (AV.sl SK.sh (List.map encP l)) (AV.int IntKind.i64 (↑i : Int)) = some (AV.ref (encP x).cells) from idx_row hd (by rfl)) <| .load (show loadA false (1 : Nat) (rowH Heap.nil acc) (AV.ref [AV.str x.key]) = some (AV.str x.key) from rfl) <| .idx (show idxA (2 : Nat) (AV.sl SK.sh (List.map encP l)) (AV.int IntKind.i64 (↑i : Int)) = some (AV.ref (encP x).cells) from idx_row hd (by rfl)) <| .load (show loadA false (1 : Nat) (rowH Heap.nil acc) (AV.ref [AV.str x.val]) = some (AV.str x.val) from rfl) <| .append (show appendA (2 : Nat) (32 : Nat) (rowH Heap.nil acc) (rowS Heap.nil acc) (AV.sl SK.full [AV.agg [AV.str x.key, AV.str x.val]]) = some ((rowS Heap.nil (acc ++ [AV.agg [AV.str x.key, AV.str x.val]]), rowH Heap.nil (acc ++ [AV.agg [AV.str x.key, AV.str x.val]]))) from row_append (by omega) hl (by rfl) (by rfl)) <| .bin (show binA BinOp.add (AV.int IntKind.i64 (↑i : Int)) (AV.int IntKind.i64 (1 : Int)) = some (AV.int IntKind.i64 (↑(i + (1 : Nat)) : Int)) from inc_i (by omega)) <| .cutQ k74_0 [(0, AV.sl SK.sh (List.map encP l)), (3, rowS Heap.nil (acc ++ [AV.agg [AV.str x.key, AV.str x.val]])), (4, AV.int IntKind.i64 (↑(i + (1 : Nat)) : Int))] (rowH Heap.nil (acc ++ [AV.agg [AV.str x.key, AV.str x.val]])) (fun T hT => (ih (i + (1 : Nat)) (acc ++ [AV.agg [AV.str x.key, AV.str x.val]]) hnx (by simp; omega) (by exact lenOk_snoc (by assumption) rfl) T hT).to (by simp [encP, Pair.cells]))) (by kernel_rfl)
theorem ofPz_any (l : List Pair) (hn : l.length * 32 ≤ 140737488355328) : Gives cfg 74 [.sl .sh (l.map encP)] (rowS Heap.nil (l.map encP)) := by
  refine Gives.run (l74 _ _) ?_
  have h := ofPz_loop l hn l 0 [] rfl rfl rfl
  exact goG 60 []  trivial  (.cutQ k74_0 [(0, AV.sl SK.sh (List.map encP l)), (3, AV.sl SK.full []), (4, AV.int IntKind.i64 (0 : Int))] ({ boxes := [], toks := [], loops := [] : Heap }) (fun T hT => (h T hT))) (by kernel_rfl)
theorem ofMz_loop (l : List Term) (hn : l.length * 40 ≤ 140737488355328) : ∀ (post : List Term) (i : Nat) (acc : List AV) (hd : l.drop i = post) (ha : acc.length = i) (hl : lenOk 3 acc = true) (T : Env) (hT : Has T [(0, .sl .sh (l.map encM)), (3, rowS Heap.nil acc), (4, .int .i64 i)]),
    Goes cfg a120 k120_0 T (rowH Heap.nil acc) (IsRet (rowS Heap.nil (acc ++ post.map encM))) := by
  intro post
  induction post with
  | nil =>
    intro i acc hd ha hl T hT
    have hge := drop_ge hd
    exact goG 60 _  hT  (.len (show lenA false (AV.sl SK.sh (List.map encM l)) = some (AV.int IntKind.i64 (↑l.length : Int)) from len_map _) <| .no (show (decide ((↑i : Int) < (↑l.length : Int))) = false from decide_eq_false (show ¬ ((↑i : Int) < (↑l.length : Int)) from (by omega))) <| .fin ((ARes.ret (rowS Heap.nil acc), rowH Heap.nil acc)) (by simp [IsRet])) (by kernel_rfl)
  | cons x post ih =>
    intro i acc hd ha hl T hT
    have hlt := drop_lt hd
    have hnx := drop_next hd
    exact goG 60 _  hT  (.len (show lenA false (AV.sl SK.sh (List.map encM l)) = some (AV.int IntKind.i64 (↑l.length : Int)) from len_map _) <| .yes (show (decide ((↑i : Int) < (↑l.length : Int))) = true from decide_eq_true (show (↑i : Int) < (↑l.length : Int) from (by simp; omega))) <| .idx (show idxA (3 : Nat) (AV.sl SK.sh (List.map encM l)) (AV.int IntKind.i64 (↑i : Int)) = some (AV.ref (encM x).cells) from idx_row hd (by rfl)) <| .load (show loadA false (1 : Nat) (rowH Heap.nil acc) (AV.ref [AV.int IntKind.i64 x.op]) = some (AV.int IntKind.i64 x.op) from rfl) <| .idx (show idxA (3 : Nat) (AV.sl SK.sh (List.map encM l)) (AV.int IntKind.i64 (↑i : Int)) = some (AV.ref (encM x).cells) from idx_row hd (by rfl)) <| .load (show loadA false (1 : Nat) (rowH Heap.nil acc) (AV.ref [AV.str x.key]) = some (AV.str x.key) from rfl) <| .idx (show idxA (3 : Nat) (AV.sl SK.sh (List.map encM l)) (AV.int IntKind.i64 (↑i : Int)) = some (AV.ref (encM x).cells) from idx_row hd (by rfl)) <| .load (show loadA false (1 : Nat) (rowH Heap.nil acc) (AV.ref [AV.str x.val]) = some (AV.str x.val) from rfl) <| .append (show appendA (3 : Nat) (40 : Nat) (rowH Heap.nil acc) (rowS Heap.nil acc) (AV.sl SK.full [AV.agg [AV.int IntKind.i64 x.op, AV.str x.key, AV.str x.val]]) = some ((rowS Heap.nil (acc ++ [AV.agg [AV.int IntKind.i64 x.op, AV.str x.key, AV.str x.val]]), rowH Heap.nil (acc ++ [AV.agg [AV.int IntKind.i64 x.op, AV.str x.key, AV.str x.val]]))) from row_append (by omega) hl (by rfl) (by rfl)) <| .bin (show binA BinOp.add (AV.int IntKind.i64 (↑i : Int)) (AV.int IntKind.i64 (1 : Int)) = some (AV.int IntKind.i64 (↑(i + (1 : Nat)) : Int)) from inc_i (by omega)) <| .cutQ k120_0 [(0, AV.sl SK.sh (List.map encM l)), (3, rowS Heap.nil (acc ++ [AV.agg [AV.int IntKind.i64 x.op, AV.str x.key, AV.str x.val]])), (4, AV.int IntKind.i64 (↑(i + (1 : Nat)) : Int))] (rowH Heap.nil (acc ++ [AV.agg [AV.int IntKind.i64 x.op, AV.str x.key, AV.str x.val]])) (fun T hT => (ih (i + (1 : Nat)) (acc ++ [AV.agg [AV.int IntKind.i64 x.op, AV.str x.key, AV.str x.val]]) hnx (by simp; omega) (by exact lenOk_snoc (by assumption) rfl) T hT).to (by simp [encM, Term.cells]))) (by kernel_rfl)
theorem ofMz_any (l : List Term) (hn : l.length * 40 ≤ 140737488355328) : Gives cfg 120 [.sl .sh (l.map encM)] (rowS Heap.nil (l.map encM)) := by
  refine Gives.run (l120 _ _) ?_
  have h := ofMz_loop l hn l 0 [] rfl rfl rfl
  exact goG 60 []  trivial  (.cutQ k120_0 [(0, AV.sl SK.sh (List.map encM l)), (3, AV.sl SK.full []), (4, AV.int IntKind.i64 (0 : Int))] ({ boxes := [], toks := [], loops := [] : Heap }) (fun T hT => (h T hT))) (by kernel_rfl)
theorem ofLz_loop (l : List Tol) (hn : l.length * 40 ≤ 140737488355328) : ∀ (post : List Tol) (i : Nat) (acc : List AV) (hd : l.drop i = post) (ha : acc.length = i) (hl : lenOk 3 acc = true) (T : Env) (hT : Has T [(0, .sl .sh (l.map encL)), (3, rowS Heap.nil acc), (4, .int .i64 i)]),
    Goes cfg a121 k121_0 T (rowH Heap.nil acc) (IsRet (rowS Heap.nil (acc ++ post.map encL))) := by
  intro post
  induction post with
  | nil =>
    intro i acc hd ha hl T hT
    have hge := drop_ge hd
    exact goG 60 _  hT  (.len (show lenA false (AV.sl SK.sh (List.map encL l)) = some (AV.int IntKind.i64 (↑l.length : Int)) from len_map _) <| .no (show (decide ((↑i : Int) < (↑l.length : Int))) = false from decide_eq_false (show ¬ ((↑i : Int) < (↑l.length : Int)) from (by omega))) <| .fin ((ARes.ret (rowS Heap.nil acc), rowH Heap.nil acc)) (by simp [IsRet])) (by kernel_rfl)
  | cons x post ih =>
    intro i acc hd ha hl T hT
    have hlt := drop_lt hd
    have hnx := drop_next hd
    exact goG 60 _  hT  (.len (show lenA false (AV.sl SK.sh (List.map encL l)) = some (AV.int IntKind.i64 (↑l.length : Int)) from len_map _) <| .yes (show (decide ((↑i : Int) < (↑l.length : Int))) = true from decide_eq_true (show (↑i : Int) < (↑l.length : Int) from (by simp; omega))) <| .idx (show idxA (3 : Nat) (AV.sl SK.sh (List.map encL l)) (AV.int IntKind.i64 (↑i : Int)) = some (AV.ref (encL x).cells) from idx_row hd (by rfl)) <| .load (show loadA false (1 : Nat) (rowH Heap.nil acc) (AV.ref [AV.str x.key]) = some (AV.str x.key) from rfl) <| .idx (show idxA (3 : Nat) (AV.sl SK.sh (List.map encL l)) (AV.int IntKind.i64 (↑i : Int)) = some (AV.ref (encL x).cells) from idx_row hd (by rfl)) <| .load (show loadA false (1 : Nat) (rowH Heap.nil acc) (AV.ref [AV.str x.val]) = some (AV.str x.val) from rfl) <| .idx (show idxA (3 : Nat) (AV.sl SK.sh (List.map encL l)) (AV.int IntKind.i64 (↑i : Int)) = some (AV.ref (encL x).cells) from idx_row hd (by rfl)) <| .load (show loadA false (1 : Nat) (rowH Heap.nil acc) (AV.ref [AV.bool x.any]) = some (AV.bool x.any) from rfl) <| .append (show appendA (3 : Nat) (40 : Nat) (rowH Heap.nil acc) (rowS Heap.nil acc) (AV.sl SK.full [AV.agg [AV.str x.key, AV.str x.val, AV.bool x.any]]) = some ((rowS Heap.nil (acc ++ [AV.agg [AV.str x.key, AV.str x.val, AV.bool x.any]]), rowH Heap.nil (acc ++ [AV.agg [AV.str x.key, AV.str x.val, AV.bool x.any]]))) from row_append (by omega) hl (by rfl) (by rfl)) <| .bin (show binA BinOp.add (AV.int IntKind.i64 (↑i : Int)) (AV.int IntKind.i64 (1 : Int)) = some (AV.int IntKind.i64 (↑(i + (1 : Nat)) : Int)) from inc_i (by omega)) <| .cutQ k121_0 [(0, AV.sl SK.sh (List.map encL l)), (3, rowS Heap.nil (acc ++ [AV.agg [AV.str x.key, AV.str x.val, AV.bool x.any]])), (4, AV.int IntKind.i64 (↑(i + (1 : Nat)) : Int))] (rowH Heap.nil (acc ++ [AV.agg [AV.str x.key, AV.str x.val, AV.bool x.any]])) (fun T hT => (ih (i + (1 : Nat)) (acc ++ [AV.agg [AV.str x.key, AV.str x.val, AV.bool x.any]]) hnx (by simp; omega) (by exact lenOk_snoc (by assumption) rfl) T hT).to (by simp [encL, Tol.cells]))) (by kernel_rfl)
theorem ofLz_any (l : List Tol) (hn : l.length * 40 ≤ 140737488355328) : Gives cfg 121 [.sl .sh (l.map encL)] (rowS Heap.nil (l.map encL)) := by
  refine Gives.run (l121 _ _) ?_
  have h := ofLz_loop l hn l 0 [] rfl rfl rfl
  exact goG 60 []  trivial  (.cutQ k121_0 [(0, AV.sl SK.sh (List.map encL l)), (3, AV.sl SK.full []), (4, AV.int IntKind.i64 (0 : Int))] ({ boxes := [], toks := [], loops := [] : Heap }) (fun T hT => (h T hT))) (by kernel_rfl)
structure SizePd (p : Pod) : Prop where
  need : p.need.length * 24 ≤ 140737488355328
  labels : p.labels.length * 32 ≤ 140737488355328
  sel : p.sel.length * 40 ≤ 140737488355328
  tols : p.tols.length * 40 ≤ 140737488355328
theorem ofPdz (p : Pod) (m1 : p.need.length * 24 ≤ 140737488355328) (m2 : p.labels.length * 32 ≤ 140737488355328) (m3 : p.sel.length * 40 ≤ 140737488355328) (m4 : p.tols.length * 40 ≤ 140737488355328) : Gives cfg 51 [encPd p] (encPd p) := by
  refine Gives.run (l51 _ _) ?_
  exact goG 120 []  trivial  (.callG ([AV.sl SK.sh (List.map encA p.need)]) (AV.sl SK.sh (List.map encA p.need)) (show Gives cfg (73 : FuncId) [AV.sl SK.sh (List.map encA p.need)] (rowS Heap.nil (List.map encA p.need)) from ofAz_any _ m1) ⟨rfl, rfl⟩ Res.p <| .callG ([AV.sl SK.sh (List.map encP p.labels)]) (AV.sl SK.sh (List.map encP p.labels)) (show Gives cfg (74 : FuncId) [AV.sl SK.sh (List.map encP p.labels)] (rowS Heap.nil (List.map encP p.labels)) from ofPz_any _ m2) ⟨rfl, rfl⟩ Res.p <| .callG ([AV.sl SK.sh (List.map encM p.sel)]) (AV.sl SK.sh (List.map encM p.sel)) (show Gives cfg (120 : FuncId) [AV.sl SK.sh (List.map encM p.sel)] (rowS Heap.nil (List.map encM p.sel)) from ofMz_any _ m3) ⟨rfl, rfl⟩ Res.p <| .callG ([AV.sl SK.sh (List.map encL p.tols)]) (AV.sl SK.sh (List.map encL p.tols)) (show Gives cfg (121 : FuncId) [AV.sl SK.sh (List.map encL p.tols)] (rowS Heap.nil (List.map encL p.tols)) from ofLz_any _ m4) ⟨rfl, rfl⟩ Res.p <| .fin ((ARes.ret (AV.agg [AV.str p.name, AV.str p.owner, AV.int IntKind.i64 p.prio, AV.sl SK.sh (List.map encA p.need), AV.sl SK.sh (List.map encP p.labels), AV.sl SK.sh (List.map encM p.sel), AV.sl SK.sh (List.map encL p.tols), AV.str p.key, AV.int IntKind.i64 p.most, AV.str p.node, AV.bool p.hold]), { boxes := [[AV.str p.name, AV.str p.owner, AV.int IntKind.i64 p.prio, AV.sl SK.sh (List.map encA p.need), AV.sl SK.sh (List.map encP p.labels), AV.sl SK.sh (List.map encM p.sel), AV.sl SK.sh (List.map encL p.tols), AV.str p.key, AV.int IntKind.i64 p.most, AV.str p.node, AV.bool p.hold], [AV.str p.name, AV.str p.owner, AV.int IntKind.i64 p.prio, AV.sl SK.sh (List.map encA p.need), AV.sl SK.sh (List.map encP p.labels), AV.sl SK.sh (List.map encM p.sel), AV.sl SK.sh (List.map encL p.tols), AV.str p.key, AV.int IntKind.i64 p.most, AV.str p.node, AV.bool p.hold]], toks := [], loops := [] : Heap })) rfl) (by kernel_rfl)
theorem ofPdz_any (p : Pod) (h : SizePd p) : Gives cfg 51 [encPd p] (encPd p) := ofPdz p h.need h.labels h.sel h.tols
theorem ofPdsZ_loop (l : List Pod) (hn : l.length ≤ 40) (hf : ∀ x ∈ l, SizePd x) : ∀ (post : List Pod) (i : Nat) (acc : List AV) (hd : l.drop i = post) (ha : acc.length = i) (hl : lenOk 11 acc = true) (T : Env) (hT : Has T [(0, .sl .sh (l.map encPd)), (3, rowS Heap.nil acc), (4, .int .i64 i)]),
    Goes cfg a17 k17_0 T (rowH Heap.nil acc) (IsRet (rowS Heap.nil (acc ++ post.map encPd))) := by
  intro post
  induction post with
  | nil =>
    intro i acc hd ha hl T hT
    have hge := drop_ge hd
    exact goG 60 _  hT  (.len (show lenA false (AV.sl SK.sh (List.map encPd l)) = some (AV.int IntKind.i64 (↑l.length : Int)) from len_map _) <| .no (show (decide ((↑i : Int) < (↑l.length : Int))) = false from decide_eq_false (show ¬ ((↑i : Int) < (↑l.length : Int)) from (by omega))) <| .fin ((ARes.ret (rowS Heap.nil acc), rowH Heap.nil acc)) (by simp [IsRet])) (by kernel_rfl)
  | cons x post ih =>
    intro i acc hd ha hl T hT
    have hlt := drop_lt hd
    have hnx := drop_next hd
    have hx := hf x (drop_mem hd)
    exact goG 60 _  hT  (.len (show lenA false (AV.sl SK.sh (List.map encPd l)) = some (AV.int IntKind.i64 (↑l.length : Int)) from len_map _) <| .yes (show (decide ((↑i : Int) < (↑l.length : Int))) = true from decide_eq_true (show (↑i : Int) < (↑l.length : Int) from (by simp; omega))) <| .idx (show idxA (11 : Nat) (AV.sl SK.sh (List.map encPd l)) (AV.int IntKind.i64 (↑i : Int)) = some (AV.ref (encPd x).cells) from idx_row hd (by rfl)) <| .load (show loadA true (11 : Nat) (rowH Heap.nil acc) (AV.ref [AV.str x.name, AV.str x.owner, AV.int IntKind.i64 x.prio, AV.sl SK.sh (List.map encA x.need), AV.sl SK.sh (List.map encP x.labels), AV.sl SK.sh (List.map encM x.sel), AV.sl SK.sh (List.map encL x.tols), AV.str x.key, AV.int IntKind.i64 x.most, AV.str x.node, AV.bool x.hold]) = some (AV.agg [AV.str x.name, AV.str x.owner, AV.int IntKind.i64 x.prio, AV.sl SK.sh (List.map encA x.need), AV.sl SK.sh (List.map encP x.labels), AV.sl SK.sh (List.map encM x.sel), AV.sl SK.sh (List.map encL x.tols), AV.str x.key, AV.int IntKind.i64 x.most, AV.str x.node, AV.bool x.hold]) from rfl) <| .callG ([AV.agg [AV.str x.name, AV.str x.owner, AV.int IntKind.i64 x.prio, AV.sl SK.sh (List.map encA x.need), AV.sl SK.sh (List.map encP x.labels), AV.sl SK.sh (List.map encM x.sel), AV.sl SK.sh (List.map encL x.tols), AV.str x.key, AV.int IntKind.i64 x.most, AV.str x.node, AV.bool x.hold]]) (AV.agg [AV.str x.name, AV.str x.owner, AV.int IntKind.i64 x.prio, AV.sl SK.sh (List.map encA x.need), AV.sl SK.sh (List.map encP x.labels), AV.sl SK.sh (List.map encM x.sel), AV.sl SK.sh (List.map encL x.tols), AV.str x.key, AV.int IntKind.i64 x.most, AV.str x.node, AV.bool x.hold]) (show Gives cfg (51 : FuncId) [encPd x] (encPd x) from ofPdz_any _ hx) ⟨rfl, rfl⟩ ⟨rfl, rfl⟩ <| .append (show appendA (11 : Nat) (184 : Nat) (rowH Heap.nil acc) (rowS Heap.nil acc) (AV.sl SK.full [AV.agg [AV.str x.name, AV.str x.owner, AV.int IntKind.i64 x.prio, AV.sl SK.sh (List.map encA x.need), AV.sl SK.sh (List.map encP x.labels), AV.sl SK.sh (List.map encM x.sel), AV.sl SK.sh (List.map encL x.tols), AV.str x.key, AV.int IntKind.i64 x.most, AV.str x.node, AV.bool x.hold]]) = some ((rowS Heap.nil (acc ++ [AV.agg [AV.str x.name, AV.str x.owner, AV.int IntKind.i64 x.prio, AV.sl SK.sh (List.map encA x.need), AV.sl SK.sh (List.map encP x.labels), AV.sl SK.sh (List.map encM x.sel), AV.sl SK.sh (List.map encL x.tols), AV.str x.key, AV.int IntKind.i64 x.most, AV.str x.node, AV.bool x.hold]]), rowH Heap.nil (acc ++ [AV.agg [AV.str x.name, AV.str x.owner, AV.int IntKind.i64 x.prio, AV.sl SK.sh (List.map encA x.need), AV.sl SK.sh (List.map encP x.labels), AV.sl SK.sh (List.map encM x.sel), AV.sl SK.sh (List.map encL x.tols), AV.str x.key, AV.int IntKind.i64 x.most, AV.str x.node, AV.bool x.hold]]))) from row_append (by omega) hl (by rfl) (by rfl)) <| .bin (show binA BinOp.add (AV.int IntKind.i64 (↑i : Int)) (AV.int IntKind.i64 (1 : Int)) = some (AV.int IntKind.i64 (↑(i + (1 : Nat)) : Int)) from inc_i (by omega)) <| .cutQ k17_0 [(0, AV.sl SK.sh (List.map encPd l)), (3, rowS Heap.nil (acc ++ [AV.agg [AV.str x.name, AV.str x.owner, AV.int IntKind.i64 x.prio, AV.sl SK.sh (List.map encA x.need), AV.sl SK.sh (List.map encP x.labels), AV.sl SK.sh (List.map encM x.sel), AV.sl SK.sh (List.map encL x.tols), AV.str x.key, AV.int IntKind.i64 x.most, AV.str x.node, AV.bool x.hold]])), (4, AV.int IntKind.i64 (↑(i + (1 : Nat)) : Int))] (rowH Heap.nil (acc ++ [AV.agg [AV.str x.name, AV.str x.owner, AV.int IntKind.i64 x.prio, AV.sl SK.sh (List.map encA x.need), AV.sl SK.sh (List.map encP x.labels), AV.sl SK.sh (List.map encM x.sel), AV.sl SK.sh (List.map encL x.tols), AV.str x.key, AV.int IntKind.i64 x.most, AV.str x.node, AV.bool x.hold]])) (fun T hT => (ih (i + (1 : Nat)) (acc ++ [AV.agg [AV.str x.name, AV.str x.owner, AV.int IntKind.i64 x.prio, AV.sl SK.sh (List.map encA x.need), AV.sl SK.sh (List.map encP x.labels), AV.sl SK.sh (List.map encM x.sel), AV.sl SK.sh (List.map encL x.tols), AV.str x.key, AV.int IntKind.i64 x.most, AV.str x.node, AV.bool x.hold]]) hnx (by simp; omega) (by exact lenOk_snoc (by assumption) rfl) T hT).to (by simp [encPd]))) (by kernel_rfl)
theorem ofPdsZ_any (l : List Pod) (hn : l.length ≤ 40) (hf : ∀ x ∈ l, SizePd x) : Gives cfg 17 [.sl .sh (l.map encPd)] (rowS Heap.nil (l.map encPd)) := by
  refine Gives.run (l17 _ _) ?_
  have h := ofPdsZ_loop l hn hf l 0 [] rfl rfl rfl
  exact goG 60 []  trivial  (.cutQ k17_0 [(0, AV.sl SK.sh (List.map encPd l)), (3, AV.sl SK.full []), (4, AV.int IntKind.i64 (0 : Int))] ({ boxes := [], toks := [], loops := [] : Heap }) (fun T hT => (h T hT))) (by kernel_rfl)

theorem ckAl_ord {X : Type} {ck : X → Int} {nm : X → List UInt8} {s : List X} : ∀ {post : List X} {i : Nat}, ckAl ck nm s i post = 0 → s.drop i = post → ∀ (j : Nat) (x p : X), i ≤ j + 1 → s[j + 1]? = some x → s[j]? = some p → Op.bytesLess (nm p) (nm x) = true
  | [], i, _, hd, j, x, p, hi, hx, hp => by
    have := drop_ge hd
    have h2 : j + 1 < s.length := (List.getElem?_eq_some_iff.1 hx).1
    omega
  | y :: post, i, h, hd, j, x, p, hi, hx, hp => by
    unfold ckAl at h
    split at h
    · split at h
      · cases h
      · rename_i ho
        rcases Nat.lt_or_ge i (j + 1) with hlt | hge
        · exact ckAl_ord h (drop_next hd) j x p (by omega) hx hp
        · have e : i = j + 1 := by omega
          subst e
          have ey : y = x := by
            have := drop_at hd
            rw [hx] at this
            exact (Option.some.inj this).symm
          subst ey
          simp only [ordG, hp, Bool.not_eq_true] at ho
          exact bl_not ho
    · rename_i hx0; exact absurd h hx0
theorem names_lt {X : Type} {most : Nat} {ck : X → Int} {nm : X → List UInt8} {s : List X} (h : ckAll most ck nm s = 0) : ∀ (d i : Nat) (x y : X), s[i]? = some x → s[i + d + 1]? = some y → Op.bytesLess (nm x) (nm y) = true := by
  have h0 : ckAl ck nm s 0 s = 0 := by
    unfold ckAll at h
    split at h
    · exact h
    · cases h
  intro d
  induction d with
  | zero => intro i x y hx hy; exact ckAl_ord h0 rfl i y x (by omega) hy hx
  | succ d ih =>
    intro i x y hx hy
    obtain ⟨z, hz⟩ : ∃ z, s[i + d + 1]? = some z := ⟨s[i + d + 1]'(by have := (List.getElem?_eq_some_iff.1 hy).1; omega), List.getElem?_eq_getElem _⟩
    exact bl_trans (ih i x z hx hz) (ckAl_ord h0 rfl (i + d + 1) y z (by omega) hy hz)
theorem find_at {X : Type} {most : Nat} {ck : X → Int} {nm : X → List UInt8} {s : List X} (h : ckAll most ck nm s = 0) {k : Nat} {p : X} (hp : s[k]? = some p) : findG nm s (nm p) = some p := by
  unfold findG
  have hk := (List.getElem?_eq_some_iff.1 hp).1
  have hpk := (List.getElem?_eq_some_iff.1 hp).2
  rw [List.find?_eq_some_iff_getElem]
  refine ⟨by simp, k, hk, hpk, fun j hj => ?_⟩
  have h1 := names_lt h (k - j - 1) j s[j] p (List.getElem?_eq_getElem _) (by rw [show j + (k - j - 1) + 1 = k by omega]; exact hp)
  simp only [Bool.not_eq_true', beq_eq_false_iff_ne, ne_eq]
  intro e
  rw [e, bl_irrefl] at h1
  cases h1
def lessL {X : Type} (l : List X) (k : Nat) : List X := l.take k ++ l.drop (k + 1)
theorem count_less {l : List Pod} {k : Nat} {p : Pod} (hp : l[k]? = some p) (b : Bud) : countB b l = countB b (lessL l k) + if cntB b p = true then 1 else 0 := by
  have e : l = l.take k ++ p :: l.drop (k + 1) := by
    have hk := (List.getElem?_eq_some_iff.1 hp).1
    have hpk := (List.getElem?_eq_some_iff.1 hp).2
    rw [← hpk, ← List.drop_eq_getElem_cons hk, List.take_append_drop]
  unfold countB lessL
  conv => lhs; rw [e]
  rw [List.countP_append, List.countP_append, List.countP_cons]
  omega
theorem al_yes {l : List Pod} {p : Pod} : ∀ {bs : List Bud}, (alB l p bs).2 = true → ∀ b ∈ bs, stopB l p b = false
  | [], _ => by simp
  | b :: bs, h => by
    unfold alB at h
    split at h
    · cases h
    · rename_i hb
      intro c hc
      rcases List.mem_cons.1 hc with rfl | hc
      · simpa using hb
      · exact al_yes h c hc
theorem al_no {l : List Pod} {p : Pod} : ∀ {bs : List Bud}, (alB l p bs).2 = false → ∃ b ∈ bs, stopB l p b = true
  | [], h => by cases h
  | b :: bs, h => by
    unfold alB at h
    split at h
    · rename_i hb; exact ⟨b, by simp, hb⟩
    · obtain ⟨c, hc, h2⟩ := al_no h
      exact ⟨c, by simp [hc], h2⟩
theorem goes_yes {l : List Pod} {k : Nat} {p : Pod} (hp : l[k]? = some p) {bs : List Bud} (h : (alB l p bs).2 = true) : brB bs (lessL l k) = brB bs l := by
  unfold brB
  congr 1
  refine List.filter_congr fun b hb => ?_
  have hs := al_yes h b hb
  have hc := count_less hp b
  unfold stopB at hs
  by_cases hq : cntB b p = true
  · rw [hq, Bool.true_and, decide_eq_false_iff_not] at hs
    rw [if_pos hq] at hc
    simp only [decide_eq_decide]
    omega
  · rw [if_neg hq] at hc
    rw [hc]; simp
theorem goes_no {l : List Pod} {k : Nat} {p : Pod} (hp : l[k]? = some p) {bs : List Bud} (h : (alB l p bs).2 = false) : 0 < (brB bs (lessL l k)).length := by
  obtain ⟨b, hb, hs⟩ := al_no h
  have hc := count_less hp b
  unfold stopB at hs
  rw [Bool.and_eq_true, decide_eq_true_eq] at hs
  rw [if_pos hs.1] at hc
  unfold brB
  rw [List.length_map]
  refine List.length_pos_of_mem (a := b) (List.mem_filter.2 ⟨hb, ?_⟩)
  simp only [decide_eq_true_eq]
  omega
theorem app_rows {es b : Nat} {H : Heap} {sk : SK} {ys zs : List AV} (h : (ys.length + zs.length) * b ≤ 140737488355328) (hy : lenOk es ys = true) (hz : lenOk es zs = true) (hd : dataOk zs = true) :
    appendA es b (rowH H ys) (rowS H ys) (.sl sk zs) = some (rowS H (ys ++ zs), rowH H (ys ++ zs)) := by
  cases ys with
  | nil => exact app_full (by simpa using h) hz hd
  | cons y ys =>
    have h1 := app_own (es := es) (bytes := b) (t := H.toks.length) (H := { H with toks := H.toks ++ [(y :: ys).length] }) (sk := sk) (xs := y :: ys) (ys := zs) (by simp) h hy hz hd
    simp only [rowS, rowH]
    rw [h1]
    simp [rowS, rowH]
    omega
theorem ckPd_few {p : Pod} (h : ckPd p = 0) : p.labels.length < 9223372036854775807 := by
  have ok := podOk h
  have := ok.labels
  unfold ckS at this
  split at this
  · omega
  · cases this
theorem budgetGoes (bs : List Bud) (l : List Pod) (at' : Nat) (ha : at' < 256) (hz : ∀ x ∈ l, SizePd x) : Gives cfg 4 [.sl .sh (bs.map encB), .sl .sh (l.map encPd), .int .u8 at'] (.bool true) := by
  refine Gives.run (l4 _ _) ?_
  have f1 := fewBs_any bs
  by_cases hb : fewBs bs = true
  · rw [hb] at f1
    have hbl := fewBs_len hb
    have hba := fewBs_all hb
    have b1 := ofBs_any bs hbl hba
    have b2 := ckBs_ref bs
    by_cases h1 : l.length < 1
    · exact goG 120 []  trivial  (.callG ([]) (AV.bool true) (show Gives cfg (13 : FuncId) [] (AV.bool true) from known13') ⟨rfl, rfl⟩ ⟨rfl, rfl⟩ <| .ff <| .callG ([AV.sl SK.sh (List.map encB bs)]) (AV.bool true) (show Gives cfg (14 : FuncId) [AV.sl SK.sh (List.map encB bs)] (AV.bool true) from f1) ⟨rfl, rfl⟩ ⟨rfl, rfl⟩ <| .ff <| .len (show lenA false (AV.sl SK.sh (List.map encPd l)) = some (AV.int IntKind.i64 (↑l.length : Int)) from len_map _) <| .yes (show (decide ((↑l.length : Int) < (1 : Int))) = true from decide_eq_true (show (↑l.length : Int) < (1 : Int) from (by omega))) <| .tt <| .tt <| .tt <| .fin ((ARes.ret (AV.bool true), { boxes := [], toks := [], loops := [] : Heap })) rfl) (by kernel_rfl)
    · by_cases h2 : 40 < l.length
      · exact goG 120 []  trivial  (.callG ([]) (AV.bool true) (show Gives cfg (13 : FuncId) [] (AV.bool true) from known13') ⟨rfl, rfl⟩ ⟨rfl, rfl⟩ <| .ff <| .callG ([AV.sl SK.sh (List.map encB bs)]) (AV.bool true) (show Gives cfg (14 : FuncId) [AV.sl SK.sh (List.map encB bs)] (AV.bool true) from f1) ⟨rfl, rfl⟩ ⟨rfl, rfl⟩ <| .ff <| .len (show lenA false (AV.sl SK.sh (List.map encPd l)) = some (AV.int IntKind.i64 (↑l.length : Int)) from len_map _) <| .no (show (decide ((↑l.length : Int) < (1 : Int))) = false from decide_eq_false (show ¬ ((↑l.length : Int) < (1 : Int)) from (by omega))) <| .len (show lenA false (AV.sl SK.sh (List.map encPd l)) = some (AV.int IntKind.i64 (↑l.length : Int)) from len_map _) <| .yes (show (decide ((40 : Int) < (↑l.length : Int))) = true from decide_eq_true (show (40 : Int) < (↑l.length : Int) from (by omega))) <| .tt <| .tt <| .fin ((ARes.ret (AV.bool true), { boxes := [], toks := [], loops := [] : Heap })) rfl) (by kernel_rfl)
      · by_cases e1 : ckAll 8 ckB Bud.name bs = 0
        · rw [e1] at b2
          have p1 := ofPdsZ_any l (by omega) hz
          have p2 := ckPds_ref l
          by_cases e2 : ckAll 128 ckPd Pod.name l = 0
          · rw [e2] at p2
            have hpk := (ckAll_all e2).2
            have hl : ∀ x ∈ l, x.labels.length < 9223372036854775807 := fun x hx => ckPd_few (hpk x hx)
            have hs : ∀ b ∈ bs, b.sel.length < 9223372036854775807 := fun b h => by
              have := fewB1_sel (hba b h); omega
            generalize hk : at' % l.length = k
            have hkl : k < l.length := by rw [← hk]; exact Nat.mod_lt _ (by omega)
            obtain ⟨p, hp⟩ : ∃ p, l[k]? = some p := ⟨l[k], List.getElem?_eq_getElem hkl⟩
            have cv : convA (.int .i64) (.int .u8 (at' : Int)) = some (.int .i64 (at' : Int)) := conv_i64 (by omega)
            have rm : binA .rem (.int .i64 (at' : Int)) (.int .i64 (l.length : Int)) = some (.int .i64 (k : Int)) := by rw [rem_nat (by omega), hk]
            have w1 := br_any bs l hbl (by omega) hl hs
            have al := al_any bs l p.name hbl (by omega) hl hs
            have ef : findG Pod.name l p.name = some p := find_at e2 hp
            have ea : allowsB bs l p.name = alB l p bs := by unfold allowsB; rw [ef]
            rw [ea] at al
            have hlm : ∀ x ∈ lessL l k, x ∈ l := fun x hx => by
              unfold lessL at hx
              rcases List.mem_append.1 hx with h | h
              · exact List.mem_of_mem_take h
              · exact List.mem_of_mem_drop h
            have hll : (lessL l k).length ≤ l.length := by simp [lessL]; omega
            have w2 := br_any bs (lessL l k) hbl (by omega) (fun x hx => hl x (hlm x hx)) hs
            have hix : idxA 11 (.sl .sh (l.map encPd)) (.int .i64 (k : Nat)) = some (.ref (encPd p).cells) := idx_get hp rfl
            have s1 : sliceA 11 (.sl .sh (l.map encPd)) none (some (.int .i64 (k : Nat))) none = some (.sl .sh ((l.take k).map encPd)) := slice_to (by omega) rfl fun _ => rfl
            have s2 : sliceA 11 (.sl .sh (l.map encPd)) (some (.int .i64 ((k + 1 : Nat) : Int))) none none = some (.sl .sh ((l.drop (k + 1)).map encPd)) := slice_from (by omega) rfl fun _ => rfl
            have a1 : appendA 11 184 Heap.nil (.sl .full []) (.sl .sh ((l.take k).map encPd)) = some (rowS Heap.nil ((l.take k).map encPd), rowH Heap.nil ((l.take k).map encPd)) := app_full (by simp; omega) (lenOk_map fun _ => rfl) (dataOk_map fun _ => rfl)
            have a2 : appendA 11 184 (rowH Heap.nil ((l.take k).map encPd)) (rowS Heap.nil ((l.take k).map encPd)) (.sl .sh ((l.drop (k + 1)).map encPd)) = some (rowS Heap.nil ((lessL l k).map encPd), rowH Heap.nil ((lessL l k).map encPd)) := by
              rw [app_rows (by simp; omega) (lenOk_map fun _ => rfl) (lenOk_map fun _ => rfl) (dataOk_map fun _ => rfl)]
              simp [lessL]
            cases hal : (alB l p bs).2 with
            | true =>
              have ey := goes_yes hp hal
              rw [ey] at w2
              have hn := names_any (brB bs l) (brB bs l) (by
                have : (brB bs l).length ≤ 20 := by
                  simp only [brB, List.length_map]
                  exact Nat.le_trans (List.length_filter_le _ _) hbl
                omega)
              rw [same2_refl eqS_iff] at hn
              generalize alB l p bs = x at al hal
              obtain ⟨x, y⟩ := x
              simp only at hal
              subst hal
              have al' : Gives cfg 25 [.sl .sh (bs.map encB), .sl .sh (l.map encPd), .str p.name] (.tuple [.str x, .bool true]) := al
              generalize brB bs l = z at w1 w2 hn
              exact goG 160 []  trivial  (.callG ([]) (AV.bool true) (show Gives cfg (13 : FuncId) [] (AV.bool true) from known13') ⟨rfl, rfl⟩ ⟨rfl, rfl⟩ <| .ff <| .callG ([AV.sl SK.sh (List.map encB bs)]) (AV.bool true) (show Gives cfg (14 : FuncId) [AV.sl SK.sh (List.map encB bs)] (AV.bool true) from f1) ⟨rfl, rfl⟩ ⟨rfl, rfl⟩ <| .ff <| .len (show lenA false (AV.sl SK.sh (List.map encPd l)) = some (AV.int IntKind.i64 (↑l.length : Int)) from len_map _) <| .no (show (decide ((↑l.length : Int) < (1 : Int))) = false from decide_eq_false (show ¬ ((↑l.length : Int) < (1 : Int)) from (by omega))) <| .len (show lenA false (AV.sl SK.sh (List.map encPd l)) = some (AV.int IntKind.i64 (↑l.length : Int)) from len_map _) <| .no (show (decide ((40 : Int) < (↑l.length : Int))) = false from decide_eq_false (show ¬ ((40 : Int) < (↑l.length : Int)) from (by omega))) <| .callG ([AV.sl SK.sh (List.map encB bs)]) (AV.sl SK.sh (List.map encB bs)) (show Gives cfg (16 : FuncId) [AV.sl SK.sh (List.map encB bs)] (rowS Heap.nil (List.map encB bs)) from b1) ⟨rfl, rfl⟩ Res.p <| .callG ([AV.sl SK.sh (List.map encB bs)]) (AV.int IntKind.i64 (0 : Int)) (show Gives cfg (18 : FuncId) [AV.sl SK.sh (List.map encB bs)] (AV.int IntKind.i64 (0 : Int)) from b2) ⟨rfl, rfl⟩ ⟨rfl, rfl⟩ <| .ff <| .callG ([AV.sl SK.sh (List.map encPd l)]) (AV.sl SK.sh (List.map encPd l)) (show Gives cfg (17 : FuncId) [AV.sl SK.sh (List.map encPd l)] (rowS Heap.nil (List.map encPd l)) from p1) ⟨rfl, rfl⟩ Res.p <| .callG ([AV.sl SK.sh (List.map encPd l)]) (AV.int IntKind.i64 (0 : Int)) (show Gives cfg (20 : FuncId) [AV.sl SK.sh (List.map encPd l)] (AV.int IntKind.i64 (0 : Int)) from p2) ⟨rfl, rfl⟩ ⟨rfl, rfl⟩ <| .ff <| .conv (show convA (CV.int IntKind.i64) (AV.int IntKind.u8 (↑at' : Int)) = some (AV.int IntKind.i64 (↑at' : Int)) from cv) <| .len (show lenA false (AV.sl SK.sh (List.map encPd l)) = some (AV.int IntKind.i64 (↑l.length : Int)) from len_map _) <| .bin (show binA BinOp.rem (AV.int IntKind.i64 (↑at' : Int)) (AV.int IntKind.i64 (↑l.length : Int)) = some (AV.int IntKind.i64 (↑k : Int)) from rm) <| .callG ([AV.sl SK.sh (List.map encB bs), AV.sl SK.sh (List.map encPd l)]) (AV.sl SK.sh (List.map AV.str z)) (show Gives cfg (28 : FuncId) [AV.sl SK.sh (List.map encB bs), AV.sl SK.sh (List.map encPd l)] (rowF AV.str z) from w1) ⟨rfl, rfl⟩ Res.p <| .idx (show idxA (11 : Nat) (AV.sl SK.sh (List.map encPd l)) (AV.int IntKind.i64 (↑k : Int)) = some (AV.ref (encPd p).cells) from hix) <| .callG ([AV.sl SK.sh (List.map encB bs), AV.sl SK.sh (List.map encPd l), AV.str p.name]) (AV.tuple [AV.str x, AV.bool true]) (show Gives cfg (25 : FuncId) [AV.sl SK.sh (List.map encB bs), AV.sl SK.sh (List.map encPd l), AV.str p.name] (AV.tuple [AV.str x, AV.bool true]) from al') ⟨rfl, rfl⟩ ⟨rfl, rfl⟩ <| .slice (show sliceA (11 : Nat) (AV.sl SK.sh (List.map encPd l)) none (some (AV.int IntKind.i64 (↑k : Int))) none = some (AV.sl SK.sh (List.map encPd (List.take k l))) from s1) <| .append (show appendA (11 : Nat) (184 : Nat) { boxes := [], toks := [], loops := [] : Heap } (AV.sl SK.full []) (AV.sl SK.sh (List.map encPd (List.take k l))) = some ((rowS Heap.nil (List.map encPd (List.take k l)), rowH Heap.nil (List.map encPd (List.take k l)))) from a1) <| .bin (show binA BinOp.add (AV.int IntKind.i64 (↑k : Int)) (AV.int IntKind.i64 (1 : Int)) = some (AV.int IntKind.i64 (↑(k + (1 : Nat)) : Int)) from inc_i (by omega)) <| .slice (show sliceA (11 : Nat) (AV.sl SK.sh (List.map encPd l)) (some (AV.int IntKind.i64 (↑(k + (1 : Nat)) : Int))) none none = some (AV.sl SK.sh (List.map encPd (List.drop (k + (1 : Nat)) l))) from s2) <| .append (show appendA (11 : Nat) (184 : Nat) (rowH Heap.nil (List.map encPd (List.take k l))) (rowS Heap.nil (List.map encPd (List.take k l))) (AV.sl SK.sh (List.map encPd (List.drop (k + (1 : Nat)) l))) = some ((rowS Heap.nil (List.map encPd (lessL l k)), rowH Heap.nil (List.map encPd (lessL l k)))) from a2) <| .callG ([AV.sl SK.sh (List.map encB bs), rowS Heap.nil (List.map encPd (lessL l k))]) (AV.sl SK.sh (List.map AV.str z)) (show Gives cfg (28 : FuncId) [AV.sl SK.sh (List.map encB bs), AV.sl SK.sh (List.map encPd (lessL l k))] (rowF AV.str z) from w2) Shuts.p Res.p <| .tt <| .callG ([AV.sl SK.sh (List.map AV.str z), AV.sl SK.sh (List.map AV.str z)]) (AV.bool true) (show Gives cfg (27 : FuncId) [AV.sl SK.sh (List.map AV.str z), AV.sl SK.sh (List.map AV.str z)] (AV.bool true) from hn) ⟨rfl, rfl⟩ ⟨rfl, rfl⟩ <| .fin ((ARes.ret (AV.bool true), rowH Heap.nil (List.map encPd (lessL l k)))) rfl) (by kernel_rfl)
            | false =>
              have en := goes_no hp hal
              generalize alB l p bs = x at al hal
              obtain ⟨x, y⟩ := x
              simp only at hal
              subst hal
              have al' : Gives cfg 25 [.sl .sh (bs.map encB), .sl .sh (l.map encPd), .str p.name] (.tuple [.str x, .bool false]) := al
              generalize brB bs l = z at w1
              generalize brB bs (lessL l k) = z2 at w2 en
              exact goG 160 []  trivial  (.callG ([]) (AV.bool true) (show Gives cfg (13 : FuncId) [] (AV.bool true) from known13') ⟨rfl, rfl⟩ ⟨rfl, rfl⟩ <| .ff <| .callG ([AV.sl SK.sh (List.map encB bs)]) (AV.bool true) (show Gives cfg (14 : FuncId) [AV.sl SK.sh (List.map encB bs)] (AV.bool true) from f1) ⟨rfl, rfl⟩ ⟨rfl, rfl⟩ <| .ff <| .len (show lenA false (AV.sl SK.sh (List.map encPd l)) = some (AV.int IntKind.i64 (↑l.length : Int)) from len_map _) <| .no (show (decide ((↑l.length : Int) < (1 : Int))) = false from decide_eq_false (show ¬ ((↑l.length : Int) < (1 : Int)) from (by omega))) <| .len (show lenA false (AV.sl SK.sh (List.map encPd l)) = some (AV.int IntKind.i64 (↑l.length : Int)) from len_map _) <| .no (show (decide ((40 : Int) < (↑l.length : Int))) = false from decide_eq_false (show ¬ ((40 : Int) < (↑l.length : Int)) from (by omega))) <| .callG ([AV.sl SK.sh (List.map encB bs)]) (AV.sl SK.sh (List.map encB bs)) (show Gives cfg (16 : FuncId) [AV.sl SK.sh (List.map encB bs)] (rowS Heap.nil (List.map encB bs)) from b1) ⟨rfl, rfl⟩ Res.p <| .callG ([AV.sl SK.sh (List.map encB bs)]) (AV.int IntKind.i64 (0 : Int)) (show Gives cfg (18 : FuncId) [AV.sl SK.sh (List.map encB bs)] (AV.int IntKind.i64 (0 : Int)) from b2) ⟨rfl, rfl⟩ ⟨rfl, rfl⟩ <| .ff <| .callG ([AV.sl SK.sh (List.map encPd l)]) (AV.sl SK.sh (List.map encPd l)) (show Gives cfg (17 : FuncId) [AV.sl SK.sh (List.map encPd l)] (rowS Heap.nil (List.map encPd l)) from p1) ⟨rfl, rfl⟩ Res.p <| .callG ([AV.sl SK.sh (List.map encPd l)]) (AV.int IntKind.i64 (0 : Int)) (show Gives cfg (20 : FuncId) [AV.sl SK.sh (List.map encPd l)] (AV.int IntKind.i64 (0 : Int)) from p2) ⟨rfl, rfl⟩ ⟨rfl, rfl⟩ <| .ff <| .conv (show convA (CV.int IntKind.i64) (AV.int IntKind.u8 (↑at' : Int)) = some (AV.int IntKind.i64 (↑at' : Int)) from cv) <| .len (show lenA false (AV.sl SK.sh (List.map encPd l)) = some (AV.int IntKind.i64 (↑l.length : Int)) from len_map _) <| .bin (show binA BinOp.rem (AV.int IntKind.i64 (↑at' : Int)) (AV.int IntKind.i64 (↑l.length : Int)) = some (AV.int IntKind.i64 (↑k : Int)) from rm) <| .callG ([AV.sl SK.sh (List.map encB bs), AV.sl SK.sh (List.map encPd l)]) (AV.sl SK.sh (List.map AV.str z)) (show Gives cfg (28 : FuncId) [AV.sl SK.sh (List.map encB bs), AV.sl SK.sh (List.map encPd l)] (rowF AV.str z) from w1) ⟨rfl, rfl⟩ Res.p <| .idx (show idxA (11 : Nat) (AV.sl SK.sh (List.map encPd l)) (AV.int IntKind.i64 (↑k : Int)) = some (AV.ref (encPd p).cells) from hix) <| .callG ([AV.sl SK.sh (List.map encB bs), AV.sl SK.sh (List.map encPd l), AV.str p.name]) (AV.tuple [AV.str x, AV.bool false]) (show Gives cfg (25 : FuncId) [AV.sl SK.sh (List.map encB bs), AV.sl SK.sh (List.map encPd l), AV.str p.name] (AV.tuple [AV.str x, AV.bool false]) from al') ⟨rfl, rfl⟩ ⟨rfl, rfl⟩ <| .slice (show sliceA (11 : Nat) (AV.sl SK.sh (List.map encPd l)) none (some (AV.int IntKind.i64 (↑k : Int))) none = some (AV.sl SK.sh (List.map encPd (List.take k l))) from s1) <| .append (show appendA (11 : Nat) (184 : Nat) { boxes := [], toks := [], loops := [] : Heap } (AV.sl SK.full []) (AV.sl SK.sh (List.map encPd (List.take k l))) = some ((rowS Heap.nil (List.map encPd (List.take k l)), rowH Heap.nil (List.map encPd (List.take k l)))) from a1) <| .bin (show binA BinOp.add (AV.int IntKind.i64 (↑k : Int)) (AV.int IntKind.i64 (1 : Int)) = some (AV.int IntKind.i64 (↑(k + (1 : Nat)) : Int)) from inc_i (by omega)) <| .slice (show sliceA (11 : Nat) (AV.sl SK.sh (List.map encPd l)) (some (AV.int IntKind.i64 (↑(k + (1 : Nat)) : Int))) none none = some (AV.sl SK.sh (List.map encPd (List.drop (k + (1 : Nat)) l))) from s2) <| .append (show appendA (11 : Nat) (184 : Nat) (rowH Heap.nil (List.map encPd (List.take k l))) (rowS Heap.nil (List.map encPd (List.take k l))) (AV.sl SK.sh (List.map encPd (List.drop (k + (1 : Nat)) l))) = some ((rowS Heap.nil (List.map encPd (lessL l k)), rowH Heap.nil (List.map encPd (lessL l k)))) from a2) <| .callG ([AV.sl SK.sh (List.map encB bs), rowS Heap.nil (List.map encPd (lessL l k))]) (AV.sl SK.sh (List.map AV.str z2)) (show Gives cfg (28 : FuncId) [AV.sl SK.sh (List.map encB bs), AV.sl SK.sh (List.map encPd (lessL l k))] (rowF AV.str z2) from w2) Shuts.p Res.p <| .ff <| .len (show lenA false (AV.sl SK.sh (List.map AV.str z2)) = some (AV.int IntKind.i64 (↑z2.length : Int)) from len_map _) <| .fin ((ARes.ret (AV.bool (decide ((0 : Int) < (↑z2.length : Int)))), rowH Heap.nil (List.map encPd (lessL l k)))) (by simp [IsRet]; omega)) (by kernel_rfl)
          · generalize ckAll 128 ckPd Pod.name l = e at p2 e2
            exact goG 120 []  trivial  (.callG ([]) (AV.bool true) (show Gives cfg (13 : FuncId) [] (AV.bool true) from known13') ⟨rfl, rfl⟩ ⟨rfl, rfl⟩ <| .ff <| .callG ([AV.sl SK.sh (List.map encB bs)]) (AV.bool true) (show Gives cfg (14 : FuncId) [AV.sl SK.sh (List.map encB bs)] (AV.bool true) from f1) ⟨rfl, rfl⟩ ⟨rfl, rfl⟩ <| .ff <| .len (show lenA false (AV.sl SK.sh (List.map encPd l)) = some (AV.int IntKind.i64 (↑l.length : Int)) from len_map _) <| .no (show (decide ((↑l.length : Int) < (1 : Int))) = false from decide_eq_false (show ¬ ((↑l.length : Int) < (1 : Int)) from (by omega))) <| .len (show lenA false (AV.sl SK.sh (List.map encPd l)) = some (AV.int IntKind.i64 (↑l.length : Int)) from len_map _) <| .no (show (decide ((40 : Int) < (↑l.length : Int))) = false from decide_eq_false (show ¬ ((40 : Int) < (↑l.length : Int)) from (by omega))) <| .callG ([AV.sl SK.sh (List.map encB bs)]) (AV.sl SK.sh (List.map encB bs)) (show Gives cfg (16 : FuncId) [AV.sl SK.sh (List.map encB bs)] (rowS Heap.nil (List.map encB bs)) from b1) ⟨rfl, rfl⟩ Res.p <| .callG ([AV.sl SK.sh (List.map encB bs)]) (AV.int IntKind.i64 (0 : Int)) (show Gives cfg (18 : FuncId) [AV.sl SK.sh (List.map encB bs)] (AV.int IntKind.i64 (0 : Int)) from b2) ⟨rfl, rfl⟩ ⟨rfl, rfl⟩ <| .ff <| .callG ([AV.sl SK.sh (List.map encPd l)]) (AV.sl SK.sh (List.map encPd l)) (show Gives cfg (17 : FuncId) [AV.sl SK.sh (List.map encPd l)] (rowS Heap.nil (List.map encPd l)) from p1) ⟨rfl, rfl⟩ Res.p <| .callG ([AV.sl SK.sh (List.map encPd l)]) (AV.int IntKind.i64 e) (show Gives cfg (20 : FuncId) [AV.sl SK.sh (List.map encPd l)] (AV.int IntKind.i64 e) from p2) ⟨rfl, rfl⟩ ⟨rfl, rfl⟩ <| .yes (show (e != (0 : Int)) = true from (by simpa using e2)) <| .fin ((ARes.ret (AV.bool true), { boxes := [], toks := [], loops := [] : Heap })) rfl) (by kernel_rfl)
        · generalize ckAll 8 ckB Bud.name bs = e at b2 e1
          exact goG 120 []  trivial  (.callG ([]) (AV.bool true) (show Gives cfg (13 : FuncId) [] (AV.bool true) from known13') ⟨rfl, rfl⟩ ⟨rfl, rfl⟩ <| .ff <| .callG ([AV.sl SK.sh (List.map encB bs)]) (AV.bool true) (show Gives cfg (14 : FuncId) [AV.sl SK.sh (List.map encB bs)] (AV.bool true) from f1) ⟨rfl, rfl⟩ ⟨rfl, rfl⟩ <| .ff <| .len (show lenA false (AV.sl SK.sh (List.map encPd l)) = some (AV.int IntKind.i64 (↑l.length : Int)) from len_map _) <| .no (show (decide ((↑l.length : Int) < (1 : Int))) = false from decide_eq_false (show ¬ ((↑l.length : Int) < (1 : Int)) from (by omega))) <| .len (show lenA false (AV.sl SK.sh (List.map encPd l)) = some (AV.int IntKind.i64 (↑l.length : Int)) from len_map _) <| .no (show (decide ((40 : Int) < (↑l.length : Int))) = false from decide_eq_false (show ¬ ((40 : Int) < (↑l.length : Int)) from (by omega))) <| .callG ([AV.sl SK.sh (List.map encB bs)]) (AV.sl SK.sh (List.map encB bs)) (show Gives cfg (16 : FuncId) [AV.sl SK.sh (List.map encB bs)] (rowS Heap.nil (List.map encB bs)) from b1) ⟨rfl, rfl⟩ Res.p <| .callG ([AV.sl SK.sh (List.map encB bs)]) (AV.int IntKind.i64 e) (show Gives cfg (18 : FuncId) [AV.sl SK.sh (List.map encB bs)] (AV.int IntKind.i64 e) from b2) ⟨rfl, rfl⟩ ⟨rfl, rfl⟩ <| .yes (show (e != (0 : Int)) = true from (by simpa using e1)) <| .tt <| .fin ((ARes.ret (AV.bool true), { boxes := [], toks := [], loops := [] : Heap })) rfl) (by kernel_rfl)
  · rw [Bool.eq_false_iff.2 hb] at f1
    exact goG 120 []  trivial  (.callG ([]) (AV.bool true) (show Gives cfg (13 : FuncId) [] (AV.bool true) from known13') ⟨rfl, rfl⟩ ⟨rfl, rfl⟩ <| .ff <| .callG ([AV.sl SK.sh (List.map encB bs)]) (AV.bool false) (show Gives cfg (14 : FuncId) [AV.sl SK.sh (List.map encB bs)] (AV.bool false) from f1) ⟨rfl, rfl⟩ ⟨rfl, rfl⟩ <| .tt <| .tt <| .tt <| .tt <| .tt <| .fin ((ARes.ret (AV.bool true), { boxes := [], toks := [], loops := [] : Heap })) rfl) (by kernel_rfl)
end Go.Aa.T

set_option linter.unusedVariables false
set_option linter.unusedSimpArgs false
set_option maxRecDepth 100000
namespace Go.Aa.T
open Go.Aa Go.Proofs
theorem map_of2 {α : Type} {f : α → AV} {Q : AV → Prop} {S : α → Prop} (h : ∀ y, Q y → ∃ x, y = f x ∧ S x) : ∀ (l : List AV), (∀ y ∈ l, Q y) → ∃ t : List α, l = t.map f ∧ ∀ x ∈ t, S x
  | [], _ => ⟨[], rfl, by simp⟩
  | y :: l, hl => by
    obtain ⟨x, rfl, hx⟩ := h y (hl y (by simp))
    obtain ⟨t, rfl, ht⟩ := map_of2 h l (fun z hz => hl z (by simp [hz]))
    exact ⟨x :: t, rfl, by simpa using ⟨hx, ht⟩⟩
theorem i64_range {m : Int} (h : (Lit.int .i64 m).wf = true) : -9223372036854775808 ≤ m ∧ m ≤ 9223372036854775807 := by
  have h' : IntKind.i64.min ≤ m ∧ m ≤ IntKind.i64.max := by simpa [Lit.wf, IntKind.has] using h
  have e1 : IntKind.i64.min = -9223372036854775808 := rfl
  have e2 : IntKind.i64.max = 9223372036854775807 := rfl
  omega
theorem tys2 {R : TypeId → List AV → Prop} {f1 f2 : Field} {cs : List AV} (h : Tys R (#[f1, f2] : Array Field).toList cs) : ∃ a1 a2, cs = a1 ++ (a2) ∧ R f1.type a1 ∧ R f2.type a2 := by
  obtain ⟨a1, b1, rfl, h1, a2, b2, rfl, h2, e⟩ := (show Tys R [f1, f2] cs from h)
  cases e
  exact ⟨a1, a2, by simp, h1, h2⟩
theorem tys3 {R : TypeId → List AV → Prop} {f1 f2 f3 : Field} {cs : List AV} (h : Tys R (#[f1, f2, f3] : Array Field).toList cs) : ∃ a1 a2 a3, cs = a1 ++ (a2 ++ (a3)) ∧ R f1.type a1 ∧ R f2.type a2 ∧ R f3.type a3 := by
  obtain ⟨a1, b1, rfl, h1, a2, b2, rfl, h2, a3, b3, rfl, h3, e⟩ := (show Tys R [f1, f2, f3] cs from h)
  cases e
  exact ⟨a1, a2, a3, by simp, h1, h2, h3⟩
theorem tys11 {R : TypeId → List AV → Prop} {f1 f2 f3 f4 f5 f6 f7 f8 f9 f10 f11 : Field} {cs : List AV} (h : Tys R (#[f1, f2, f3, f4, f5, f6, f7, f8, f9, f10, f11] : Array Field).toList cs) : ∃ a1 a2 a3 a4 a5 a6 a7 a8 a9 a10 a11, cs = a1 ++ (a2 ++ (a3 ++ (a4 ++ (a5 ++ (a6 ++ (a7 ++ (a8 ++ (a9 ++ (a10 ++ (a11)))))))))) ∧ R f1.type a1 ∧ R f2.type a2 ∧ R f3.type a3 ∧ R f4.type a4 ∧ R f5.type a5 ∧ R f6.type a6 ∧ R f7.type a7 ∧ R f8.type a8 ∧ R f9.type a9 ∧ R f10.type a10 ∧ R f11.type a11 := by
  obtain ⟨a1, b1, rfl, h1, a2, b2, rfl, h2, a3, b3, rfl, h3, a4, b4, rfl, h4, a5, b5, rfl, h5, a6, b6, rfl, h6, a7, b7, rfl, h7, a8, b8, rfl, h8, a9, b9, rfl, h9, a10, b10, rfl, h10, a11, b11, rfl, h11, e⟩ := (show Tys R [f1, f2, f3, f4, f5, f6, f7, f8, f9, f10, f11] cs from h)
  cases e
  exact ⟨a1, a2, a3, a4, a5, a6, a7, a8, a9, a10, a11, by simp, h1, h2, h3, h4, h5, h6, h7, h8, h9, h10, h11⟩
theorem ty66 {k : Nat} {y : AV} (h : TyV Tryz.prog (k + 2) 66 y) : ∃ x : Term, y = encM x ∧ (True) := by
  obtain ⟨cs, rfl, hh⟩ := tyv_struct Tryz.underlying66 h
  obtain ⟨a1, a2, a3, rfl, h1, h2, h3⟩ := tys3 hh
  obtain ⟨s1, rfl, w1⟩ := ty_int Tryz.underlying3 h1
  have r1 := i64_range w1
  obtain ⟨s2, rfl, -⟩ := ty_string Tryz.underlying9 h2
  obtain ⟨s3, rfl, -⟩ := ty_string Tryz.underlying9 h3
  exact ⟨⟨s1, s2, s3⟩, rfl, trivial⟩
theorem ty32s {k : Nat} {y : List AV} (h : Ty Tryz.prog (k + 3) 32 y) : ∃ t : List Term, y = [.sl .sh (t.map encM)] ∧ (∀ x ∈ t, True) ∧ t.length * 40 ≤ 140737488355328 := by
  obtain ⟨l, rfl, ⟨-, hl⟩, hz⟩ := ty_sliceZ Tryz.underlying32 h
  rw [show Tryz.prog.bytesOf 66 = 40 by kernel_rfl] at hz
  obtain ⟨t, rfl, hs⟩ := map_of2 (S := fun x : Term => True) (fun y hy => ty66 hy) l hl
  exact ⟨t, rfl, hs, by have e : reachBytes = 140737488351232 := rfl; rw [List.length_map] at hz; omega⟩
theorem ty46 {k : Nat} {y : AV} (h : TyV Tryz.prog (k + 4) 46 y) : ∃ x : Bud, y = encB x ∧ (-9223372036854775808 ≤ x.floor ∧ x.floor ≤ 9223372036854775807) := by
  obtain ⟨cs, rfl, hh⟩ := tyv_struct Tryz.underlying46 h
  obtain ⟨a1, a2, a3, rfl, h1, h2, h3⟩ := tys3 hh
  obtain ⟨s1, rfl, -⟩ := ty_string Tryz.underlying9 h1
  obtain ⟨s2, rfl, w2⟩ := ty32s h2
  obtain ⟨s3, rfl, w3⟩ := ty_int Tryz.underlying3 h3
  have r3 := i64_range w3
  exact ⟨⟨s1, s2, s3⟩, rfl, r3⟩
theorem ty22 {k : Nat} {y : AV} (h : TyV Tryz.prog (k + 5) 22 y) : ∃ t : List Bud, y = .sl .sh (t.map encB) ∧ ∀ x ∈ t, -9223372036854775808 ≤ x.floor ∧ x.floor ≤ 9223372036854775807 := by
  obtain ⟨l, rfl, -, hl⟩ := tyv_slice Tryz.underlying22 h
  obtain ⟨t, rfl, hs⟩ := map_of2 (S := fun x : Bud => -9223372036854775808 ≤ x.floor ∧ x.floor ≤ 9223372036854775807) (fun y hy => ty46 hy) l hl
  exact ⟨t, rfl, hs⟩
theorem ty100 {k : Nat} {y : AV} (h : TyV Tryz.prog (k + 2) 100 y) : ∃ x : Amount, y = encA x ∧ (-9223372036854775808 ≤ x.n ∧ x.n ≤ 9223372036854775807) := by
  obtain ⟨cs, rfl, hh⟩ := tyv_struct Tryz.underlying100 h
  obtain ⟨a1, a2, rfl, h1, h2⟩ := tys2 hh
  obtain ⟨s1, rfl, -⟩ := ty_string Tryz.underlying9 h1
  obtain ⟨s2, rfl, w2⟩ := ty_int Tryz.underlying2 h2
  have r2 := i64_range w2
  exact ⟨⟨s1, s2⟩, rfl, r2⟩
theorem ty28s {k : Nat} {y : List AV} (h : Ty Tryz.prog (k + 3) 28 y) : ∃ t : List Amount, y = [.sl .sh (t.map encA)] ∧ (∀ x ∈ t, -9223372036854775808 ≤ x.n ∧ x.n ≤ 9223372036854775807) ∧ t.length * 24 ≤ 140737488355328 := by
  obtain ⟨l, rfl, ⟨-, hl⟩, hz⟩ := ty_sliceZ Tryz.underlying28 h
  rw [show Tryz.prog.bytesOf 100 = 24 by kernel_rfl] at hz
  obtain ⟨t, rfl, hs⟩ := map_of2 (S := fun x : Amount => -9223372036854775808 ≤ x.n ∧ x.n ≤ 9223372036854775807) (fun y hy => ty100 hy) l hl
  exact ⟨t, rfl, hs, by have e : reachBytes = 140737488351232 := rfl; rw [List.length_map] at hz; omega⟩
theorem ty64 {k : Nat} {y : AV} (h : TyV Tryz.prog (k + 2) 64 y) : ∃ x : Pair, y = encP x ∧ (True) := by
  obtain ⟨cs, rfl, hh⟩ := tyv_struct Tryz.underlying64 h
  obtain ⟨a1, a2, rfl, h1, h2⟩ := tys2 hh
  obtain ⟨s1, rfl, -⟩ := ty_string Tryz.underlying9 h1
  obtain ⟨s2, rfl, -⟩ := ty_string Tryz.underlying9 h2
  exact ⟨⟨s1, s2⟩, rfl, trivial⟩
theorem ty30s {k : Nat} {y : List AV} (h : Ty Tryz.prog (k + 3) 30 y) : ∃ t : List Pair, y = [.sl .sh (t.map encP)] ∧ (∀ x ∈ t, True) ∧ t.length * 32 ≤ 140737488355328 := by
  obtain ⟨l, rfl, ⟨-, hl⟩, hz⟩ := ty_sliceZ Tryz.underlying30 h
  rw [show Tryz.prog.bytesOf 64 = 32 by kernel_rfl] at hz
  obtain ⟨t, rfl, hs⟩ := map_of2 (S := fun x : Pair => True) (fun y hy => ty64 hy) l hl
  exact ⟨t, rfl, hs, by have e : reachBytes = 140737488351232 := rfl; rw [List.length_map] at hz; omega⟩
theorem ty198 {k : Nat} {y : AV} (h : TyV Tryz.prog (k + 2) 198 y) : ∃ x : Tol, y = encL x ∧ (True) := by
  obtain ⟨cs, rfl, hh⟩ := tyv_struct Tryz.underlying198 h
  obtain ⟨a1, a2, a3, rfl, h1, h2, h3⟩ := tys3 hh
  obtain ⟨s1, rfl, -⟩ := ty_string Tryz.underlying9 h1
  obtain ⟨s2, rfl, -⟩ := ty_string Tryz.underlying9 h2
  obtain ⟨s3, rfl⟩ := ty_bool Tryz.underlying4 h3
  exact ⟨⟨s1, s2, s3⟩, rfl, trivial⟩
theorem ty33s {k : Nat} {y : List AV} (h : Ty Tryz.prog (k + 3) 33 y) : ∃ t : List Tol, y = [.sl .sh (t.map encL)] ∧ (∀ x ∈ t, True) ∧ t.length * 40 ≤ 140737488355328 := by
  obtain ⟨l, rfl, ⟨-, hl⟩, hz⟩ := ty_sliceZ Tryz.underlying33 h
  rw [show Tryz.prog.bytesOf 198 = 40 by kernel_rfl] at hz
  obtain ⟨t, rfl, hs⟩ := map_of2 (S := fun x : Tol => True) (fun y hy => ty198 hy) l hl
  exact ⟨t, rfl, hs, by have e : reachBytes = 140737488351232 := rfl; rw [List.length_map] at hz; omega⟩
theorem ty35 {k : Nat} {y : AV} (h : TyV Tryz.prog (k + 4) 35 y) : ∃ x : Pod, y = encPd x ∧ (SizePd x) := by
  obtain ⟨cs, rfl, hh⟩ := tyv_struct Tryz.underlying35 h
  obtain ⟨a1, a2, a3, a4, a5, a6, a7, a8, a9, a10, a11, rfl, h1, h2, h3, h4, h5, h6, h7, h8, h9, h10, h11⟩ := tys11 hh
  obtain ⟨s1, rfl, -⟩ := ty_string Tryz.underlying9 h1
  obtain ⟨s2, rfl, -⟩ := ty_string Tryz.underlying9 h2
  obtain ⟨s3, rfl, w3⟩ := ty_int Tryz.underlying3 h3
  have r3 := i64_range w3
  obtain ⟨s4, rfl, w4⟩ := ty28s h4
  obtain ⟨s5, rfl, w5⟩ := ty30s h5
  obtain ⟨s6, rfl, w6⟩ := ty32s h6
  obtain ⟨s7, rfl, w7⟩ := ty33s h7
  obtain ⟨s8, rfl, -⟩ := ty_string Tryz.underlying9 h8
  obtain ⟨s9, rfl, w9⟩ := ty_int Tryz.underlying3 h9
  have r9 := i64_range w9
  obtain ⟨s10, rfl, -⟩ := ty_string Tryz.underlying9 h10
  obtain ⟨s11, rfl⟩ := ty_bool Tryz.underlying4 h11
  exact ⟨⟨s1, s2, s3, s4, s5, s6, s7, s8, s9, s10, s11⟩, rfl, ⟨w4.2, w5.2, w6.2, w7.2⟩⟩
theorem ty23 {k : Nat} {y : AV} (h : TyV Tryz.prog (k + 5) 23 y) : ∃ t : List Pod, y = .sl .sh (t.map encPd) ∧ ∀ x ∈ t, SizePd x := by
  obtain ⟨l, rfl, -, hl⟩ := tyv_slice Tryz.underlying23 h
  obtain ⟨t, rfl, hs⟩ := map_of2 (S := fun x : Pod => SizePd x) (fun y hy => ty35 hy) l hl
  exact ⟨t, rfl, hs⟩
end Go.Aa.T

set_option linter.unusedVariables false
set_option linter.unusedSimpArgs false
set_option maxRecDepth 100000
namespace Go.Aa.T
open Go.Aa Go.Proofs
theorem tyU8 {k : Nat} {x : AV} (hx : TyV Tryz.prog (k + 1) 5 x) : ∃ n : Nat, n < 256 ∧ x = .int .u8 (n : Int) := by
  obtain ⟨m, rfl, hm⟩ := tyv_int Tryz.underlying5 hx
  have h' : IntKind.u8.min ≤ m ∧ m ≤ IntKind.u8.max := by simpa [Lit.wf, IntKind.has] using hm
  have e1 : IntKind.u8.min = 0 := rfl
  have e2 : IntKind.u8.max = 255 := rfl
  exact ⟨m.toNat, by omega, by congr 1; omega⟩
theorem law4 (xs : List AV) (h : TyAll Tryz.prog 5 [22, 23, 5] xs) (hz : SzAll Tryz.prog [22, 23, 5] xs) : ∃ H', lim cfg (.fn 4) xs Heap.nil = some (.ret (.bool true), H') := by
  obtain ⟨x1, x2, x3, rfl, h1, h2, h3⟩ := tyall_3 h
  obtain ⟨bs, rfl, -⟩ := ty22 (k := 0) h1
  obtain ⟨l, rfl, hl⟩ := ty23 (k := 0) h2
  obtain ⟨n, hn, rfl⟩ := tyU8 h3
  exact (budgetGoes bs l n hn hl).ret
end Go.Aa.T

set_option linter.unusedVariables false
set_option linter.unusedSimpArgs false
namespace Go.Aa
variable {P : Program}
theorem grown_add : ∀ (a b : Nat) (s : List TypeId), P.grown (a + b) s = P.grown b (P.grown a s)
  | 0, b, s => by rw [Nat.zero_add]; rfl
  | a + 1, b, s => by
    rw [show a + 1 + b = (a + b) + 1 by omega]
    exact grown_add a b (P.grow s)
theorem grown_fix {s : List TypeId} (h : P.grow s = s) : ∀ n, P.grown n s = s
  | 0 => rfl
  | n + 1 => by
    show P.grown n (P.grow s) = s
    rw [h]; exact grown_fix h n
def stableB (P : Program) (d : Nat) (t : TypeId) : Bool := P.grow (P.grown d [t]) == P.grown d [t]
theorem book_eq {d : Nat} {t : TypeId} (hd : Nat.ble d P.types.size = true) (h : stableB P d t = true) : P.book t = P.grown d [t] := by
  have h' : P.grow (P.grown d [t]) = P.grown d [t] := by simpa [stableB] using h
  unfold Program.book
  obtain ⟨b, hb⟩ := Nat.exists_eq_add_of_le (Nat.le_of_ble_eq_true hd)
  rw [hb, grown_add, grown_fix h']
def loopsB (P : Program) (d : Nat) (t : TypeId) : Bool := (P.grown d [t]).all fun u => (P.partsOf u).all fun v => stableB P d v && !(P.grown d [v]).contains u
theorem loops_of {d : Nat} {t : TypeId} (hd : Nat.ble d P.types.size = true) (h0 : stableB P d t = true) (h : loopsB P d t = true) : P.loopsFrom t = false := by
  unfold Program.loopsFrom
  rw [book_eq hd h0, List.any_eq_false]
  intro u hu
  have h1 := List.all_eq_true.1 h u hu
  simp only [Bool.not_eq_true]
  rw [List.any_eq_false]
  intro v hv
  have h2 := List.all_eq_true.1 h1 v hv
  simp only [Bool.and_eq_true, Bool.not_eq_true'] at h2
  rw [book_eq hd h2.1, h2.2]
  exact Bool.false_ne_true
theorem loops_all {d : Nat} : ∀ {ts : List TypeId}, Nat.ble d P.types.size = true → (ts.all fun t => stableB P d t && loopsB P d t) = true → ts.any (P.loopsFrom ·) = false := by
  intro ts hd h
  rw [List.any_eq_false]
  intro t ht
  have h1 := List.all_eq_true.1 h t ht
  simp only [Bool.and_eq_true] at h1
  rw [loops_of hd h1.1 h1.2]
  exact Bool.false_ne_true
end Go.Aa

set_option linter.unusedVariables false
set_option linter.unusedSimpArgs false
set_option maxRecDepth 100000
namespace Go.Aa.T
open Go.Aa Go.Proofs Go.RowKit Go.ChangeShapes Go.Proofs.YtppplbpilpjokaaGreatDoor
theorem star : "*" ++ "errors.errorString" = "*errors.errorString" := by decide
theorem rowES (u : TypeId) (h : Tryz.prog.typeName? 3 u = some "*errors.errorString") : u = 331 :=
  typeName_ptr_named (nm := "errors.errorString") (by rw [star]; kernel_rfl) (by kernel_rfl) (by decide) u (by rw [star]; exact h)
theorem var_heap {P : Program} {W : World} {n : String} {cs : Array Value} {g : Nat} (h : W.var? P n = some cs) (hg : P.globalNamed n = some g) : ∃ e m, W.heap[g]? = some (.cells cs e m) := by
  simp only [World.var?, hg, Option.bind_some] at h
  split at h
  · rename_i cs' e m hc
    cases h
    exact ⟨e, m, hc⟩
  · cases h
def laidL : List (String × DataW Unit) := Rows.podEdgesRow.laid
theorem pow_eq : (Rows.laid_internal_strconv_uint64pow10 : DataW Unit) = Lib.tabData .u64 Lib.pow10Tab := by kernel_rfl
theorem cellsES : Tryz.prog.cellsOf 333 = 1 := by kernel_rfl
theorem cellsS : Tryz.prog.cellsOf 9 = 1 := by kernel_rfl
theorem glob0Z {W : World} (h : laidMet Tryz.prog laidL W) : Glob0 Tryz.prog W := by
  have h2 := laidMet.tail (laidMet.tail h)
  have ht : Lib.TabIs Tryz.prog W "internal/strconv.uint64pow10" .u64 Lib.pow10Tab := by
    have h3 : laidMet Tryz.prog (("internal/strconv.uint64pow10", Rows.laid_internal_strconv_uint64pow10) :: _) W := h2
    rw [pow_eq] at h3
    exact Lib.tabIs_of_head (g := 1) (t := 303) (n := 20) (by kernel_rfl) (by kernel_rfl) Tryz.underlying303 Tryz.underlying282 (by kernel_rfl) (by kernel_rfl) h3
  have h4 := laidMet.tail (laidMet.tail h2)
  obtain ⟨a1, s1, hv1, -, -, -⟩ := laid_sentinel h4 (g := 5) (ti := 238) (tp := 331) (te := 333) (ts := 9) (by kernel_rfl) (by kernel_rfl) Tryz.underlying238 rowES Tryz.underlying331 Tryz.underlying333 rfl rfl Tryz.underlying9 cellsES cellsS
  have h5 := laidMet.tail h4
  obtain ⟨a2, s2, hv2, -, -, -⟩ := laid_sentinel h5 (g := 4) (ti := 238) (tp := 331) (te := 333) (ts := 9) (by kernel_rfl) (by kernel_rfl) Tryz.underlying238 rowES Tryz.underlying331 Tryz.underlying333 rfl rfl Tryz.underlying9 cellsES cellsS
  intro s hs g hg
  simp only [globSpec, List.mem_cons, List.not_mem_nil, or_false] at hs
  rcases hs with rfl | rfl | rfl
  · obtain ⟨e, m, hh⟩ := var_heap ht hg
    exact ⟨_, e, m, hh, rfl⟩
  · obtain ⟨e, m, hh⟩ := var_heap hv2 hg
    exact ⟨_, e, m, hh, _, _, rfl⟩
  · obtain ⟨e, m, hh⟩ := var_heap hv1 hg
    exact ⟨_, e, m, hh, _, _, rfl⟩
end Go.Aa.T
