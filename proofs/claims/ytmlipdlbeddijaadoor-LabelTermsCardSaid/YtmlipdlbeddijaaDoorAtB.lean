/-
  NAMES AND LABELS.
-/
import Derived.Test.YtmlipdlbeddijaaDoorAtA
set_option linter.unusedVariables false
set_option linter.unusedSimpArgs false
set_option maxRecDepth 100000
namespace Go.Aa.T
open Go.Aa Go.Proofs

/-! ### Names -/
def alnum : List UInt8 := [97, 98, 99, 100, 101, 102, 103, 104, 105, 106, 107, 108, 109, 110, 111, 112, 113, 114, 115, 116, 117, 118, 119, 120, 121, 122, 48, 49, 50, 51, 52, 53, 54, 55, 56, 57]
theorem alnum_ch (c : UInt8) : alnum.contains c = nameCh c := by
  have : ∀ n : Fin 256, alnum.contains (UInt8.ofNat n.val) = nameCh (UInt8.ofNat n.val) := by decide +kernel
  have h := this ⟨c.toNat, c.toNat_lt⟩
  simpa using h
theorem dropWhile_nil {p : UInt8 → Bool} : ∀ {l : List UInt8}, l.dropWhile p = [] ↔ l.all p = true
  | [] => by simp
  | c :: l => by
    by_cases h : p c = true
    · simp [List.dropWhile_cons, h, dropWhile_nil]
    · simp [List.dropWhile_cons, h]
theorem trim_nil (s : List UInt8) : Lib.trimS s alnum = [] ↔ s.all nameCh = true := by
  have hp : (fun c => alnum.contains c) = nameCh := funext alnum_ch
  unfold Lib.trimS Lib.trimLeftS Lib.trimRightS
  rw [hp, dropWhile_nil, List.all_reverse]
  constructor
  · intro h
    have e := List.takeWhile_append_dropWhile (p := nameCh) (l := s.reverse)
    have : s.reverse.all nameCh = true := by
      rw [← e, List.all_append, h, Bool.and_true]
      exact List.all_takeWhile
    rwa [List.all_reverse] at this
  · intro h
    have : s.reverse.dropWhile nameCh = [] := dropWhile_nil.2 (by rwa [List.all_reverse])
    rw [this]; rfl
theorem trim_any (s : List UInt8) (h : s.length ≤ 9223372036854775807) : Gives cfg 97 [.str s, .str alnum] (.str (Lib.trimS s alnum)) := by
  refine Gives.of (H' := Heap.nil) ?_
  rw [lim_ext (g := trimE) rfl rfl]
  have : trimE [.str s, .str alnum] Heap.nil = some (.str (Lib.trimS s alnum), Heap.nil) := if_pos ⟨h, by decide, by decide⟩
  rw [this]; rfl
theorem res_name (s : List UInt8) : Gives cfg 62 [.str s] (.bool (isName s)) := by
  refine Gives.run (l62 _ _) ?_
  have ht := trim_nil s
  exact goG 60 []  trivial  (.len (show lenA true (AV.str s) = some (AV.int IntKind.i64 (↑s.length : Int)) from len_str _) <| .split ((1 : Int) ≤ (↑s.length : Int)) (fun g1 => .yes (show (decide ((1 : Int) ≤ (↑s.length : Int))) = true from decide_eq_true (show (1 : Int) ≤ (↑s.length : Int) from g1)) <| .len (show lenA true (AV.str s) = some (AV.int IntKind.i64 (↑s.length : Int)) from len_str _) <| .split ((↑s.length : Int) ≤ (12 : Int)) (fun g2 => .yes (show (decide ((↑s.length : Int) ≤ (12 : Int))) = true from decide_eq_true (show (↑s.length : Int) ≤ (12 : Int) from g2)) <| .callG ([AV.str s, AV.str [(97 : UInt8), (98 : UInt8), (99 : UInt8), (100 : UInt8), (101 : UInt8), (102 : UInt8), (103 : UInt8), (104 : UInt8), (105 : UInt8), (106 : UInt8), (107 : UInt8), (108 : UInt8), (109 : UInt8), (110 : UInt8), (111 : UInt8), (112 : UInt8), (113 : UInt8), (114 : UInt8), (115 : UInt8), (116 : UInt8), (117 : UInt8), (118 : UInt8), (119 : UInt8), (120 : UInt8), (121 : UInt8), (122 : UInt8), (48 : UInt8), (49 : UInt8), (50 : UInt8), (51 : UInt8), (52 : UInt8), (53 : UInt8), (54 : UInt8), (55 : UInt8), (56 : UInt8), (57 : UInt8)]]) (AV.str (Lib.trimS s alnum)) (show Gives cfg (97 : FuncId) [AV.str s, AV.str alnum] (AV.str (Lib.trimS s alnum)) from trim_any _ (by omega)) ⟨rfl, rfl⟩ ⟨rfl, rfl⟩ <| .fin ((ARes.ret (AV.bool (Lib.trimS s alnum == [])), Heap.mk [] [] [])) (by simp only [IsRet]; grind [isName])) (fun g2 => .no (show (decide ((↑s.length : Int) ≤ (12 : Int))) = false from decide_eq_false (show ¬ ((↑s.length : Int) ≤ (12 : Int)) from g2)) <| .fin ((ARes.ret (AV.bool false), Heap.mk [] [] [])) (by simp only [IsRet]; grind [isName]))) (fun g1 => .no (show (decide ((1 : Int) ≤ (↑s.length : Int))) = false from decide_eq_false (show ¬ ((1 : Int) ≤ (↑s.length : Int)) from g1)) <| .ff <| .fin ((ARes.ret (AV.bool false), Heap.mk [] [] [])) (by simp only [IsRet]; grind [isName]))) (by kernel_rfl)
end Go.Aa.T
