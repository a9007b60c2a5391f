/-
  WHAT THE LAW LEANS ON, part 9 of 9: a machine of values and its soundness; the functions of the law upon it; what they come to.
-/
import Derived.Test.YtppplbpilpjokaaGreatDoorZeh
import Derived.JoinedOf
import Derived.Test.YtppplbpilpjokaaGreatDoorRows
import Derived.Stop.LaidErr

set_option linter.unusedVariables false
set_option linter.unusedSimpArgs false
set_option maxRecDepth 100000
namespace Go.Aa.T
open Go.Aa Go.Proofs
def stopB (l : List Pod) (p : Pod) (b : Bud) : Bool := cntB b p && decide ((countB b l : Int) ≤ b.floor)
def alB (l : List Pod) (p : Pod) : List Bud → List UInt8 × Bool
  | [] => ([], true)
  | b :: bs => if stopB l p b then (b.name, false) else alB l p bs
def alV (x : List UInt8 × Bool) : AV := .tuple [.str x.1, .bool x.2]
def allowsB (bs : List Bud) (l : List Pod) (s : List UInt8) : List UInt8 × Bool := match findG Pod.name l s with
  | none => ([], true)
  | some p => alB l p bs
theorem al_any_loop (bs : List Bud) (l : List Pod) (p : Pod) (hb : bs.length ≤ 20) (hn : l.length < 9223372036854775807) (hl : ∀ x ∈ l, x.labels.length < 9223372036854775807) (hp : p.labels.length < 9223372036854775807) (hs : ∀ b ∈ bs, b.sel.length < 9223372036854775807) : ∀ (post : List Bud) (i : Nat) (xs : List (List AV)) (hd : bs.drop i = post) (T : Env) (hT : Has T [(1, .sl .sh (l.map encPd)), (8, .ptr 0 0), (20, .sl .sh (bs.map encB)), (21, .int .i64 bs.length), (22, .int .i64 i)]),
    Goes cfg a25 k25_0 T ⟨(encPd p).cells :: xs, [], []⟩ (IsRet (alV (alB l p post))) := by
  intro post
  induction post with
  | nil =>
    intro i xs hd T hT
    have hge := drop_ge hd
    exact goG 60 _  hT  (.no (show (decide ((↑i : Int) < (↑bs.length : Int))) = false from decide_eq_false (show ¬ ((↑i : Int) < (↑bs.length : Int)) from (by omega))) <| .fin ((ARes.ret (AV.tuple [AV.str [], AV.bool true]), { boxes := [AV.str p.name, AV.str p.owner, AV.int IntKind.i64 p.prio, AV.sl SK.sh (List.map encA p.need), AV.sl SK.sh (List.map encP p.labels), AV.sl SK.sh (List.map encM p.sel), AV.sl SK.sh (List.map encL p.tols), AV.str p.key, AV.int IntKind.i64 p.most, AV.str p.node, AV.bool p.hold] :: xs, toks := [], loops := [] : Heap })) rfl) (by kernel_rfl)
  | cons b post ih =>
    intro i xs hd T hT
    have hlt := drop_lt hd
    have hnx := drop_next hd
    have hc := count_any b l hn hl (hs b (drop_mem hd))
    have hk := cnt_any b p hp (hs b (drop_mem hd))
    by_cases hq : stopB l p b = true
    · have e : alB l p (b :: post) = (b.name, false) := by simp [alB, hq]
      rw [e]
      simp only [stopB, Bool.and_eq_true, decide_eq_true_eq] at hq
      obtain ⟨q1, q2⟩ := hq
      rw [q1] at hk
      exact goG 90 _  hT  (.yes (show (decide ((↑i : Int) < (↑bs.length : Int))) = true from decide_eq_true (show (↑i : Int) < (↑bs.length : Int) from (by omega))) <| .idx (show idxA (3 : Nat) (AV.sl SK.sh (List.map encB bs)) (AV.int IntKind.i64 (↑i : Int)) = some (AV.ref (encB b).cells) from idx_row hd (by rfl)) <| .load (show loadA true (3 : Nat) { boxes := [AV.str p.name, AV.str p.owner, AV.int IntKind.i64 p.prio, AV.sl SK.sh (List.map encA p.need), AV.sl SK.sh (List.map encP p.labels), AV.sl SK.sh (List.map encM p.sel), AV.sl SK.sh (List.map encL p.tols), AV.str p.key, AV.int IntKind.i64 p.most, AV.str p.node, AV.bool p.hold] :: xs, toks := [], loops := [] : Heap } (AV.ref [AV.str b.name, AV.sl SK.sh (List.map encM b.sel), AV.int IntKind.i64 b.floor]) = some (AV.agg [AV.str b.name, AV.sl SK.sh (List.map encM b.sel), AV.int IntKind.i64 b.floor]) from rfl) <| .store (show storeA (3 : Nat) { boxes := [AV.str p.name, AV.str p.owner, AV.int IntKind.i64 p.prio, AV.sl SK.sh (List.map encA p.need), AV.sl SK.sh (List.map encP p.labels), AV.sl SK.sh (List.map encM p.sel), AV.sl SK.sh (List.map encL p.tols), AV.str p.key, AV.int IntKind.i64 p.most, AV.str p.node, AV.bool p.hold] :: (xs ++ [[AV.str [], AV.sl SK.full [], AV.int IntKind.i64 (0 : Int)]]), toks := [], loops := [] : Heap } (AV.ptr ([AV.str p.name, AV.str p.owner, AV.int IntKind.i64 p.prio, AV.sl SK.sh (List.map encA p.need), AV.sl SK.sh (List.map encP p.labels), AV.sl SK.sh (List.map encM p.sel), AV.sl SK.sh (List.map encL p.tols), AV.str p.key, AV.int IntKind.i64 p.most, AV.str p.node, AV.bool p.hold] :: xs).length (0 : Nat)) (AV.agg [AV.str b.name, AV.sl SK.sh (List.map encM b.sel), AV.int IntKind.i64 b.floor]) = some ({ boxes := [AV.str p.name, AV.str p.owner, AV.int IntKind.i64 p.prio, AV.sl SK.sh (List.map encA p.need), AV.sl SK.sh (List.map encP p.labels), AV.sl SK.sh (List.map encM p.sel), AV.sl SK.sh (List.map encL p.tols), AV.str p.key, AV.int IntKind.i64 p.most, AV.str p.node, AV.bool p.hold] :: (xs ++ [[AV.str b.name, AV.sl SK.sh (List.map encM b.sel), AV.int IntKind.i64 b.floor]]), toks := [], loops := [] : Heap }) from store_box2 (cs := [AV.str [], AV.sl SK.full [], AV.int IntKind.i64 (0 : Int)]) (cs' := [AV.str b.name, AV.sl SK.sh (List.map encM b.sel), AV.int IntKind.i64 b.floor]) (by simp) rfl (by simp [List.set_append])) <| .load (show loadA true (3 : Nat) { boxes := [AV.str p.name, AV.str p.owner, AV.int IntKind.i64 p.prio, AV.sl SK.sh (List.map encA p.need), AV.sl SK.sh (List.map encP p.labels), AV.sl SK.sh (List.map encM p.sel), AV.sl SK.sh (List.map encL p.tols), AV.str p.key, AV.int IntKind.i64 p.most, AV.str p.node, AV.bool p.hold] :: (xs ++ [[AV.str b.name, AV.sl SK.sh (List.map encM b.sel), AV.int IntKind.i64 b.floor]]), toks := [], loops := [] : Heap } (AV.ptr ([AV.str p.name, AV.str p.owner, AV.int IntKind.i64 p.prio, AV.sl SK.sh (List.map encA p.need), AV.sl SK.sh (List.map encP p.labels), AV.sl SK.sh (List.map encM p.sel), AV.sl SK.sh (List.map encL p.tols), AV.str p.key, AV.int IntKind.i64 p.most, AV.str p.node, AV.bool p.hold] :: xs).length (0 : Nat)) = some (AV.agg [AV.str b.name, AV.sl SK.sh (List.map encM b.sel), AV.int IntKind.i64 b.floor]) from load_box (cs := [AV.str b.name, AV.sl SK.sh (List.map encM b.sel), AV.int IntKind.i64 b.floor]) (by simp) rfl) <| .load (show loadA true (11 : Nat) { boxes := [AV.str p.name, AV.str p.owner, AV.int IntKind.i64 p.prio, AV.sl SK.sh (List.map encA p.need), AV.sl SK.sh (List.map encP p.labels), AV.sl SK.sh (List.map encM p.sel), AV.sl SK.sh (List.map encL p.tols), AV.str p.key, AV.int IntKind.i64 p.most, AV.str p.node, AV.bool p.hold] :: (xs ++ [[AV.str b.name, AV.sl SK.sh (List.map encM b.sel), AV.int IntKind.i64 b.floor]]), toks := [], loops := [] : Heap } (AV.ptr (0 : Nat) (0 : Nat)) = some (AV.agg [AV.str p.name, AV.str p.owner, AV.int IntKind.i64 p.prio, AV.sl SK.sh (List.map encA p.need), AV.sl SK.sh (List.map encP p.labels), AV.sl SK.sh (List.map encM p.sel), AV.sl SK.sh (List.map encL p.tols), AV.str p.key, AV.int IntKind.i64 p.most, AV.str p.node, AV.bool p.hold]) from load_box (cs := [AV.str p.name, AV.str p.owner, AV.int IntKind.i64 p.prio, AV.sl SK.sh (List.map encA p.need), AV.sl SK.sh (List.map encP p.labels), AV.sl SK.sh (List.map encM p.sel), AV.sl SK.sh (List.map encL p.tols), AV.str p.key, AV.int IntKind.i64 p.most, AV.str p.node, AV.bool p.hold]) (by simp) rfl) <| .callG ([AV.agg [AV.str b.name, AV.sl SK.sh (List.map encM b.sel), AV.int IntKind.i64 b.floor], AV.agg [AV.str p.name, AV.str p.owner, AV.int IntKind.i64 p.prio, AV.sl SK.sh (List.map encA p.need), AV.sl SK.sh (List.map encP p.labels), AV.sl SK.sh (List.map encM p.sel), AV.sl SK.sh (List.map encL p.tols), AV.str p.key, AV.int IntKind.i64 p.most, AV.str p.node, AV.bool p.hold]]) (AV.bool true) (show Gives cfg (66 : FuncId) [encB b, encPd p] (AV.bool true) from hk) ⟨rfl, rfl⟩ ⟨rfl, rfl⟩ <| .tt <| .load (show loadA true (3 : Nat) { boxes := [AV.str p.name, AV.str p.owner, AV.int IntKind.i64 p.prio, AV.sl SK.sh (List.map encA p.need), AV.sl SK.sh (List.map encP p.labels), AV.sl SK.sh (List.map encM p.sel), AV.sl SK.sh (List.map encL p.tols), AV.str p.key, AV.int IntKind.i64 p.most, AV.str p.node, AV.bool p.hold] :: (xs ++ [[AV.str b.name, AV.sl SK.sh (List.map encM b.sel), AV.int IntKind.i64 b.floor]]), toks := [], loops := [] : Heap } (AV.ptr ([AV.str p.name, AV.str p.owner, AV.int IntKind.i64 p.prio, AV.sl SK.sh (List.map encA p.need), AV.sl SK.sh (List.map encP p.labels), AV.sl SK.sh (List.map encM p.sel), AV.sl SK.sh (List.map encL p.tols), AV.str p.key, AV.int IntKind.i64 p.most, AV.str p.node, AV.bool p.hold] :: xs).length (0 : Nat)) = some (AV.agg [AV.str b.name, AV.sl SK.sh (List.map encM b.sel), AV.int IntKind.i64 b.floor]) from load_box (cs := [AV.str b.name, AV.sl SK.sh (List.map encM b.sel), AV.int IntKind.i64 b.floor]) (by simp) rfl) <| .callG ([AV.agg [AV.str b.name, AV.sl SK.sh (List.map encM b.sel), AV.int IntKind.i64 b.floor], AV.sl SK.sh (List.map encPd l)]) (AV.int IntKind.i64 (↑(countB b l) : Int)) (show Gives cfg (21 : FuncId) [encB b, AV.sl SK.sh (List.map encPd l)] (AV.int IntKind.i64 (↑(countB b l) : Int)) from hc) ⟨rfl, rfl⟩ ⟨rfl, rfl⟩ <| .load (show loadA false (1 : Nat) { boxes := [AV.str p.name, AV.str p.owner, AV.int IntKind.i64 p.prio, AV.sl SK.sh (List.map encA p.need), AV.sl SK.sh (List.map encP p.labels), AV.sl SK.sh (List.map encM p.sel), AV.sl SK.sh (List.map encL p.tols), AV.str p.key, AV.int IntKind.i64 p.most, AV.str p.node, AV.bool p.hold] :: (xs ++ [[AV.str b.name, AV.sl SK.sh (List.map encM b.sel), AV.int IntKind.i64 b.floor]]), toks := [], loops := [] : Heap } (AV.ptr ([AV.str p.name, AV.str p.owner, AV.int IntKind.i64 p.prio, AV.sl SK.sh (List.map encA p.need), AV.sl SK.sh (List.map encP p.labels), AV.sl SK.sh (List.map encM p.sel), AV.sl SK.sh (List.map encL p.tols), AV.str p.key, AV.int IntKind.i64 p.most, AV.str p.node, AV.bool p.hold] :: xs).length (2 : Nat)) = some (AV.int IntKind.i64 b.floor) from load_box (cs := [AV.str b.name, AV.sl SK.sh (List.map encM b.sel), AV.int IntKind.i64 b.floor]) (by simp) rfl) <| .yes (show (decide ((↑(countB b l) : Int) ≤ b.floor)) = true from decide_eq_true (show (↑(countB b l) : Int) ≤ b.floor from (by omega))) <| .load (show loadA false (1 : Nat) { boxes := [AV.str p.name, AV.str p.owner, AV.int IntKind.i64 p.prio, AV.sl SK.sh (List.map encA p.need), AV.sl SK.sh (List.map encP p.labels), AV.sl SK.sh (List.map encM p.sel), AV.sl SK.sh (List.map encL p.tols), AV.str p.key, AV.int IntKind.i64 p.most, AV.str p.node, AV.bool p.hold] :: (xs ++ [[AV.str b.name, AV.sl SK.sh (List.map encM b.sel), AV.int IntKind.i64 b.floor]]), toks := [], loops := [] : Heap } (AV.ptr ([AV.str p.name, AV.str p.owner, AV.int IntKind.i64 p.prio, AV.sl SK.sh (List.map encA p.need), AV.sl SK.sh (List.map encP p.labels), AV.sl SK.sh (List.map encM p.sel), AV.sl SK.sh (List.map encL p.tols), AV.str p.key, AV.int IntKind.i64 p.most, AV.str p.node, AV.bool p.hold] :: xs).length (0 : Nat)) = some (AV.str b.name) from load_box (cs := [AV.str b.name, AV.sl SK.sh (List.map encM b.sel), AV.int IntKind.i64 b.floor]) (by simp) rfl) <| .fin ((ARes.ret (AV.tuple [AV.str b.name, AV.bool false]), { boxes := [AV.str p.name, AV.str p.owner, AV.int IntKind.i64 p.prio, AV.sl SK.sh (List.map encA p.need), AV.sl SK.sh (List.map encP p.labels), AV.sl SK.sh (List.map encM p.sel), AV.sl SK.sh (List.map encL p.tols), AV.str p.key, AV.int IntKind.i64 p.most, AV.str p.node, AV.bool p.hold] :: (xs ++ [[AV.str b.name, AV.sl SK.sh (List.map encM b.sel), AV.int IntKind.i64 b.floor]]), toks := [], loops := [] : Heap })) rfl) (by kernel_rfl)
    · have e : alB l p (b :: post) = alB l p post := by simp [alB, hq]
      rw [e]
      by_cases q1 : cntB b p = true
      · have q2 : ¬ (countB b l : Int) ≤ b.floor := by
          intro h; exact hq (by simp [stopB, q1, h])
        rw [q1] at hk
        exact goG 90 _  hT  (.yes (show (decide ((↑i : Int) < (↑bs.length : Int))) = true from decide_eq_true (show (↑i : Int) < (↑bs.length : Int) from (by omega))) <| .idx (show idxA (3 : Nat) (AV.sl SK.sh (List.map encB bs)) (AV.int IntKind.i64 (↑i : Int)) = some (AV.ref (encB b).cells) from idx_row hd (by rfl)) <| .load (show loadA true (3 : Nat) { boxes := [AV.str p.name, AV.str p.owner, AV.int IntKind.i64 p.prio, AV.sl SK.sh (List.map encA p.need), AV.sl SK.sh (List.map encP p.labels), AV.sl SK.sh (List.map encM p.sel), AV.sl SK.sh (List.map encL p.tols), AV.str p.key, AV.int IntKind.i64 p.most, AV.str p.node, AV.bool p.hold] :: xs, toks := [], loops := [] : Heap } (AV.ref [AV.str b.name, AV.sl SK.sh (List.map encM b.sel), AV.int IntKind.i64 b.floor]) = some (AV.agg [AV.str b.name, AV.sl SK.sh (List.map encM b.sel), AV.int IntKind.i64 b.floor]) from rfl) <| .store (show storeA (3 : Nat) { boxes := [AV.str p.name, AV.str p.owner, AV.int IntKind.i64 p.prio, AV.sl SK.sh (List.map encA p.need), AV.sl SK.sh (List.map encP p.labels), AV.sl SK.sh (List.map encM p.sel), AV.sl SK.sh (List.map encL p.tols), AV.str p.key, AV.int IntKind.i64 p.most, AV.str p.node, AV.bool p.hold] :: (xs ++ [[AV.str [], AV.sl SK.full [], AV.int IntKind.i64 (0 : Int)]]), toks := [], loops := [] : Heap } (AV.ptr ([AV.str p.name, AV.str p.owner, AV.int IntKind.i64 p.prio, AV.sl SK.sh (List.map encA p.need), AV.sl SK.sh (List.map encP p.labels), AV.sl SK.sh (List.map encM p.sel), AV.sl SK.sh (List.map encL p.tols), AV.str p.key, AV.int IntKind.i64 p.most, AV.str p.node, AV.bool p.hold] :: xs).length (0 : Nat)) (AV.agg [AV.str b.name, AV.sl SK.sh (List.map encM b.sel), AV.int IntKind.i64 b.floor]) = some ({ boxes := [AV.str p.name, AV.str p.owner, AV.int IntKind.i64 p.prio, AV.sl SK.sh (List.map encA p.need), AV.sl SK.sh (List.map encP p.labels), AV.sl SK.sh (List.map encM p.sel), AV.sl SK.sh (List.map encL p.tols), AV.str p.key, AV.int IntKind.i64 p.most, AV.str p.node, AV.bool p.hold] :: (xs ++ [[AV.str b.name, AV.sl SK.sh (List.map encM b.sel), AV.int IntKind.i64 b.floor]]), toks := [], loops := [] : Heap }) from store_box2 (cs := [AV.str [], AV.sl SK.full [], AV.int IntKind.i64 (0 : Int)]) (cs' := [AV.str b.name, AV.sl SK.sh (List.map encM b.sel), AV.int IntKind.i64 b.floor]) (by simp) rfl (by simp [List.set_append])) <| .load (show loadA true (3 : Nat) { boxes := [AV.str p.name, AV.str p.owner, AV.int IntKind.i64 p.prio, AV.sl SK.sh (List.map encA p.need), AV.sl SK.sh (List.map encP p.labels), AV.sl SK.sh (List.map encM p.sel), AV.sl SK.sh (List.map encL p.tols), AV.str p.key, AV.int IntKind.i64 p.most, AV.str p.node, AV.bool p.hold] :: (xs ++ [[AV.str b.name, AV.sl SK.sh (List.map encM b.sel), AV.int IntKind.i64 b.floor]]), toks := [], loops := [] : Heap } (AV.ptr ([AV.str p.name, AV.str p.owner, AV.int IntKind.i64 p.prio, AV.sl SK.sh (List.map encA p.need), AV.sl SK.sh (List.map encP p.labels), AV.sl SK.sh (List.map encM p.sel), AV.sl SK.sh (List.map encL p.tols), AV.str p.key, AV.int IntKind.i64 p.most, AV.str p.node, AV.bool p.hold] :: xs).length (0 : Nat)) = some (AV.agg [AV.str b.name, AV.sl SK.sh (List.map encM b.sel), AV.int IntKind.i64 b.floor]) from load_box (cs := [AV.str b.name, AV.sl SK.sh (List.map encM b.sel), AV.int IntKind.i64 b.floor]) (by simp) rfl) <| .load (show loadA true (11 : Nat) { boxes := [AV.str p.name, AV.str p.owner, AV.int IntKind.i64 p.prio, AV.sl SK.sh (List.map encA p.need), AV.sl SK.sh (List.map encP p.labels), AV.sl SK.sh (List.map encM p.sel), AV.sl SK.sh (List.map encL p.tols), AV.str p.key, AV.int IntKind.i64 p.most, AV.str p.node, AV.bool p.hold] :: (xs ++ [[AV.str b.name, AV.sl SK.sh (List.map encM b.sel), AV.int IntKind.i64 b.floor]]), toks := [], loops := [] : Heap } (AV.ptr (0 : Nat) (0 : Nat)) = some (AV.agg [AV.str p.name, AV.str p.owner, AV.int IntKind.i64 p.prio, AV.sl SK.sh (List.map encA p.need), AV.sl SK.sh (List.map encP p.labels), AV.sl SK.sh (List.map encM p.sel), AV.sl SK.sh (List.map encL p.tols), AV.str p.key, AV.int IntKind.i64 p.most, AV.str p.node, AV.bool p.hold]) from load_box (cs := [AV.str p.name, AV.str p.owner, AV.int IntKind.i64 p.prio, AV.sl SK.sh (List.map encA p.need), AV.sl SK.sh (List.map encP p.labels), AV.sl SK.sh (List.map encM p.sel), AV.sl SK.sh (List.map encL p.tols), AV.str p.key, AV.int IntKind.i64 p.most, AV.str p.node, AV.bool p.hold]) (by simp) rfl) <| .callG ([AV.agg [AV.str b.name, AV.sl SK.sh (List.map encM b.sel), AV.int IntKind.i64 b.floor], AV.agg [AV.str p.name, AV.str p.owner, AV.int IntKind.i64 p.prio, AV.sl SK.sh (List.map encA p.need), AV.sl SK.sh (List.map encP p.labels), AV.sl SK.sh (List.map encM p.sel), AV.sl SK.sh (List.map encL p.tols), AV.str p.key, AV.int IntKind.i64 p.most, AV.str p.node, AV.bool p.hold]]) (AV.bool true) (show Gives cfg (66 : FuncId) [encB b, encPd p] (AV.bool true) from hk) ⟨rfl, rfl⟩ ⟨rfl, rfl⟩ <| .tt <| .load (show loadA true (3 : Nat) { boxes := [AV.str p.name, AV.str p.owner, AV.int IntKind.i64 p.prio, AV.sl SK.sh (List.map encA p.need), AV.sl SK.sh (List.map encP p.labels), AV.sl SK.sh (List.map encM p.sel), AV.sl SK.sh (List.map encL p.tols), AV.str p.key, AV.int IntKind.i64 p.most, AV.str p.node, AV.bool p.hold] :: (xs ++ [[AV.str b.name, AV.sl SK.sh (List.map encM b.sel), AV.int IntKind.i64 b.floor]]), toks := [], loops := [] : Heap } (AV.ptr ([AV.str p.name, AV.str p.owner, AV.int IntKind.i64 p.prio, AV.sl SK.sh (List.map encA p.need), AV.sl SK.sh (List.map encP p.labels), AV.sl SK.sh (List.map encM p.sel), AV.sl SK.sh (List.map encL p.tols), AV.str p.key, AV.int IntKind.i64 p.most, AV.str p.node, AV.bool p.hold] :: xs).length (0 : Nat)) = some (AV.agg [AV.str b.name, AV.sl SK.sh (List.map encM b.sel), AV.int IntKind.i64 b.floor]) from load_box (cs := [AV.str b.name, AV.sl SK.sh (List.map encM b.sel), AV.int IntKind.i64 b.floor]) (by simp) rfl) <| .callG ([AV.agg [AV.str b.name, AV.sl SK.sh (List.map encM b.sel), AV.int IntKind.i64 b.floor], AV.sl SK.sh (List.map encPd l)]) (AV.int IntKind.i64 (↑(countB b l) : Int)) (show Gives cfg (21 : FuncId) [encB b, AV.sl SK.sh (List.map encPd l)] (AV.int IntKind.i64 (↑(countB b l) : Int)) from hc) ⟨rfl, rfl⟩ ⟨rfl, rfl⟩ <| .load (show loadA false (1 : Nat) { boxes := [AV.str p.name, AV.str p.owner, AV.int IntKind.i64 p.prio, AV.sl SK.sh (List.map encA p.need), AV.sl SK.sh (List.map encP p.labels), AV.sl SK.sh (List.map encM p.sel), AV.sl SK.sh (List.map encL p.tols), AV.str p.key, AV.int IntKind.i64 p.most, AV.str p.node, AV.bool p.hold] :: (xs ++ [[AV.str b.name, AV.sl SK.sh (List.map encM b.sel), AV.int IntKind.i64 b.floor]]), toks := [], loops := [] : Heap } (AV.ptr ([AV.str p.name, AV.str p.owner, AV.int IntKind.i64 p.prio, AV.sl SK.sh (List.map encA p.need), AV.sl SK.sh (List.map encP p.labels), AV.sl SK.sh (List.map encM p.sel), AV.sl SK.sh (List.map encL p.tols), AV.str p.key, AV.int IntKind.i64 p.most, AV.str p.node, AV.bool p.hold] :: xs).length (2 : Nat)) = some (AV.int IntKind.i64 b.floor) from load_box (cs := [AV.str b.name, AV.sl SK.sh (List.map encM b.sel), AV.int IntKind.i64 b.floor]) (by simp) rfl) <| .no (show (decide ((↑(countB b l) : Int) ≤ b.floor)) = false from decide_eq_false (show ¬ ((↑(countB b l) : Int) ≤ b.floor) from (by omega))) <| .bin (show binA BinOp.add (AV.int IntKind.i64 (↑i : Int)) (AV.int IntKind.i64 (1 : Int)) = some (AV.int IntKind.i64 (↑(i + (1 : Nat)) : Int)) from inc_i (by omega)) <| .cutQ k25_0 [(1, AV.sl SK.sh (List.map encPd l)), (8, AV.ptr (0 : Nat) (0 : Nat)), (20, AV.sl SK.sh (List.map encB bs)), (21, AV.int IntKind.i64 (↑bs.length : Int)), (22, AV.int IntKind.i64 (↑(i + (1 : Nat)) : Int))] ({ boxes := [AV.str p.name, AV.str p.owner, AV.int IntKind.i64 p.prio, AV.sl SK.sh (List.map encA p.need), AV.sl SK.sh (List.map encP p.labels), AV.sl SK.sh (List.map encM p.sel), AV.sl SK.sh (List.map encL p.tols), AV.str p.key, AV.int IntKind.i64 p.most, AV.str p.node, AV.bool p.hold] :: (xs ++ [[AV.str b.name, AV.sl SK.sh (List.map encM b.sel), AV.int IntKind.i64 b.floor]]), toks := [], loops := [] : Heap }) (fun T hT => (ih (i + (1 : Nat)) (xs ++ [[AV.str b.name, AV.sl SK.sh (List.map encM b.sel), AV.int IntKind.i64 b.floor]]) hnx T hT))) (by kernel_rfl)
      · rw [Bool.eq_false_iff.2 q1] at hk
        exact goG 90 _  hT  (.yes (show (decide ((↑i : Int) < (↑bs.length : Int))) = true from decide_eq_true (show (↑i : Int) < (↑bs.length : Int) from (by omega))) <| .idx (show idxA (3 : Nat) (AV.sl SK.sh (List.map encB bs)) (AV.int IntKind.i64 (↑i : Int)) = some (AV.ref (encB b).cells) from idx_row hd (by rfl)) <| .load (show loadA true (3 : Nat) { boxes := [AV.str p.name, AV.str p.owner, AV.int IntKind.i64 p.prio, AV.sl SK.sh (List.map encA p.need), AV.sl SK.sh (List.map encP p.labels), AV.sl SK.sh (List.map encM p.sel), AV.sl SK.sh (List.map encL p.tols), AV.str p.key, AV.int IntKind.i64 p.most, AV.str p.node, AV.bool p.hold] :: xs, toks := [], loops := [] : Heap } (AV.ref [AV.str b.name, AV.sl SK.sh (List.map encM b.sel), AV.int IntKind.i64 b.floor]) = some (AV.agg [AV.str b.name, AV.sl SK.sh (List.map encM b.sel), AV.int IntKind.i64 b.floor]) from rfl) <| .store (show storeA (3 : Nat) { boxes := [AV.str p.name, AV.str p.owner, AV.int IntKind.i64 p.prio, AV.sl SK.sh (List.map encA p.need), AV.sl SK.sh (List.map encP p.labels), AV.sl SK.sh (List.map encM p.sel), AV.sl SK.sh (List.map encL p.tols), AV.str p.key, AV.int IntKind.i64 p.most, AV.str p.node, AV.bool p.hold] :: (xs ++ [[AV.str [], AV.sl SK.full [], AV.int IntKind.i64 (0 : Int)]]), toks := [], loops := [] : Heap } (AV.ptr ([AV.str p.name, AV.str p.owner, AV.int IntKind.i64 p.prio, AV.sl SK.sh (List.map encA p.need), AV.sl SK.sh (List.map encP p.labels), AV.sl SK.sh (List.map encM p.sel), AV.sl SK.sh (List.map encL p.tols), AV.str p.key, AV.int IntKind.i64 p.most, AV.str p.node, AV.bool p.hold] :: xs).length (0 : Nat)) (AV.agg [AV.str b.name, AV.sl SK.sh (List.map encM b.sel), AV.int IntKind.i64 b.floor]) = some ({ boxes := [AV.str p.name, AV.str p.owner, AV.int IntKind.i64 p.prio, AV.sl SK.sh (List.map encA p.need), AV.sl SK.sh (List.map encP p.labels), AV.sl SK.sh (List.map encM p.sel), AV.sl SK.sh (List.map encL p.tols), AV.str p.key, AV.int IntKind.i64 p.most, AV.str p.node, AV.bool p.hold] :: (xs ++ [[AV.str b.name, AV.sl SK.sh (List.map encM b.sel), AV.int IntKind.i64 b.floor]]), toks := [], loops := [] : Heap }) from store_box2 (cs := [AV.str [], AV.sl SK.full [], AV.int IntKind.i64 (0 : Int)]) (cs' := [AV.str b.name, AV.sl SK.sh (List.map encM b.sel), AV.int IntKind.i64 b.floor]) (by simp) rfl (by simp [List.set_append])) <| .load (show loadA true (3 : Nat) { boxes := [AV.str p.name, AV.str p.owner, AV.int IntKind.i64 p.prio, AV.sl SK.sh (List.map encA p.need), AV.sl SK.sh (List.map encP p.labels), AV.sl SK.sh (List.map encM p.sel), AV.sl SK.sh (List.map encL p.tols), AV.str p.key, AV.int IntKind.i64 p.most, AV.str p.node, AV.bool p.hold] :: (xs ++ [[AV.str b.name, AV.sl SK.sh (List.map encM b.sel), AV.int IntKind.i64 b.floor]]), toks := [], loops := [] : Heap } (AV.ptr ([AV.str p.name, AV.str p.owner, AV.int IntKind.i64 p.prio, AV.sl SK.sh (List.map encA p.need), AV.sl SK.sh (List.map encP p.labels), AV.sl SK.sh (List.map encM p.sel), AV.sl SK.sh (List.map encL p.tols), AV.str p.key, AV.int IntKind.i64 p.most, AV.str p.node, AV.bool p.hold] :: xs).length (0 : Nat)) = some (AV.agg [AV.str b.name, AV.sl SK.sh (List.map encM b.sel), AV.int IntKind.i64 b.floor]) from load_box (cs := [AV.str b.name, AV.sl SK.sh (List.map encM b.sel), AV.int IntKind.i64 b.floor]) (by simp) rfl) <| .load (show loadA true (11 : Nat) { boxes := [AV.str p.name, AV.str p.owner, AV.int IntKind.i64 p.prio, AV.sl SK.sh (List.map encA p.need), AV.sl SK.sh (List.map encP p.labels), AV.sl SK.sh (List.map encM p.sel), AV.sl SK.sh (List.map encL p.tols), AV.str p.key, AV.int IntKind.i64 p.most, AV.str p.node, AV.bool p.hold] :: (xs ++ [[AV.str b.name, AV.sl SK.sh (List.map encM b.sel), AV.int IntKind.i64 b.floor]]), toks := [], loops := [] : Heap } (AV.ptr (0 : Nat) (0 : Nat)) = some (AV.agg [AV.str p.name, AV.str p.owner, AV.int IntKind.i64 p.prio, AV.sl SK.sh (List.map encA p.need), AV.sl SK.sh (List.map encP p.labels), AV.sl SK.sh (List.map encM p.sel), AV.sl SK.sh (List.map encL p.tols), AV.str p.key, AV.int IntKind.i64 p.most, AV.str p.node, AV.bool p.hold]) from load_box (cs := [AV.str p.name, AV.str p.owner, AV.int IntKind.i64 p.prio, AV.sl SK.sh (List.map encA p.need), AV.sl SK.sh (List.map encP p.labels), AV.sl SK.sh (List.map encM p.sel), AV.sl SK.sh (List.map encL p.tols), AV.str p.key, AV.int IntKind.i64 p.most, AV.str p.node, AV.bool p.hold]) (by simp) rfl) <| .callG ([AV.agg [AV.str b.name, AV.sl SK.sh (List.map encM b.sel), AV.int IntKind.i64 b.floor], AV.agg [AV.str p.name, AV.str p.owner, AV.int IntKind.i64 p.prio, AV.sl SK.sh (List.map encA p.need), AV.sl SK.sh (List.map encP p.labels), AV.sl SK.sh (List.map encM p.sel), AV.sl SK.sh (List.map encL p.tols), AV.str p.key, AV.int IntKind.i64 p.most, AV.str p.node, AV.bool p.hold]]) (AV.bool false) (show Gives cfg (66 : FuncId) [encB b, encPd p] (AV.bool false) from hk) ⟨rfl, rfl⟩ ⟨rfl, rfl⟩ <| .ff <| .ff <| .bin (show binA BinOp.add (AV.int IntKind.i64 (↑i : Int)) (AV.int IntKind.i64 (1 : Int)) = some (AV.int IntKind.i64 (↑(i + (1 : Nat)) : Int)) from inc_i (by omega)) <| .cutQ k25_0 [(1, AV.sl SK.sh (List.map encPd l)), (8, AV.ptr (0 : Nat) (0 : Nat)), (20, AV.sl SK.sh (List.map encB bs)), (21, AV.int IntKind.i64 (↑bs.length : Int)), (22, AV.int IntKind.i64 (↑(i + (1 : Nat)) : Int))] ({ boxes := [AV.str p.name, AV.str p.owner, AV.int IntKind.i64 p.prio, AV.sl SK.sh (List.map encA p.need), AV.sl SK.sh (List.map encP p.labels), AV.sl SK.sh (List.map encM p.sel), AV.sl SK.sh (List.map encL p.tols), AV.str p.key, AV.int IntKind.i64 p.most, AV.str p.node, AV.bool p.hold] :: (xs ++ [[AV.str b.name, AV.sl SK.sh (List.map encM b.sel), AV.int IntKind.i64 b.floor]]), toks := [], loops := [] : Heap }) (fun T hT => (ih (i + (1 : Nat)) (xs ++ [[AV.str b.name, AV.sl SK.sh (List.map encM b.sel), AV.int IntKind.i64 b.floor]]) hnx T hT))) (by kernel_rfl)
theorem al_any (bs : List Bud) (l : List Pod) (s : List UInt8) (hb : bs.length ≤ 20) (hn : l.length < 9223372036854775807) (hl : ∀ x ∈ l, x.labels.length < 9223372036854775807) (hs : ∀ b ∈ bs, b.sel.length < 9223372036854775807) : Gives cfg 25 [.sl .sh (bs.map encB), .sl .sh (l.map encPd), .str s] (alV (allowsB bs l s)) := by
  refine Gives.run (l25 _ _) ?_
  have f := findPd_any l s hn
  unfold allowsB
  cases ho : findG Pod.name l s with
  | none =>
    rw [ho] at f
    have f' : Gives cfg 48 [.sl .sh (l.map encPd), .str s] (.tuple [.agg findPdZ, .bool false]) := f
    exact goG 90 []  trivial  (.callG ([AV.sl SK.sh (List.map encPd l), AV.str s]) (AV.tuple [AV.agg [AV.str [], AV.str [], AV.int IntKind.i64 (0 : Int), AV.sl SK.sh [], AV.sl SK.sh [], AV.sl SK.sh [], AV.sl SK.sh [], AV.str [], AV.int IntKind.i64 (0 : Int), AV.str [], AV.bool false], AV.bool false]) (show Gives cfg (48 : FuncId) [AV.sl SK.sh (List.map encPd l), AV.str s] (AV.tuple [AV.agg findPdZ, AV.bool false]) from f') ⟨rfl, rfl⟩ ⟨rfl, rfl⟩ <| .tt <| .fin ((ARes.ret (AV.tuple [AV.str [], AV.bool true]), { boxes := [[AV.str [], AV.str [], AV.int IntKind.i64 (0 : Int), AV.sl SK.sh [], AV.sl SK.sh [], AV.sl SK.sh [], AV.sl SK.sh [], AV.str [], AV.int IntKind.i64 (0 : Int), AV.str [], AV.bool false]], toks := [], loops := [] : Heap })) rfl) (by kernel_rfl)
  | some p =>
    rw [ho] at f
    have f' : Gives cfg 48 [.sl .sh (l.map encPd), .str s] (.tuple [encPd p, .bool true]) := f
    have h := al_any_loop bs l p hb hn hl (hl p (findG_mem ho)) hs bs 0 [] rfl
    exact goG 90 []  trivial  (.callG ([AV.sl SK.sh (List.map encPd l), AV.str s]) (AV.tuple [AV.agg [AV.str p.name, AV.str p.owner, AV.int IntKind.i64 p.prio, AV.sl SK.sh (List.map encA p.need), AV.sl SK.sh (List.map encP p.labels), AV.sl SK.sh (List.map encM p.sel), AV.sl SK.sh (List.map encL p.tols), AV.str p.key, AV.int IntKind.i64 p.most, AV.str p.node, AV.bool p.hold], AV.bool true]) (show Gives cfg (48 : FuncId) [AV.sl SK.sh (List.map encPd l), AV.str s] (AV.tuple [encPd p, AV.bool true]) from f') ⟨rfl, rfl⟩ ⟨rfl, rfl⟩ <| .ff <| .len (show lenA false (AV.sl SK.sh (List.map encB bs)) = some (AV.int IntKind.i64 (↑bs.length : Int)) from len_map _) <| .cutQ k25_0 [(1, AV.sl SK.sh (List.map encPd l)), (8, AV.ptr (0 : Nat) (0 : Nat)), (20, AV.sl SK.sh (List.map encB bs)), (21, AV.int IntKind.i64 (↑bs.length : Int)), (22, AV.int IntKind.i64 (0 : Int))] ({ boxes := [[AV.str p.name, AV.str p.owner, AV.int IntKind.i64 p.prio, AV.sl SK.sh (List.map encA p.need), AV.sl SK.sh (List.map encP p.labels), AV.sl SK.sh (List.map encM p.sel), AV.sl SK.sh (List.map encL p.tols), AV.str p.key, AV.int IntKind.i64 p.most, AV.str p.node, AV.bool p.hold]], toks := [], loops := [] : Heap }) (fun T hT => (h T hT))) (by kernel_rfl)
theorem al_refN (bs : List Bud) (xs : List (List AV)) (hb : bs.length ≤ 20) : ∀ (T : Env) (hT : Has T [(0, .sl .sh (bs.map encB)), (9, .bool false), (10, .int .i64 ((0 : Nat) : Int))]), Goes cfg a26 k26_0 T ⟨xs, [], []⟩ (IsRet (alV ([], true))) := by
  intro T hT
  by_cases hb0 : bs.length = 0
  · exact goG 60 _  hT  (.len (show lenA false (AV.sl SK.sh (List.map encB bs)) = some (AV.int IntKind.i64 (↑bs.length : Int)) from len_map _) <| .no (show (decide ((↑(0 : Nat) : Int) < (↑bs.length : Int))) = false from decide_eq_false (show ¬ ((↑(0 : Nat) : Int) < (↑bs.length : Int)) from (by omega))) <| .ff <| .fin ((ARes.ret (AV.tuple [AV.str [], AV.bool true]), { boxes := xs, toks := [], loops := [] : Heap })) rfl) (by kernel_rfl)
  · exact goG 60 _  hT  (.len (show lenA false (AV.sl SK.sh (List.map encB bs)) = some (AV.int IntKind.i64 (↑bs.length : Int)) from len_map _) <| .yes (show (decide ((↑(0 : Nat) : Int) < (↑bs.length : Int))) = true from decide_eq_true (show (↑(0 : Nat) : Int) < (↑bs.length : Int) from (by omega))) <| .ff <| .fin ((ARes.ret (AV.tuple [AV.str [], AV.bool true]), { boxes := xs, toks := [], loops := [] : Heap })) rfl) (by kernel_rfl)
theorem al_ref_loop (bs : List Bud) (l : List Pod) (p : Pod) (hb : bs.length ≤ 20) (hn : l.length < 9223372036854775807) (hl : ∀ x ∈ l, x.labels.length < 9223372036854775807) (hp : p.labels.length < 9223372036854775807) (hs : ∀ b ∈ bs, b.sel.length < 9223372036854775807) : ∀ (post : List Bud) (i : Nat) (xs : List (List AV)) (hd : bs.drop i = post) (T : Env) (hT : Has T [(1, .sl .sh (l.map encPd)), (8, .ptr 0 0), (0, .sl .sh (bs.map encB)), (9, .bool true), (10, .int .i64 i)]),
    Goes cfg a26 k26_0 T ⟨(encPd p).cells :: xs, [], []⟩ (IsRet (alV (alB l p post))) := by
  intro post
  induction post with
  | nil =>
    intro i xs hd T hT
    have hge := drop_ge hd
    exact goG 60 _  hT  (.len (show lenA false (AV.sl SK.sh (List.map encB bs)) = some (AV.int IntKind.i64 (↑bs.length : Int)) from len_map _) <| .no (show (decide ((↑i : Int) < (↑bs.length : Int))) = false from decide_eq_false (show ¬ ((↑i : Int) < (↑bs.length : Int)) from (by omega))) <| .ff <| .fin ((ARes.ret (AV.tuple [AV.str [], AV.bool true]), { boxes := [AV.str p.name, AV.str p.owner, AV.int IntKind.i64 p.prio, AV.sl SK.sh (List.map encA p.need), AV.sl SK.sh (List.map encP p.labels), AV.sl SK.sh (List.map encM p.sel), AV.sl SK.sh (List.map encL p.tols), AV.str p.key, AV.int IntKind.i64 p.most, AV.str p.node, AV.bool p.hold] :: xs, toks := [], loops := [] : Heap })) rfl) (by kernel_rfl)
  | cons b post ih =>
    intro i xs hd T hT
    have hlt := drop_lt hd
    have hnx := drop_next hd
    have hc := count_ref b l hn hl (hs b (drop_mem hd))
    have hk := cnt_ref b p hp (hs b (drop_mem hd))
    by_cases hq : stopB l p b = true
    · have e : alB l p (b :: post) = (b.name, false) := by simp [alB, hq]
      rw [e]
      simp only [stopB, Bool.and_eq_true, decide_eq_true_eq] at hq
      obtain ⟨q1, q2⟩ := hq
      rw [q1] at hk
      exact goG 90 _  hT  (.len (show lenA false (AV.sl SK.sh (List.map encB bs)) = some (AV.int IntKind.i64 (↑bs.length : Int)) from len_map _) <| .yes (show (decide ((↑i : Int) < (↑bs.length : Int))) = true from decide_eq_true (show (↑i : Int) < (↑bs.length : Int) from (by omega))) <| .tt <| .idx (show idxA (3 : Nat) (AV.sl SK.sh (List.map encB bs)) (AV.int IntKind.i64 (↑i : Int)) = some (AV.ref (encB b).cells) from idx_row hd (by rfl)) <| .load (show loadA true (3 : Nat) { boxes := [AV.str p.name, AV.str p.owner, AV.int IntKind.i64 p.prio, AV.sl SK.sh (List.map encA p.need), AV.sl SK.sh (List.map encP p.labels), AV.sl SK.sh (List.map encM p.sel), AV.sl SK.sh (List.map encL p.tols), AV.str p.key, AV.int IntKind.i64 p.most, AV.str p.node, AV.bool p.hold] :: xs, toks := [], loops := [] : Heap } (AV.ref [AV.str b.name, AV.sl SK.sh (List.map encM b.sel), AV.int IntKind.i64 b.floor]) = some (AV.agg [AV.str b.name, AV.sl SK.sh (List.map encM b.sel), AV.int IntKind.i64 b.floor]) from rfl) <| .load (show loadA true (11 : Nat) { boxes := [AV.str p.name, AV.str p.owner, AV.int IntKind.i64 p.prio, AV.sl SK.sh (List.map encA p.need), AV.sl SK.sh (List.map encP p.labels), AV.sl SK.sh (List.map encM p.sel), AV.sl SK.sh (List.map encL p.tols), AV.str p.key, AV.int IntKind.i64 p.most, AV.str p.node, AV.bool p.hold] :: xs, toks := [], loops := [] : Heap } (AV.ptr (0 : Nat) (0 : Nat)) = some (AV.agg [AV.str p.name, AV.str p.owner, AV.int IntKind.i64 p.prio, AV.sl SK.sh (List.map encA p.need), AV.sl SK.sh (List.map encP p.labels), AV.sl SK.sh (List.map encM p.sel), AV.sl SK.sh (List.map encL p.tols), AV.str p.key, AV.int IntKind.i64 p.most, AV.str p.node, AV.bool p.hold]) from load_box (cs := [AV.str p.name, AV.str p.owner, AV.int IntKind.i64 p.prio, AV.sl SK.sh (List.map encA p.need), AV.sl SK.sh (List.map encP p.labels), AV.sl SK.sh (List.map encM p.sel), AV.sl SK.sh (List.map encL p.tols), AV.str p.key, AV.int IntKind.i64 p.most, AV.str p.node, AV.bool p.hold]) (by simp) rfl) <| .callG ([AV.agg [AV.str b.name, AV.sl SK.sh (List.map encM b.sel), AV.int IntKind.i64 b.floor], AV.agg [AV.str p.name, AV.str p.owner, AV.int IntKind.i64 p.prio, AV.sl SK.sh (List.map encA p.need), AV.sl SK.sh (List.map encP p.labels), AV.sl SK.sh (List.map encM p.sel), AV.sl SK.sh (List.map encL p.tols), AV.str p.key, AV.int IntKind.i64 p.most, AV.str p.node, AV.bool p.hold]]) (AV.bool true) (show Gives cfg (67 : FuncId) [encB b, encPd p] (AV.bool true) from hk) ⟨rfl, rfl⟩ ⟨rfl, rfl⟩ <| .tt <| .idx (show idxA (3 : Nat) (AV.sl SK.sh (List.map encB bs)) (AV.int IntKind.i64 (↑i : Int)) = some (AV.ref (encB b).cells) from idx_row hd (by rfl)) <| .load (show loadA true (3 : Nat) { boxes := [AV.str p.name, AV.str p.owner, AV.int IntKind.i64 p.prio, AV.sl SK.sh (List.map encA p.need), AV.sl SK.sh (List.map encP p.labels), AV.sl SK.sh (List.map encM p.sel), AV.sl SK.sh (List.map encL p.tols), AV.str p.key, AV.int IntKind.i64 p.most, AV.str p.node, AV.bool p.hold] :: xs, toks := [], loops := [] : Heap } (AV.ref [AV.str b.name, AV.sl SK.sh (List.map encM b.sel), AV.int IntKind.i64 b.floor]) = some (AV.agg [AV.str b.name, AV.sl SK.sh (List.map encM b.sel), AV.int IntKind.i64 b.floor]) from rfl) <| .callG ([AV.agg [AV.str b.name, AV.sl SK.sh (List.map encM b.sel), AV.int IntKind.i64 b.floor], AV.sl SK.sh (List.map encPd l)]) (AV.int IntKind.i64 (↑(countB b l) : Int)) (show Gives cfg (22 : FuncId) [encB b, AV.sl SK.sh (List.map encPd l)] (AV.int IntKind.i64 (↑(countB b l) : Int)) from hc) ⟨rfl, rfl⟩ ⟨rfl, rfl⟩ <| .idx (show idxA (3 : Nat) (AV.sl SK.sh (List.map encB bs)) (AV.int IntKind.i64 (↑i : Int)) = some (AV.ref (encB b).cells) from idx_row hd (by rfl)) <| .load (show loadA false (1 : Nat) { boxes := [AV.str p.name, AV.str p.owner, AV.int IntKind.i64 p.prio, AV.sl SK.sh (List.map encA p.need), AV.sl SK.sh (List.map encP p.labels), AV.sl SK.sh (List.map encM p.sel), AV.sl SK.sh (List.map encL p.tols), AV.str p.key, AV.int IntKind.i64 p.most, AV.str p.node, AV.bool p.hold] :: xs, toks := [], loops := [] : Heap } (AV.ref [AV.int IntKind.i64 b.floor]) = some (AV.int IntKind.i64 b.floor) from rfl) <| .yes (show (decide ((↑(countB b l) : Int) ≤ b.floor)) = true from decide_eq_true (show (↑(countB b l) : Int) ≤ b.floor from (by omega))) <| .idx (show idxA (3 : Nat) (AV.sl SK.sh (List.map encB bs)) (AV.int IntKind.i64 (↑i : Int)) = some (AV.ref (encB b).cells) from idx_row hd (by rfl)) <| .load (show loadA false (1 : Nat) { boxes := [AV.str p.name, AV.str p.owner, AV.int IntKind.i64 p.prio, AV.sl SK.sh (List.map encA p.need), AV.sl SK.sh (List.map encP p.labels), AV.sl SK.sh (List.map encM p.sel), AV.sl SK.sh (List.map encL p.tols), AV.str p.key, AV.int IntKind.i64 p.most, AV.str p.node, AV.bool p.hold] :: xs, toks := [], loops := [] : Heap } (AV.ref [AV.str b.name]) = some (AV.str b.name) from rfl) <| .fin ((ARes.ret (AV.tuple [AV.str b.name, AV.bool false]), { boxes := [AV.str p.name, AV.str p.owner, AV.int IntKind.i64 p.prio, AV.sl SK.sh (List.map encA p.need), AV.sl SK.sh (List.map encP p.labels), AV.sl SK.sh (List.map encM p.sel), AV.sl SK.sh (List.map encL p.tols), AV.str p.key, AV.int IntKind.i64 p.most, AV.str p.node, AV.bool p.hold] :: xs, toks := [], loops := [] : Heap })) rfl) (by kernel_rfl)
    · have e : alB l p (b :: post) = alB l p post := by simp [alB, hq]
      rw [e]
      by_cases q1 : cntB b p = true
      · have q2 : ¬ (countB b l : Int) ≤ b.floor := by
          intro h; exact hq (by simp [stopB, q1, h])
        rw [q1] at hk
        exact goG 90 _  hT  (.len (show lenA false (AV.sl SK.sh (List.map encB bs)) = some (AV.int IntKind.i64 (↑bs.length : Int)) from len_map _) <| .yes (show (decide ((↑i : Int) < (↑bs.length : Int))) = true from decide_eq_true (show (↑i : Int) < (↑bs.length : Int) from (by omega))) <| .tt <| .idx (show idxA (3 : Nat) (AV.sl SK.sh (List.map encB bs)) (AV.int IntKind.i64 (↑i : Int)) = some (AV.ref (encB b).cells) from idx_row hd (by rfl)) <| .load (show loadA true (3 : Nat) { boxes := [AV.str p.name, AV.str p.owner, AV.int IntKind.i64 p.prio, AV.sl SK.sh (List.map encA p.need), AV.sl SK.sh (List.map encP p.labels), AV.sl SK.sh (List.map encM p.sel), AV.sl SK.sh (List.map encL p.tols), AV.str p.key, AV.int IntKind.i64 p.most, AV.str p.node, AV.bool p.hold] :: xs, toks := [], loops := [] : Heap } (AV.ref [AV.str b.name, AV.sl SK.sh (List.map encM b.sel), AV.int IntKind.i64 b.floor]) = some (AV.agg [AV.str b.name, AV.sl SK.sh (List.map encM b.sel), AV.int IntKind.i64 b.floor]) from rfl) <| .load (show loadA true (11 : Nat) { boxes := [AV.str p.name, AV.str p.owner, AV.int IntKind.i64 p.prio, AV.sl SK.sh (List.map encA p.need), AV.sl SK.sh (List.map encP p.labels), AV.sl SK.sh (List.map encM p.sel), AV.sl SK.sh (List.map encL p.tols), AV.str p.key, AV.int IntKind.i64 p.most, AV.str p.node, AV.bool p.hold] :: xs, toks := [], loops := [] : Heap } (AV.ptr (0 : Nat) (0 : Nat)) = some (AV.agg [AV.str p.name, AV.str p.owner, AV.int IntKind.i64 p.prio, AV.sl SK.sh (List.map encA p.need), AV.sl SK.sh (List.map encP p.labels), AV.sl SK.sh (List.map encM p.sel), AV.sl SK.sh (List.map encL p.tols), AV.str p.key, AV.int IntKind.i64 p.most, AV.str p.node, AV.bool p.hold]) from load_box (cs := [AV.str p.name, AV.str p.owner, AV.int IntKind.i64 p.prio, AV.sl SK.sh (List.map encA p.need), AV.sl SK.sh (List.map encP p.labels), AV.sl SK.sh (List.map encM p.sel), AV.sl SK.sh (List.map encL p.tols), AV.str p.key, AV.int IntKind.i64 p.most, AV.str p.node, AV.bool p.hold]) (by simp) rfl) <| .callG ([AV.agg [AV.str b.name, AV.sl SK.sh (List.map encM b.sel), AV.int IntKind.i64 b.floor], AV.agg [AV.str p.name, AV.str p.owner, AV.int IntKind.i64 p.prio, AV.sl SK.sh (List.map encA p.need), AV.sl SK.sh (List.map encP p.labels), AV.sl SK.sh (List.map encM p.sel), AV.sl SK.sh (List.map encL p.tols), AV.str p.key, AV.int IntKind.i64 p.most, AV.str p.node, AV.bool p.hold]]) (AV.bool true) (show Gives cfg (67 : FuncId) [encB b, encPd p] (AV.bool true) from hk) ⟨rfl, rfl⟩ ⟨rfl, rfl⟩ <| .tt <| .idx (show idxA (3 : Nat) (AV.sl SK.sh (List.map encB bs)) (AV.int IntKind.i64 (↑i : Int)) = some (AV.ref (encB b).cells) from idx_row hd (by rfl)) <| .load (show loadA true (3 : Nat) { boxes := [AV.str p.name, AV.str p.owner, AV.int IntKind.i64 p.prio, AV.sl SK.sh (List.map encA p.need), AV.sl SK.sh (List.map encP p.labels), AV.sl SK.sh (List.map encM p.sel), AV.sl SK.sh (List.map encL p.tols), AV.str p.key, AV.int IntKind.i64 p.most, AV.str p.node, AV.bool p.hold] :: xs, toks := [], loops := [] : Heap } (AV.ref [AV.str b.name, AV.sl SK.sh (List.map encM b.sel), AV.int IntKind.i64 b.floor]) = some (AV.agg [AV.str b.name, AV.sl SK.sh (List.map encM b.sel), AV.int IntKind.i64 b.floor]) from rfl) <| .callG ([AV.agg [AV.str b.name, AV.sl SK.sh (List.map encM b.sel), AV.int IntKind.i64 b.floor], AV.sl SK.sh (List.map encPd l)]) (AV.int IntKind.i64 (↑(countB b l) : Int)) (show Gives cfg (22 : FuncId) [encB b, AV.sl SK.sh (List.map encPd l)] (AV.int IntKind.i64 (↑(countB b l) : Int)) from hc) ⟨rfl, rfl⟩ ⟨rfl, rfl⟩ <| .idx (show idxA (3 : Nat) (AV.sl SK.sh (List.map encB bs)) (AV.int IntKind.i64 (↑i : Int)) = some (AV.ref (encB b).cells) from idx_row hd (by rfl)) <| .load (show loadA false (1 : Nat) { boxes := [AV.str p.name, AV.str p.owner, AV.int IntKind.i64 p.prio, AV.sl SK.sh (List.map encA p.need), AV.sl SK.sh (List.map encP p.labels), AV.sl SK.sh (List.map encM p.sel), AV.sl SK.sh (List.map encL p.tols), AV.str p.key, AV.int IntKind.i64 p.most, AV.str p.node, AV.bool p.hold] :: xs, toks := [], loops := [] : Heap } (AV.ref [AV.int IntKind.i64 b.floor]) = some (AV.int IntKind.i64 b.floor) from rfl) <| .no (show (decide ((↑(countB b l) : Int) ≤ b.floor)) = false from decide_eq_false (show ¬ ((↑(countB b l) : Int) ≤ b.floor) from (by omega))) <| .bin (show binA BinOp.add (AV.int IntKind.i64 (↑i : Int)) (AV.int IntKind.i64 (1 : Int)) = some (AV.int IntKind.i64 (↑(i + (1 : Nat)) : Int)) from inc_i (by omega)) <| .cutQ k26_0 [(1, AV.sl SK.sh (List.map encPd l)), (8, AV.ptr (0 : Nat) (0 : Nat)), (0, AV.sl SK.sh (List.map encB bs)), (9, AV.bool true), (10, AV.int IntKind.i64 (↑(i + (1 : Nat)) : Int))] ({ boxes := [AV.str p.name, AV.str p.owner, AV.int IntKind.i64 p.prio, AV.sl SK.sh (List.map encA p.need), AV.sl SK.sh (List.map encP p.labels), AV.sl SK.sh (List.map encM p.sel), AV.sl SK.sh (List.map encL p.tols), AV.str p.key, AV.int IntKind.i64 p.most, AV.str p.node, AV.bool p.hold] :: xs, toks := [], loops := [] : Heap }) (fun T hT => (ih (i + (1 : Nat)) (xs) hnx T hT))) (by kernel_rfl)
      · rw [Bool.eq_false_iff.2 q1] at hk
        exact goG 90 _  hT  (.len (show lenA false (AV.sl SK.sh (List.map encB bs)) = some (AV.int IntKind.i64 (↑bs.length : Int)) from len_map _) <| .yes (show (decide ((↑i : Int) < (↑bs.length : Int))) = true from decide_eq_true (show (↑i : Int) < (↑bs.length : Int) from (by omega))) <| .tt <| .idx (show idxA (3 : Nat) (AV.sl SK.sh (List.map encB bs)) (AV.int IntKind.i64 (↑i : Int)) = some (AV.ref (encB b).cells) from idx_row hd (by rfl)) <| .load (show loadA true (3 : Nat) { boxes := [AV.str p.name, AV.str p.owner, AV.int IntKind.i64 p.prio, AV.sl SK.sh (List.map encA p.need), AV.sl SK.sh (List.map encP p.labels), AV.sl SK.sh (List.map encM p.sel), AV.sl SK.sh (List.map encL p.tols), AV.str p.key, AV.int IntKind.i64 p.most, AV.str p.node, AV.bool p.hold] :: xs, toks := [], loops := [] : Heap } (AV.ref [AV.str b.name, AV.sl SK.sh (List.map encM b.sel), AV.int IntKind.i64 b.floor]) = some (AV.agg [AV.str b.name, AV.sl SK.sh (List.map encM b.sel), AV.int IntKind.i64 b.floor]) from rfl) <| .load (show loadA true (11 : Nat) { boxes := [AV.str p.name, AV.str p.owner, AV.int IntKind.i64 p.prio, AV.sl SK.sh (List.map encA p.need), AV.sl SK.sh (List.map encP p.labels), AV.sl SK.sh (List.map encM p.sel), AV.sl SK.sh (List.map encL p.tols), AV.str p.key, AV.int IntKind.i64 p.most, AV.str p.node, AV.bool p.hold] :: xs, toks := [], loops := [] : Heap } (AV.ptr (0 : Nat) (0 : Nat)) = some (AV.agg [AV.str p.name, AV.str p.owner, AV.int IntKind.i64 p.prio, AV.sl SK.sh (List.map encA p.need), AV.sl SK.sh (List.map encP p.labels), AV.sl SK.sh (List.map encM p.sel), AV.sl SK.sh (List.map encL p.tols), AV.str p.key, AV.int IntKind.i64 p.most, AV.str p.node, AV.bool p.hold]) from load_box (cs := [AV.str p.name, AV.str p.owner, AV.int IntKind.i64 p.prio, AV.sl SK.sh (List.map encA p.need), AV.sl SK.sh (List.map encP p.labels), AV.sl SK.sh (List.map encM p.sel), AV.sl SK.sh (List.map encL p.tols), AV.str p.key, AV.int IntKind.i64 p.most, AV.str p.node, AV.bool p.hold]) (by simp) rfl) <| .callG ([AV.agg [AV.str b.name, AV.sl SK.sh (List.map encM b.sel), AV.int IntKind.i64 b.floor], AV.agg [AV.str p.name, AV.str p.owner, AV.int IntKind.i64 p.prio, AV.sl SK.sh (List.map encA p.need), AV.sl SK.sh (List.map encP p.labels), AV.sl SK.sh (List.map encM p.sel), AV.sl SK.sh (List.map encL p.tols), AV.str p.key, AV.int IntKind.i64 p.most, AV.str p.node, AV.bool p.hold]]) (AV.bool false) (show Gives cfg (67 : FuncId) [encB b, encPd p] (AV.bool false) from hk) ⟨rfl, rfl⟩ ⟨rfl, rfl⟩ <| .ff <| .ff <| .bin (show binA BinOp.add (AV.int IntKind.i64 (↑i : Int)) (AV.int IntKind.i64 (1 : Int)) = some (AV.int IntKind.i64 (↑(i + (1 : Nat)) : Int)) from inc_i (by omega)) <| .cutQ k26_0 [(1, AV.sl SK.sh (List.map encPd l)), (8, AV.ptr (0 : Nat) (0 : Nat)), (0, AV.sl SK.sh (List.map encB bs)), (9, AV.bool true), (10, AV.int IntKind.i64 (↑(i + (1 : Nat)) : Int))] ({ boxes := [AV.str p.name, AV.str p.owner, AV.int IntKind.i64 p.prio, AV.sl SK.sh (List.map encA p.need), AV.sl SK.sh (List.map encP p.labels), AV.sl SK.sh (List.map encM p.sel), AV.sl SK.sh (List.map encL p.tols), AV.str p.key, AV.int IntKind.i64 p.most, AV.str p.node, AV.bool p.hold] :: xs, toks := [], loops := [] : Heap }) (fun T hT => (ih (i + (1 : Nat)) (xs) hnx T hT))) (by kernel_rfl)
theorem al_ref (bs : List Bud) (l : List Pod) (s : List UInt8) (hb : bs.length ≤ 20) (hn : l.length < 9223372036854775807) (hl : ∀ x ∈ l, x.labels.length < 9223372036854775807) (hs : ∀ b ∈ bs, b.sel.length < 9223372036854775807) : Gives cfg 26 [.sl .sh (bs.map encB), .sl .sh (l.map encPd), .str s] (alV (allowsB bs l s)) := by
  refine Gives.run (l26 _ _) ?_
  have f := findPd_ref l s hn
  unfold allowsB
  cases ho : findG Pod.name l s with
  | none =>
    rw [ho] at f
    have f' : Gives cfg 49 [.sl .sh (l.map encPd), .str s] (.tuple [.agg findPdZ, .bool false]) := f
    exact goG 90 []  trivial  (.callG ([AV.sl SK.sh (List.map encPd l), AV.str s]) (AV.tuple [AV.agg [AV.str [], AV.str [], AV.int IntKind.i64 (0 : Int), AV.sl SK.sh [], AV.sl SK.sh [], AV.sl SK.sh [], AV.sl SK.sh [], AV.str [], AV.int IntKind.i64 (0 : Int), AV.str [], AV.bool false], AV.bool false]) (show Gives cfg (49 : FuncId) [AV.sl SK.sh (List.map encPd l), AV.str s] (AV.tuple [AV.agg findPdZ, AV.bool false]) from f') ⟨rfl, rfl⟩ ⟨rfl, rfl⟩ <| .cutQ k26_0 [(0, AV.sl SK.sh (List.map encB bs)), (9, AV.bool false), (10, AV.int IntKind.i64 (0 : Int))] ({ boxes := [[AV.str [], AV.str [], AV.int IntKind.i64 (0 : Int), AV.sl SK.sh [], AV.sl SK.sh [], AV.sl SK.sh [], AV.sl SK.sh [], AV.str [], AV.int IntKind.i64 (0 : Int), AV.str [], AV.bool false]], toks := [], loops := [] : Heap }) (fun T hT => (al_refN (bs) ([[AV.str [], AV.str [], AV.int IntKind.i64 (0 : Int), AV.sl SK.sh [], AV.sl SK.sh [], AV.sl SK.sh [], AV.sl SK.sh [], AV.str [], AV.int IntKind.i64 (0 : Int), AV.str [], AV.bool false]]) hb T hT))) (by kernel_rfl)
  | some p =>
    rw [ho] at f
    have f' : Gives cfg 49 [.sl .sh (l.map encPd), .str s] (.tuple [encPd p, .bool true]) := f
    have h := al_ref_loop bs l p hb hn hl (hl p (findG_mem ho)) hs bs 0 [] rfl
    exact goG 90 []  trivial  (.callG ([AV.sl SK.sh (List.map encPd l), AV.str s]) (AV.tuple [AV.agg [AV.str p.name, AV.str p.owner, AV.int IntKind.i64 p.prio, AV.sl SK.sh (List.map encA p.need), AV.sl SK.sh (List.map encP p.labels), AV.sl SK.sh (List.map encM p.sel), AV.sl SK.sh (List.map encL p.tols), AV.str p.key, AV.int IntKind.i64 p.most, AV.str p.node, AV.bool p.hold], AV.bool true]) (show Gives cfg (49 : FuncId) [AV.sl SK.sh (List.map encPd l), AV.str s] (AV.tuple [encPd p, AV.bool true]) from f') ⟨rfl, rfl⟩ ⟨rfl, rfl⟩ <| .cutQ k26_0 [(1, AV.sl SK.sh (List.map encPd l)), (8, AV.ptr (0 : Nat) (0 : Nat)), (0, AV.sl SK.sh (List.map encB bs)), (9, AV.bool true), (10, AV.int IntKind.i64 (0 : Int))] ({ boxes := [[AV.str p.name, AV.str p.owner, AV.int IntKind.i64 p.prio, AV.sl SK.sh (List.map encA p.need), AV.sl SK.sh (List.map encP p.labels), AV.sl SK.sh (List.map encM p.sel), AV.sl SK.sh (List.map encL p.tols), AV.str p.key, AV.int IntKind.i64 p.most, AV.str p.node, AV.bool p.hold]], toks := [], loops := [] : Heap }) (fun T hT => (h T hT))) (by kernel_rfl)
end Go.Aa.T

set_option linter.unusedVariables false
set_option linter.unusedSimpArgs false
set_option maxRecDepth 100000
namespace Go.Aa.T
open Go.Aa Go.Proofs
theorem ckPd_lens {p : Pod} (h : fewPd p = true) : p.labels.length < 9223372036854775807 := by
  have := (fewPod h).labels; omega
theorem ckAl_all {X : Type} {ck : X → Int} {nm : X → List UInt8} {s : List X} : ∀ {post : List X} {i : Nat}, ckAl ck nm s i post = 0 → ∀ x ∈ post, ck x = 0
  | [], _, _ => by simp
  | x :: post, i, h => by
    unfold ckAl at h
    split at h
    · rename_i hx
      split at h
      · cases h
      · intro y hy
        rcases List.mem_cons.1 hy with rfl | hy
        · exact hx
        · exact ckAl_all h y hy
    · rename_i hx; exact absurd h hx
theorem ckAll_all {X : Type} {most : Nat} {ck : X → Int} {nm : X → List UInt8} {s : List X} (h : ckAll most ck nm s = 0) : s.length ≤ most ∧ ∀ x ∈ s, ck x = 0 := by
  unfold ckAll at h
  split at h
  · rename_i hl; exact ⟨hl, ckAl_all h⟩
  · cases h
theorem budOk {b : Bud} (h : ckB b = 0) : isName b.name = true ∧ ckM b.sel = 0 ∧ 0 ≤ b.floor ∧ b.floor ≤ 128 := by
  have hz := firstE_zero h
  simp only [List.mem_cons, List.not_mem_nil, or_false, forall_eq_or_imp, forall_eq] at hz
  obtain ⟨h1, h2, h3⟩ := hz
  refine ⟨?_, h2, ?_⟩
  · revert h1; cases isName b.name <;> simp
  · unfold floorE at h3
    split at h3
    · cases h3
    · split at h3
      · cases h3
      · omega
theorem known13' : Gives cfg 13 [] (.bool true) := by
  obtain ⟨H, h⟩ := known_ret13
  exact Gives.of h
theorem budgetAny_end (bs : List Bud) (l : List Pod) (s : List UInt8) (hbs : fewBs bs = true) (hn : l.length ≤ 40) (hf : ∀ x ∈ l, fewPd x = true) (eb : ckAll 8 ckB Bud.name bs = 0) : ∀ (post : List Bud) (i : Nat) (hd : bs.drop i = post) (T : Env) (hT : Has T [(0, .sl .sh (bs.map encB)), (1, .sl .sh (l.map encPd)), (2, .str s), (8, .sl .sh (bs.map encB)), (9, .sl .sh (l.map encPd)), (11, .int .i64 i)]),
    Goes cfg a3 k3_1 T Heap.nil (IsRet (.bool true)) := by
  have hb := fewBs_len hbs
  have hl : ∀ x ∈ l, x.labels.length < 9223372036854775807 := fun x hx => ckPd_lens (hf x hx)
  have hs : ∀ b ∈ bs, b.sel.length < 9223372036854775807 := fun b h => by
    have := fewB1_sel (fewBs_all hbs b h); omega
  intro post
  induction post with
  | nil =>
    intro i hd T hT
    have hge := drop_ge hd
    have a1 := al_any bs l s hb (by omega) hl hs
    have a2 := al_ref bs l s hb (by omega) hl hs
    have b1 := br_any bs l hb (by omega) hl hs
    have b2 := br_ref bs l hb (by omega) hl hs
    generalize allowsB bs l s = x at a1 a2
    obtain ⟨x, y⟩ := x
    have a1' : Gives cfg 25 [.sl .sh (bs.map encB), .sl .sh (l.map encPd), .str s] (.tuple [.str x, .bool y]) := a1
    have a2' : Gives cfg 26 [.sl .sh (bs.map encB), .sl .sh (l.map encPd), .str s] (.tuple [.str x, .bool y]) := a2
    have hbl : (brB bs l).length ≤ 20 := by
      simp only [brB, List.length_map]
      exact Nat.le_trans (List.length_filter_le _ _) hb
    have nn := names_any (brB bs l) (brB bs l) (by omega)
    rw [same2_refl eqS_iff] at nn
    generalize brB bs l = z at b1 b2 nn
    exact goG 120 _  hT  (.len (show lenA false (AV.sl SK.sh (List.map encB bs)) = some (AV.int IntKind.i64 (↑bs.length : Int)) from len_map _) <| .no (show (decide ((↑i : Int) < (↑bs.length : Int))) = false from decide_eq_false (show ¬ ((↑i : Int) < (↑bs.length : Int)) from (by omega))) <| .callG ([AV.sl SK.sh (List.map encB bs), AV.sl SK.sh (List.map encPd l), AV.str s]) (AV.tuple [AV.str x, AV.bool y]) (show Gives cfg (25 : FuncId) [AV.sl SK.sh (List.map encB bs), AV.sl SK.sh (List.map encPd l), AV.str s] (AV.tuple [AV.str x, AV.bool y]) from a1') ⟨rfl, rfl⟩ ⟨rfl, rfl⟩ <| .callG ([AV.sl SK.sh (List.map encB bs), AV.sl SK.sh (List.map encPd l), AV.str s]) (AV.tuple [AV.str x, AV.bool y]) (show Gives cfg (26 : FuncId) [AV.sl SK.sh (List.map encB bs), AV.sl SK.sh (List.map encPd l), AV.str s] (AV.tuple [AV.str x, AV.bool y]) from a2') ⟨rfl, rfl⟩ ⟨rfl, rfl⟩ <| .yes (show (x == x) = true from (by simp)) <| .yes (show (if false = true then !y == y else y == y) = true from (by simp)) <| .callG ([AV.sl SK.sh (List.map encB bs), AV.sl SK.sh (List.map encPd l)]) (AV.sl SK.sh (List.map AV.str z)) (show Gives cfg (28 : FuncId) [AV.sl SK.sh (List.map encB bs), AV.sl SK.sh (List.map encPd l)] (rowF AV.str z) from b1) ⟨rfl, rfl⟩ Res.p <| .callG ([AV.sl SK.sh (List.map encB bs), AV.sl SK.sh (List.map encPd l)]) (AV.sl SK.sh (List.map AV.str z)) (show Gives cfg (29 : FuncId) [AV.sl SK.sh (List.map encB bs), AV.sl SK.sh (List.map encPd l)] (rowF AV.str z) from b2) ⟨rfl, rfl⟩ Res.p <| .callG ([AV.sl SK.sh (List.map AV.str z), AV.sl SK.sh (List.map AV.str z)]) (AV.bool true) (show Gives cfg (27 : FuncId) [AV.sl SK.sh (List.map AV.str z), AV.sl SK.sh (List.map AV.str z)] (AV.bool true) from nn) ⟨rfl, rfl⟩ ⟨rfl, rfl⟩ <| .fin ((ARes.ret (AV.bool true), { boxes := [], toks := [], loops := [] : Heap })) rfl) (by kernel_rfl)
  | cons b post ih =>
    intro i hd T hT
    have hlt := drop_lt hd
    have hnx := drop_next hd
    have hm := drop_mem hd
    obtain ⟨o1, o2, o3, o4⟩ := budOk ((ckAll_all eb).2 b hm)
    have c1 := count_any b l (by omega) hl (hs b hm)
    have c2 := count_ref b l (by omega) hl (hs b hm)
    have t1 := textB_any b (fewBs_all hbs b hm) o3 o4
    have t2 := textB_ref b (fewBs_all hbs b hm) o2 o3 o4
    exact goG 120 _  hT  (.len (show lenA false (AV.sl SK.sh (List.map encB bs)) = some (AV.int IntKind.i64 (↑bs.length : Int)) from len_map _) <| .yes (show (decide ((↑i : Int) < (↑bs.length : Int))) = true from decide_eq_true (show (↑i : Int) < (↑bs.length : Int) from (by omega))) <| .idx (show idxA (3 : Nat) (AV.sl SK.sh (List.map encB bs)) (AV.int IntKind.i64 (↑i : Int)) = some (AV.ref (encB b).cells) from idx_row hd (by rfl)) <| .callG ([AV.agg [AV.str b.name, AV.sl SK.sh (List.map encM b.sel), AV.int IntKind.i64 b.floor], AV.sl SK.sh (List.map encPd l)]) (AV.int IntKind.i64 (↑(countB b l) : Int)) (show Gives cfg (21 : FuncId) [encB b, AV.sl SK.sh (List.map encPd l)] (AV.int IntKind.i64 (↑(countB b l) : Int)) from c1) ⟨rfl, rfl⟩ ⟨rfl, rfl⟩ <| .idx (show idxA (3 : Nat) (AV.sl SK.sh (List.map encB bs)) (AV.int IntKind.i64 (↑i : Int)) = some (AV.ref (encB b).cells) from idx_row hd (by rfl)) <| .callG ([AV.agg [AV.str b.name, AV.sl SK.sh (List.map encM b.sel), AV.int IntKind.i64 b.floor], AV.sl SK.sh (List.map encPd l)]) (AV.int IntKind.i64 (↑(countB b l) : Int)) (show Gives cfg (22 : FuncId) [encB b, AV.sl SK.sh (List.map encPd l)] (AV.int IntKind.i64 (↑(countB b l) : Int)) from c2) ⟨rfl, rfl⟩ ⟨rfl, rfl⟩ <| .no (show ((↑(countB b l) : Int) != (↑(countB b l) : Int)) = false from Bool.eq_false_iff.2 (show ¬ (((↑(countB b l) : Int) != (↑(countB b l) : Int)) = true) from (by simp))) <| .idx (show idxA (3 : Nat) (AV.sl SK.sh (List.map encB bs)) (AV.int IntKind.i64 (↑i : Int)) = some (AV.ref (encB b).cells) from idx_row hd (by rfl)) <| .callG ([AV.agg [AV.str b.name, AV.sl SK.sh (List.map encM b.sel), AV.int IntKind.i64 b.floor]]) (AV.str (textB b)) (show Gives cfg (23 : FuncId) [encB b] (AV.str (textB b)) from t1) ⟨rfl, rfl⟩ ⟨rfl, rfl⟩ <| .idx (show idxA (3 : Nat) (AV.sl SK.sh (List.map encB bs)) (AV.int IntKind.i64 (↑i : Int)) = some (AV.ref (encB b).cells) from idx_row hd (by rfl)) <| .callG ([AV.agg [AV.str b.name, AV.sl SK.sh (List.map encM b.sel), AV.int IntKind.i64 b.floor]]) (AV.str (textB b)) (show Gives cfg (24 : FuncId) [encB b] (AV.str (textB b)) from t2) ⟨rfl, rfl⟩ ⟨rfl, rfl⟩ <| .no (show (!textB b == textB b) = false from by have hh : (textB b == textB b) = true := (by simp); simp [hh]) <| .bin (show binA BinOp.add (AV.int IntKind.i64 (↑i : Int)) (AV.int IntKind.i64 (1 : Int)) = some (AV.int IntKind.i64 (↑(i + (1 : Nat)) : Int)) from inc_i (by omega)) <| .cutQ k3_1 [(0, AV.sl SK.sh (List.map encB bs)), (1, AV.sl SK.sh (List.map encPd l)), (2, AV.str s), (8, AV.sl SK.sh (List.map encB bs)), (9, AV.sl SK.sh (List.map encPd l)), (11, AV.int IntKind.i64 (↑(i + (1 : Nat)) : Int))] ({ boxes := [], toks := [], loops := [] : Heap }) (fun T hT => (ih (i + (1 : Nat)) hnx T hT))) (by kernel_rfl)
theorem budgetAny_loop (bs : List Bud) (l : List Pod) (s : List UInt8) (hbs : fewBs bs = true) (hn : l.length ≤ 40) : ∀ (post : List Pod) (i : Nat) (hd : l.drop i = post) (hpre : ∀ x ∈ l.take i, fewPd x = true) (T : Env) (hT : Has T [(0, .sl .sh (bs.map encB)), (1, .sl .sh (l.map encPd)), (2, .str s), (7, .int .i64 i)]),
    Goes cfg a3 k3_0 T Heap.nil (IsRet (.bool true)) := by
  intro post
  induction post with
  | nil =>
    intro i hd hpre T hT
    have hge := drop_ge hd
    have hf : ∀ x ∈ l, fewPd x = true := by rwa [List.take_of_length_le hge] at hpre
    have hfb := fewBs_all hbs
    have hb := fewBs_len hbs
    have h1 := ckBs_any bs
    have h2 := ckBs_ref bs
    have h3 := ckPds_ref l
    have he := fun e => budgetAny_end bs l s hbs hn hf e bs 0 rfl
    generalize ckAll 8 ckB Bud.name bs = e at h1 h2 he
    generalize ckAll 128 ckPd Pod.name l = e2 at h3
    exact goG 120 _  hT  (.len (show lenA false (AV.sl SK.sh (List.map encPd l)) = some (AV.int IntKind.i64 (↑l.length : Int)) from len_map _) <| .no (show (decide ((↑i : Int) < (↑l.length : Int))) = false from decide_eq_false (show ¬ ((↑i : Int) < (↑l.length : Int)) from (by omega))) <| .callG ([AV.sl SK.sh (List.map encB bs)]) (AV.sl SK.sh (List.map encB bs)) (show Gives cfg (16 : FuncId) [AV.sl SK.sh (List.map encB bs)] (rowS Heap.nil (List.map encB bs)) from ofBs_any _ hb hfb) ⟨rfl, rfl⟩ Res.p <| .callG ([AV.sl SK.sh (List.map encPd l)]) (AV.sl SK.sh (List.map encPd l)) (show Gives cfg (17 : FuncId) [AV.sl SK.sh (List.map encPd l)] (rowS Heap.nil (List.map encPd l)) from ofPds_any _ (by omega) hf) ⟨rfl, rfl⟩ Res.p <| .callG ([AV.sl SK.sh (List.map encB bs)]) (AV.int IntKind.i64 e) (show Gives cfg (18 : FuncId) [AV.sl SK.sh (List.map encB bs)] (AV.int IntKind.i64 e) from h2) ⟨rfl, rfl⟩ ⟨rfl, rfl⟩ <| .callG ([AV.sl SK.sh (List.map encB bs)]) (AV.int IntKind.i64 e) (show Gives cfg (19 : FuncId) [AV.sl SK.sh (List.map encB bs)] (AV.int IntKind.i64 e) from h1) ⟨rfl, rfl⟩ ⟨rfl, rfl⟩ <| .no (show (e != e) = false from Bool.eq_false_iff.2 (show ¬ ((e != e) = true) from (by simp))) <| .split ((e != (0 : Int)) = true) (fun h1 => .yes (show (e != (0 : Int)) = true from h1) <| .tt <| .fin ((ARes.ret (AV.bool true), { boxes := [], toks := [], loops := [] : Heap })) rfl) (fun h1 => .no (show (e != (0 : Int)) = false from Bool.eq_false_iff.2 (show ¬ ((e != (0 : Int)) = true) from h1)) <| .callG ([AV.sl SK.sh (List.map encPd l)]) (AV.int IntKind.i64 e2) (show Gives cfg (20 : FuncId) [AV.sl SK.sh (List.map encPd l)] (AV.int IntKind.i64 e2) from h3) ⟨rfl, rfl⟩ ⟨rfl, rfl⟩ <| .split ((e2 != (0 : Int)) = true) (fun h2 => .yes (show (e2 != (0 : Int)) = true from h2) <| .fin ((ARes.ret (AV.bool true), { boxes := [], toks := [], loops := [] : Heap })) rfl) (fun h2 => .no (show (e2 != (0 : Int)) = false from Bool.eq_false_iff.2 (show ¬ ((e2 != (0 : Int)) = true) from h2)) <| .cutQ k3_1 [(0, AV.sl SK.sh (List.map encB bs)), (1, AV.sl SK.sh (List.map encPd l)), (2, AV.str s), (8, AV.sl SK.sh (List.map encB bs)), (9, AV.sl SK.sh (List.map encPd l)), (11, AV.int IntKind.i64 (0 : Int))] ({ boxes := [], toks := [], loops := [] : Heap }) (fun T hT => (he (by simpa using h1) T hT))))) (by kernel_rfl)
  | cons x post ih =>
    intro i hd hpre T hT
    have hlt := drop_lt hd
    have hnx := drop_next hd
    by_cases hx : fewPd x = true
    · have hpre2 : ∀ y ∈ l.take (i + 1), fewPd y = true := by
        intro y hy
        rw [drop_take hd, List.mem_append] at hy
        rcases hy with hy | hy
        · exact hpre y hy
        · rw [List.mem_singleton.1 hy]; exact hx
      have ih' := ih (i + 1) hnx hpre2
      exact goG 60 _  hT  (.len (show lenA false (AV.sl SK.sh (List.map encPd l)) = some (AV.int IntKind.i64 (↑l.length : Int)) from len_map _) <| .yes (show (decide ((↑i : Int) < (↑l.length : Int))) = true from decide_eq_true (show (↑i : Int) < (↑l.length : Int) from (by omega))) <| .idx (show idxA (11 : Nat) (AV.sl SK.sh (List.map encPd l)) (AV.int IntKind.i64 (↑i : Int)) = some (AV.ref (encPd x).cells) from idx_row hd (by rfl)) <| .callG ([AV.agg [AV.str x.name, AV.str x.owner, AV.int IntKind.i64 x.prio, AV.sl SK.sh (List.map encA x.need), AV.sl SK.sh (List.map encP x.labels), AV.sl SK.sh (List.map encM x.sel), AV.sl SK.sh (List.map encL x.tols), AV.str x.key, AV.int IntKind.i64 x.most, AV.str x.node, AV.bool x.hold]]) (AV.bool (fewPd x)) (show Gives cfg (15 : FuncId) [encPd x] (AV.bool (fewPd x)) from fewPd_any _) ⟨rfl, rfl⟩ ⟨rfl, rfl⟩ <| .no (show (!fewPd x) = false from by have hh : fewPd x = true := (by exact hx); simp [hh]) <| .bin (show binA BinOp.add (AV.int IntKind.i64 (↑i : Int)) (AV.int IntKind.i64 (1 : Int)) = some (AV.int IntKind.i64 (↑(i + (1 : Nat)) : Int)) from inc_i (by omega)) <| .cutQ k3_0 [(0, AV.sl SK.sh (List.map encB bs)), (1, AV.sl SK.sh (List.map encPd l)), (2, AV.str s), (7, AV.int IntKind.i64 (↑(i + (1 : Nat)) : Int))] ({ boxes := [], toks := [], loops := [] : Heap }) (fun T hT => (ih' T hT))) (by kernel_rfl)
    · exact goG 60 _  hT  (.len (show lenA false (AV.sl SK.sh (List.map encPd l)) = some (AV.int IntKind.i64 (↑l.length : Int)) from len_map _) <| .yes (show (decide ((↑i : Int) < (↑l.length : Int))) = true from decide_eq_true (show (↑i : Int) < (↑l.length : Int) from (by omega))) <| .idx (show idxA (11 : Nat) (AV.sl SK.sh (List.map encPd l)) (AV.int IntKind.i64 (↑i : Int)) = some (AV.ref (encPd x).cells) from idx_row hd (by rfl)) <| .callG ([AV.agg [AV.str x.name, AV.str x.owner, AV.int IntKind.i64 x.prio, AV.sl SK.sh (List.map encA x.need), AV.sl SK.sh (List.map encP x.labels), AV.sl SK.sh (List.map encM x.sel), AV.sl SK.sh (List.map encL x.tols), AV.str x.key, AV.int IntKind.i64 x.most, AV.str x.node, AV.bool x.hold]]) (AV.bool (fewPd x)) (show Gives cfg (15 : FuncId) [encPd x] (AV.bool (fewPd x)) from fewPd_any _) ⟨rfl, rfl⟩ ⟨rfl, rfl⟩ <| .yes (show (!fewPd x) = true from by have hh : ¬ (fewPd x = true) := (by exact hx); simp [hh]) <| .fin ((ARes.ret (AV.bool true), { boxes := [], toks := [], loops := [] : Heap })) rfl) (by kernel_rfl)
theorem budgetAny (bs : List Bud) (l : List Pod) (s : List UInt8) : Gives cfg 3 [.sl .sh (bs.map encB), .sl .sh (l.map encPd), .str s] (.bool true) := by
  refine Gives.run (l3 _ _) ?_
  have h := fun hb hn => budgetAny_loop bs l s hb hn l 0 rfl (by simp)
  exact goG 60 []  trivial  (.callG ([]) (AV.bool true) (show Gives cfg (13 : FuncId) [] (AV.bool true) from known13') ⟨rfl, rfl⟩ ⟨rfl, rfl⟩ <| .ff <| .callG ([AV.sl SK.sh (List.map encB bs)]) (AV.bool (fewBs bs)) (show Gives cfg (14 : FuncId) [AV.sl SK.sh (List.map encB bs)] (AV.bool (fewBs bs)) from fewBs_any _) ⟨rfl, rfl⟩ ⟨rfl, rfl⟩ <| .split (fewBs bs = true) (fun h1 => .no (show (!fewBs bs) = false from by have hh : fewBs bs = true := h1; simp [hh]) <| .len (show lenA false (AV.sl SK.sh (List.map encPd l)) = some (AV.int IntKind.i64 (↑l.length : Int)) from len_map _) <| .split ((40 : Int) < (↑l.length : Int)) (fun h2 => .yes (show (decide ((40 : Int) < (↑l.length : Int))) = true from decide_eq_true (show (40 : Int) < (↑l.length : Int) from h2)) <| .fin ((ARes.ret (AV.bool true), { boxes := [], toks := [], loops := [] : Heap })) rfl) (fun h2 => .no (show (decide ((40 : Int) < (↑l.length : Int))) = false from decide_eq_false (show ¬ ((40 : Int) < (↑l.length : Int)) from h2)) <| .cutQ k3_0 [(0, AV.sl SK.sh (List.map encB bs)), (1, AV.sl SK.sh (List.map encPd l)), (2, AV.str s), (7, AV.int IntKind.i64 (0 : Int))] ({ boxes := [], toks := [], loops := [] : Heap }) (fun T hT => (h h1 (by omega) T hT)))) (fun h1 => .yes (show (!fewBs bs) = true from by have hh : ¬ (fewBs bs = true) := h1; simp [hh]) <| .tt <| .fin ((ARes.ret (AV.bool true), { boxes := [], toks := [], loops := [] : Heap })) rfl)) (by kernel_rfl)
end Go.Aa.T

set_option linter.unusedVariables false
set_option linter.unusedSimpArgs false
set_option maxRecDepth 100000
namespace Go.Aa.T
open Go.Aa Go.Proofs
theorem map_of2 {α : Type} {f : α → AV} {Q : AV → Prop} {S : α → Prop} (h : ∀ y, Q y → ∃ x, y = f x ∧ S x) : ∀ (l : List AV), (∀ y ∈ l, Q y) → ∃ t : List α, l = t.map f ∧ ∀ x ∈ t, S x
  | [], _ => ⟨[], rfl, by simp⟩
  | y :: l, hl => by
    obtain ⟨x, rfl, hx⟩ := h y (hl y (by simp))
    obtain ⟨t, rfl, ht⟩ := map_of2 h l (fun z hz => hl z (by simp [hz]))
    exact ⟨x :: t, rfl, by simpa using ⟨hx, ht⟩⟩
theorem i64_range {m : Int} (h : (Lit.int .i64 m).wf = true) : -9223372036854775808 ≤ m ∧ m ≤ 9223372036854775807 := by
  have h' : IntKind.i64.min ≤ m ∧ m ≤ IntKind.i64.max := by simpa [Lit.wf, IntKind.has] using h
  have e1 : IntKind.i64.min = -9223372036854775808 := rfl
  have e2 : IntKind.i64.max = 9223372036854775807 := rfl
  omega
theorem tys2 {R : TypeId → List AV → Prop} {f1 f2 : Field} {cs : List AV} (h : Tys R (#[f1, f2] : Array Field).toList cs) : ∃ a1 a2, cs = a1 ++ (a2) ∧ R f1.type a1 ∧ R f2.type a2 := by
  obtain ⟨a1, b1, rfl, h1, a2, b2, rfl, h2, e⟩ := (show Tys R [f1, f2] cs from h)
  cases e
  exact ⟨a1, a2, by simp, h1, h2⟩
theorem tys3 {R : TypeId → List AV → Prop} {f1 f2 f3 : Field} {cs : List AV} (h : Tys R (#[f1, f2, f3] : Array Field).toList cs) : ∃ a1 a2 a3, cs = a1 ++ (a2 ++ (a3)) ∧ R f1.type a1 ∧ R f2.type a2 ∧ R f3.type a3 := by
  obtain ⟨a1, b1, rfl, h1, a2, b2, rfl, h2, a3, b3, rfl, h3, e⟩ := (show Tys R [f1, f2, f3] cs from h)
  cases e
  exact ⟨a1, a2, a3, by simp, h1, h2, h3⟩
theorem tys11 {R : TypeId → List AV → Prop} {f1 f2 f3 f4 f5 f6 f7 f8 f9 f10 f11 : Field} {cs : List AV} (h : Tys R (#[f1, f2, f3, f4, f5, f6, f7, f8, f9, f10, f11] : Array Field).toList cs) : ∃ a1 a2 a3 a4 a5 a6 a7 a8 a9 a10 a11, cs = a1 ++ (a2 ++ (a3 ++ (a4 ++ (a5 ++ (a6 ++ (a7 ++ (a8 ++ (a9 ++ (a10 ++ (a11)))))))))) ∧ R f1.type a1 ∧ R f2.type a2 ∧ R f3.type a3 ∧ R f4.type a4 ∧ R f5.type a5 ∧ R f6.type a6 ∧ R f7.type a7 ∧ R f8.type a8 ∧ R f9.type a9 ∧ R f10.type a10 ∧ R f11.type a11 := by
  obtain ⟨a1, b1, rfl, h1, a2, b2, rfl, h2, a3, b3, rfl, h3, a4, b4, rfl, h4, a5, b5, rfl, h5, a6, b6, rfl, h6, a7, b7, rfl, h7, a8, b8, rfl, h8, a9, b9, rfl, h9, a10, b10, rfl, h10, a11, b11, rfl, h11, e⟩ := (show Tys R [f1, f2, f3, f4, f5, f6, f7, f8, f9, f10, f11] cs from h)
  cases e
  exact ⟨a1, a2, a3, a4, a5, a6, a7, a8, a9, a10, a11, by simp, h1, h2, h3, h4, h5, h6, h7, h8, h9, h10, h11⟩
theorem ty66 {k : Nat} {y : AV} (h : TyV Tryz.prog (k + 2) 66 y) : ∃ x : Term, y = encM x ∧ (True) := by
  obtain ⟨cs, rfl, hh⟩ := tyv_struct Tryz.underlying66 h
  obtain ⟨a1, a2, a3, rfl, h1, h2, h3⟩ := tys3 hh
  obtain ⟨s1, rfl, w1⟩ := ty_int Tryz.underlying3 h1
  have r1 := i64_range w1
  obtain ⟨s2, rfl, -⟩ := ty_string Tryz.underlying9 h2
  obtain ⟨s3, rfl, -⟩ := ty_string Tryz.underlying9 h3
  exact ⟨⟨s1, s2, s3⟩, rfl, trivial⟩
theorem ty32s {k : Nat} {y : List AV} (h : Ty Tryz.prog (k + 3) 32 y) : ∃ t : List Term, y = [.sl .sh (t.map encM)] ∧ ∀ x ∈ t, True := by
  obtain ⟨l, rfl, -, hl⟩ := ty_slice Tryz.underlying32 h
  obtain ⟨t, rfl, hs⟩ := map_of2 (S := fun x : Term => True) (fun y hy => ty66 hy) l hl
  exact ⟨t, rfl, hs⟩
theorem ty46 {k : Nat} {y : AV} (h : TyV Tryz.prog (k + 4) 46 y) : ∃ x : Bud, y = encB x ∧ (-9223372036854775808 ≤ x.floor ∧ x.floor ≤ 9223372036854775807) := by
  obtain ⟨cs, rfl, hh⟩ := tyv_struct Tryz.underlying46 h
  obtain ⟨a1, a2, a3, rfl, h1, h2, h3⟩ := tys3 hh
  obtain ⟨s1, rfl, -⟩ := ty_string Tryz.underlying9 h1
  obtain ⟨s2, rfl, w2⟩ := ty32s h2
  obtain ⟨s3, rfl, w3⟩ := ty_int Tryz.underlying3 h3
  have r3 := i64_range w3
  exact ⟨⟨s1, s2, s3⟩, rfl, r3⟩
theorem ty22 {k : Nat} {y : AV} (h : TyV Tryz.prog (k + 5) 22 y) : ∃ t : List Bud, y = .sl .sh (t.map encB) ∧ ∀ x ∈ t, -9223372036854775808 ≤ x.floor ∧ x.floor ≤ 9223372036854775807 := by
  obtain ⟨l, rfl, -, hl⟩ := tyv_slice Tryz.underlying22 h
  obtain ⟨t, rfl, hs⟩ := map_of2 (S := fun x : Bud => -9223372036854775808 ≤ x.floor ∧ x.floor ≤ 9223372036854775807) (fun y hy => ty46 hy) l hl
  exact ⟨t, rfl, hs⟩
theorem ty100 {k : Nat} {y : AV} (h : TyV Tryz.prog (k + 2) 100 y) : ∃ x : Amount, y = encA x ∧ (-9223372036854775808 ≤ x.n ∧ x.n ≤ 9223372036854775807) := by
  obtain ⟨cs, rfl, hh⟩ := tyv_struct Tryz.underlying100 h
  obtain ⟨a1, a2, rfl, h1, h2⟩ := tys2 hh
  obtain ⟨s1, rfl, -⟩ := ty_string Tryz.underlying9 h1
  obtain ⟨s2, rfl, w2⟩ := ty_int Tryz.underlying2 h2
  have r2 := i64_range w2
  exact ⟨⟨s1, s2⟩, rfl, r2⟩
theorem ty28s {k : Nat} {y : List AV} (h : Ty Tryz.prog (k + 3) 28 y) : ∃ t : List Amount, y = [.sl .sh (t.map encA)] ∧ ∀ x ∈ t, -9223372036854775808 ≤ x.n ∧ x.n ≤ 9223372036854775807 := by
  obtain ⟨l, rfl, -, hl⟩ := ty_slice Tryz.underlying28 h
  obtain ⟨t, rfl, hs⟩ := map_of2 (S := fun x : Amount => -9223372036854775808 ≤ x.n ∧ x.n ≤ 9223372036854775807) (fun y hy => ty100 hy) l hl
  exact ⟨t, rfl, hs⟩
theorem ty64 {k : Nat} {y : AV} (h : TyV Tryz.prog (k + 2) 64 y) : ∃ x : Pair, y = encP x ∧ (True) := by
  obtain ⟨cs, rfl, hh⟩ := tyv_struct Tryz.underlying64 h
  obtain ⟨a1, a2, rfl, h1, h2⟩ := tys2 hh
  obtain ⟨s1, rfl, -⟩ := ty_string Tryz.underlying9 h1
  obtain ⟨s2, rfl, -⟩ := ty_string Tryz.underlying9 h2
  exact ⟨⟨s1, s2⟩, rfl, trivial⟩
theorem ty30s {k : Nat} {y : List AV} (h : Ty Tryz.prog (k + 3) 30 y) : ∃ t : List Pair, y = [.sl .sh (t.map encP)] ∧ ∀ x ∈ t, True := by
  obtain ⟨l, rfl, -, hl⟩ := ty_slice Tryz.underlying30 h
  obtain ⟨t, rfl, hs⟩ := map_of2 (S := fun x : Pair => True) (fun y hy => ty64 hy) l hl
  exact ⟨t, rfl, hs⟩
theorem ty198 {k : Nat} {y : AV} (h : TyV Tryz.prog (k + 2) 198 y) : ∃ x : Tol, y = encL x ∧ (True) := by
  obtain ⟨cs, rfl, hh⟩ := tyv_struct Tryz.underlying198 h
  obtain ⟨a1, a2, a3, rfl, h1, h2, h3⟩ := tys3 hh
  obtain ⟨s1, rfl, -⟩ := ty_string Tryz.underlying9 h1
  obtain ⟨s2, rfl, -⟩ := ty_string Tryz.underlying9 h2
  obtain ⟨s3, rfl⟩ := ty_bool Tryz.underlying4 h3
  exact ⟨⟨s1, s2, s3⟩, rfl, trivial⟩
theorem ty33s {k : Nat} {y : List AV} (h : Ty Tryz.prog (k + 3) 33 y) : ∃ t : List Tol, y = [.sl .sh (t.map encL)] ∧ ∀ x ∈ t, True := by
  obtain ⟨l, rfl, -, hl⟩ := ty_slice Tryz.underlying33 h
  obtain ⟨t, rfl, hs⟩ := map_of2 (S := fun x : Tol => True) (fun y hy => ty198 hy) l hl
  exact ⟨t, rfl, hs⟩
theorem ty35 {k : Nat} {y : AV} (h : TyV Tryz.prog (k + 4) 35 y) : ∃ x : Pod, y = encPd x ∧ (SmallPd x) := by
  obtain ⟨cs, rfl, hh⟩ := tyv_struct Tryz.underlying35 h
  obtain ⟨a1, a2, a3, a4, a5, a6, a7, a8, a9, a10, a11, rfl, h1, h2, h3, h4, h5, h6, h7, h8, h9, h10, h11⟩ := tys11 hh
  obtain ⟨s1, rfl, -⟩ := ty_string Tryz.underlying9 h1
  obtain ⟨s2, rfl, -⟩ := ty_string Tryz.underlying9 h2
  obtain ⟨s3, rfl, w3⟩ := ty_int Tryz.underlying3 h3
  have r3 := i64_range w3
  obtain ⟨s4, rfl, w4⟩ := ty28s h4
  obtain ⟨s5, rfl, w5⟩ := ty30s h5
  obtain ⟨s6, rfl, w6⟩ := ty32s h6
  obtain ⟨s7, rfl, w7⟩ := ty33s h7
  obtain ⟨s8, rfl, -⟩ := ty_string Tryz.underlying9 h8
  obtain ⟨s9, rfl, w9⟩ := ty_int Tryz.underlying3 h9
  have r9 := i64_range w9
  obtain ⟨s10, rfl, -⟩ := ty_string Tryz.underlying9 h10
  obtain ⟨s11, rfl⟩ := ty_bool Tryz.underlying4 h11
  exact ⟨⟨s1, s2, s3, s4, s5, s6, s7, s8, s9, s10, s11⟩, rfl, ⟨w4, r3, r9⟩⟩
theorem ty23 {k : Nat} {y : AV} (h : TyV Tryz.prog (k + 5) 23 y) : ∃ t : List Pod, y = .sl .sh (t.map encPd) ∧ ∀ x ∈ t, SmallPd x := by
  obtain ⟨l, rfl, -, hl⟩ := tyv_slice Tryz.underlying23 h
  obtain ⟨t, rfl, hs⟩ := map_of2 (S := fun x : Pod => SmallPd x) (fun y hy => ty35 hy) l hl
  exact ⟨t, rfl, hs⟩
end Go.Aa.T

set_option linter.unusedVariables false
set_option linter.unusedSimpArgs false
set_option maxRecDepth 100000
namespace Go.Aa.T
open Go.Aa Go.Proofs
theorem law3 (xs : List AV) (h : TyAll Tryz.prog 5 [22, 23, 9] xs) (hz : SzAll Tryz.prog [22, 23, 9] xs) : ∃ H', lim cfg (.fn 3) xs Heap.nil = some (.ret (.bool true), H') := by
  obtain ⟨x1, x2, x3, rfl, h1, h2, h3⟩ := tyall_3 h
  obtain ⟨bs, rfl, -⟩ := ty22 (k := 0) h1
  obtain ⟨l, rfl, -⟩ := ty23 (k := 0) h2
  obtain ⟨s, rfl, -⟩ := tyv_string Tryz.underlying9 h3
  exact (budgetAny bs l s).ret
end Go.Aa.T

set_option linter.unusedVariables false
set_option linter.unusedSimpArgs false
namespace Go.Aa
variable {P : Program}
theorem grown_add : ∀ (a b : Nat) (s : List TypeId), P.grown (a + b) s = P.grown b (P.grown a s)
  | 0, b, s => by rw [Nat.zero_add]; rfl
  | a + 1, b, s => by
    rw [show a + 1 + b = (a + b) + 1 by omega]
    exact grown_add a b (P.grow s)
theorem grown_fix {s : List TypeId} (h : P.grow s = s) : ∀ n, P.grown n s = s
  | 0 => rfl
  | n + 1 => by
    show P.grown n (P.grow s) = s
    rw [h]; exact grown_fix h n
def stableB (P : Program) (d : Nat) (t : TypeId) : Bool := P.grow (P.grown d [t]) == P.grown d [t]
theorem book_eq {d : Nat} {t : TypeId} (hd : Nat.ble d P.types.size = true) (h : stableB P d t = true) : P.book t = P.grown d [t] := by
  have h' : P.grow (P.grown d [t]) = P.grown d [t] := by simpa [stableB] using h
  unfold Program.book
  obtain ⟨b, hb⟩ := Nat.exists_eq_add_of_le (Nat.le_of_ble_eq_true hd)
  rw [hb, grown_add, grown_fix h']
def loopsB (P : Program) (d : Nat) (t : TypeId) : Bool := (P.grown d [t]).all fun u => (P.partsOf u).all fun v => stableB P d v && !(P.grown d [v]).contains u
theorem loops_of {d : Nat} {t : TypeId} (hd : Nat.ble d P.types.size = true) (h0 : stableB P d t = true) (h : loopsB P d t = true) : P.loopsFrom t = false := by
  unfold Program.loopsFrom
  rw [book_eq hd h0, List.any_eq_false]
  intro u hu
  have h1 := List.all_eq_true.1 h u hu
  simp only [Bool.not_eq_true]
  rw [List.any_eq_false]
  intro v hv
  have h2 := List.all_eq_true.1 h1 v hv
  simp only [Bool.and_eq_true, Bool.not_eq_true'] at h2
  rw [book_eq hd h2.1, h2.2]
  exact Bool.false_ne_true
theorem loops_all {d : Nat} : ∀ {ts : List TypeId}, Nat.ble d P.types.size = true → (ts.all fun t => stableB P d t && loopsB P d t) = true → ts.any (P.loopsFrom ·) = false := by
  intro ts hd h
  rw [List.any_eq_false]
  intro t ht
  have h1 := List.all_eq_true.1 h t ht
  simp only [Bool.and_eq_true] at h1
  rw [loops_of hd h1.1 h1.2]
  exact Bool.false_ne_true
end Go.Aa

set_option linter.unusedVariables false
set_option linter.unusedSimpArgs false
set_option maxRecDepth 100000
namespace Go.Aa.T
open Go.Aa Go.Proofs Go.RowKit Go.ChangeShapes Go.Proofs.YtppplbpilpjokaaGreatDoor
theorem star : "*" ++ "errors.errorString" = "*errors.errorString" := by decide
theorem rowES (u : TypeId) (h : Tryz.prog.typeName? 3 u = some "*errors.errorString") : u = 331 :=
  typeName_ptr_named (nm := "errors.errorString") (by rw [star]; kernel_rfl) (by kernel_rfl) (by decide) u (by rw [star]; exact h)
theorem var_heap {P : Program} {W : World} {n : String} {cs : Array Value} {g : Nat} (h : W.var? P n = some cs) (hg : P.globalNamed n = some g) : ∃ e m, W.heap[g]? = some (.cells cs e m) := by
  simp only [World.var?, hg, Option.bind_some] at h
  split at h
  · rename_i cs' e m hc
    cases h
    exact ⟨e, m, hc⟩
  · cases h
def laidL : List (String × DataW Unit) := Rows.podEdgesRow.laid
theorem pow_eq : (Rows.laid_internal_strconv_uint64pow10 : DataW Unit) = Lib.tabData .u64 Lib.pow10Tab := by kernel_rfl
theorem cellsES : Tryz.prog.cellsOf 333 = 1 := by kernel_rfl
theorem cellsS : Tryz.prog.cellsOf 9 = 1 := by kernel_rfl
theorem glob0Z {W : World} (h : laidMet Tryz.prog laidL W) : Glob0 Tryz.prog W := by
  have h2 := laidMet.tail (laidMet.tail h)
  have ht : Lib.TabIs Tryz.prog W "internal/strconv.uint64pow10" .u64 Lib.pow10Tab := by
    have h3 : laidMet Tryz.prog (("internal/strconv.uint64pow10", Rows.laid_internal_strconv_uint64pow10) :: _) W := h2
    rw [pow_eq] at h3
    exact Lib.tabIs_of_head (g := 1) (t := 303) (n := 20) (by kernel_rfl) (by kernel_rfl) Tryz.underlying303 Tryz.underlying282 (by kernel_rfl) (by kernel_rfl) h3
  have h4 := laidMet.tail (laidMet.tail h2)
  obtain ⟨a1, s1, hv1, -, -, -⟩ := laid_sentinel h4 (g := 5) (ti := 238) (tp := 331) (te := 333) (ts := 9) (by kernel_rfl) (by kernel_rfl) Tryz.underlying238 rowES Tryz.underlying331 Tryz.underlying333 rfl rfl Tryz.underlying9 cellsES cellsS
  have h5 := laidMet.tail h4
  obtain ⟨a2, s2, hv2, -, -, -⟩ := laid_sentinel h5 (g := 4) (ti := 238) (tp := 331) (te := 333) (ts := 9) (by kernel_rfl) (by kernel_rfl) Tryz.underlying238 rowES Tryz.underlying331 Tryz.underlying333 rfl rfl Tryz.underlying9 cellsES cellsS
  intro s hs g hg
  simp only [globSpec, List.mem_cons, List.not_mem_nil, or_false] at hs
  rcases hs with rfl | rfl | rfl
  · obtain ⟨e, m, hh⟩ := var_heap ht hg
    exact ⟨_, e, m, hh, rfl⟩
  · obtain ⟨e, m, hh⟩ := var_heap hv2 hg
    exact ⟨_, e, m, hh, _, _, rfl⟩
  · obtain ⟨e, m, hh⟩ := var_heap hv1 hg
    exact ⟨_, e, m, hh, _, _, rfl⟩
end Go.Aa.T
