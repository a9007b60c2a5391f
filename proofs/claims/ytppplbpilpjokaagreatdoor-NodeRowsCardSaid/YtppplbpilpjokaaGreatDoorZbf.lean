/-
  WHAT THE LAW LEANS ON, part 6 of 6: a machine of values and its soundness; the functions of the law upon it; what they come to.
-/
import Derived.Test.YtppplbpilpjokaaGreatDoorZbe
import Derived.Lib.ItoaLen
import Derived.Test.YtppplbpilpjokaaGreatDoorRows
import Derived.Stop.LaidErr

set_option linter.unusedVariables false
set_option linter.unusedSimpArgs false
set_option maxRecDepth 100000
namespace Go.Aa.T
open Go.Aa Go.Proofs
theorem in0_data {nb nt : Nat} : ∀ {x : AV}, data0 x = true → in0 nb nt x = true
  | .undef, h => by cases h
  | .bool _, _ => rfl
  | .int .., _ => rfl
  | .flt _, _ => rfl
  | .nan, _ => rfl
  | .str _, _ => rfl
  | .sl .sh _, _ => rfl
  | .sl .full _, _ => rfl
  | .sl (.own _) _, h => by cases h
  | .agg _, h => by cases h
  | .tuple _, h => by cases h
  | .ptr .., h => by cases h
  | .ref _, _ => rfl
  | .nilptr, _ => rfl
  | .func .., h => by cases h
  | .nilFunc, _ => rfl
  | .iface .., h => by cases h
  | .nilIface, _ => rfl
  | .msl .., h => by cases h
  | .yield _, h => by cases h
theorem in2_data0 {nb nt : Nat} {x : AV} (h : data0 x = true) : in2 nb nt x = true := by
  have := in0_data (nb := nb) (nt := nt) h
  cases x <;> first | exact this | cases h
theorem trunc_plain {bs ex : List (List AV)} {ts : List Nat} {b : Bool} (hb : bs.all (·.all data0) = true) : trunc bs.length ts.length (.bool b) ⟨bs ++ ex, ts, []⟩ = ⟨bs, ts, []⟩ := by
  have hin : ∀ nb nt, bs.all (·.all (in2 nb nt)) = true := fun nb nt => by
    rw [List.all_eq_true] at hb ⊢
    intro l hl
    have := hb l hl
    rw [List.all_eq_true] at this ⊢
    exact fun x hx => in2_data0 (this x hx)
  unfold trunc
  simp only [List.take_left', hin, List.all_nil, Bool.true_and, Bool.and_true]
  simp [within, in2, in1, in0]

section
variable {H : Heap} {k : Nat} {p : Taint → Bool}
theorem idxT_loop (hd : ∀ y : Taint, Does cfg (.call (.c (.func 145 [.ptr k 0])) [.c (encT y)]) H (.bool (p y)) H) (l : List Taint) (hn : l.length < 9223372036854775807) : ∀ (post : List Taint) (i : Nat) (hdr : l.drop i = post) (T : Env)
    (hT : Has T [(0, .sl .sh (l.map encT)), (1, .func 145 [.ptr k 0]), (7, .int .i64 l.length), (8, .int .i64 i)]),
    Goes cfg a191 k191_0 T H (fun r => r = (.ret (.int .i64 (fidxB p post i)), H)) := by
  intro post
  induction post with
  | nil =>
    intro i hdr T hT
    have hge := drop_ge hdr
    exact goG 60 _  hT  (.no (show (decide ((↑i : Int) < (↑l.length : Int))) = false from decide_eq_false (show ¬ ((↑i : Int) < (↑l.length : Int)) from (by omega))) <| .fin ((ARes.ret (AV.int IntKind.i64 (-1 : Int)), H)) rfl) (by kernel_rfl)
  | cons x post ih =>
    intro i hdr T hT
    have hlt := drop_lt hdr
    have hnx := drop_next hdr
    have hdx := hd x
    cases hp : p x with
    | true =>
      rw [hp] at hdx
      have e : fidxB p (x :: post) i = i := by simp [fidxB, hp]
      rw [e]
      exact goG 60 _  hT  (.yes (show (decide ((↑i : Int) < (↑l.length : Int))) = true from decide_eq_true (show (↑i : Int) < (↑l.length : Int) from (by omega))) <| .idx (show idxA (3 : Nat) (AV.sl SK.sh (List.map encT l)) (AV.int IntKind.i64 (↑i : Int)) = some (AV.ref (encT x).cells) from idx_row hdr (by rfl)) <| .load (show loadA true (3 : Nat) H (AV.ref [AV.str x.key, AV.str x.val, AV.bool x.hard]) = some (AV.agg [AV.str x.key, AV.str x.val, AV.bool x.hard]) from rfl) <| .effY (show Does cfg (AOp.call (Opd.c (AV.func (145 : FuncId) [AV.ptr k (0 : Nat)])) [Opd.c (encT x)]) H (AV.bool true) H from hdx) <| .tt <| .fin ((ARes.ret (AV.int IntKind.i64 (↑i : Int)), H)) rfl) (by kernel_rfl)
    | false =>
      rw [hp] at hdx
      have e : fidxB p (x :: post) i = fidxB p post (i + 1) := by simp [fidxB, hp]
      rw [e]
      exact goG 60 _  hT  (.yes (show (decide ((↑i : Int) < (↑l.length : Int))) = true from decide_eq_true (show (↑i : Int) < (↑l.length : Int) from (by omega))) <| .idx (show idxA (3 : Nat) (AV.sl SK.sh (List.map encT l)) (AV.int IntKind.i64 (↑i : Int)) = some (AV.ref (encT x).cells) from idx_row hdr (by rfl)) <| .load (show loadA true (3 : Nat) H (AV.ref [AV.str x.key, AV.str x.val, AV.bool x.hard]) = some (AV.agg [AV.str x.key, AV.str x.val, AV.bool x.hard]) from rfl) <| .effY (show Does cfg (AOp.call (Opd.c (AV.func (145 : FuncId) [AV.ptr k (0 : Nat)])) [Opd.c (encT x)]) H (AV.bool false) H from hdx) <| .ff <| .bin (show binA BinOp.add (AV.int IntKind.i64 (↑i : Int)) (AV.int IntKind.i64 (1 : Int)) = some (AV.int IntKind.i64 (↑(i + (1 : Nat)) : Int)) from inc_i (by omega)) <| .cutQ k191_0 [(0, AV.sl SK.sh (List.map encT l)), (1, AV.func (145 : Nat) [AV.ptr k (0 : Nat)]), (7, AV.int IntKind.i64 (↑l.length : Int)), (8, AV.int IntKind.i64 (↑(i + (1 : Nat)) : Int))] (H) (fun T hT => (ih (i + (1 : Nat)) hnx T hT))) (by kernel_rfl)
theorem idxT (hd : ∀ y : Taint, Does cfg (.call (.c (.func 145 [.ptr k 0])) [.c (encT y)]) H (.bool (p y)) H) (l : List Taint) (hn : l.length < 9223372036854775807) :
    lim cfg (.fn 191) [.sl .sh (l.map encT), .func 145 [.ptr k 0]] H = some (.ret (.int .i64 (fidxB p l 0)), H) := by
  rw [l191]
  have h := idxT_loop hd l hn l 0 rfl
  have key : Goes cfg a191 [.c c191] (initEnv [.sl .sh (l.map encT), .func 145 [.ptr k 0]]) H (fun r => r = (.ret (.int .i64 (fidxB p l 0)), H)) := by
    exact goG 60 []  trivial  (.len (show lenA false (AV.sl SK.sh (List.map encT l)) = some (AV.int IntKind.i64 (↑l.length : Int)) from len_map _) <| .cutQ k191_0 [(0, AV.sl SK.sh (List.map encT l)), (1, AV.func (145 : Nat) [AV.ptr k (0 : Nat)]), (7, AV.int IntKind.i64 (↑l.length : Int)), (8, AV.int IntKind.i64 (0 : Int))] (H) (fun T hT => (h T hT))) (by kernel_rfl)
  obtain ⟨r, h, rfl⟩ := key
  exact h
theorem hasT (hd : ∀ y : Taint, Does cfg (.call (.c (.func 145 [.ptr k 0])) [.c (encT y)]) H (.bool (p y)) H) (l : List Taint) (hn : l.length < 9223372036854775807) (htr : trunc H.boxes.length H.toks.length (.int .i64 (fidxB p l 0)) H = H) :
    lim cfg (.fn 144) [.sl .sh (l.map encT), .func 145 [.ptr k 0]] H = some (.ret (.bool (l.any p)), H) := by
  rw [l144]
  have h0 := does_callE (xs := [.sl .sh (l.map encT), .func 145 [.ptr k 0]]) (caps := []) (idxT hd l hn) rfl rfl
  rw [show shutA (.int .i64 (fidxB p l 0)) = .int .i64 (fidxB p l 0) from rfl, htr] at h0
  have hf := fidxB_ge p l 0
  have key : Goes cfg a144 [.c c144] (initEnv [.sl .sh (l.map encT), .func 145 [.ptr k 0]]) H (fun r => r = (.ret (.bool (l.any p)), H)) := by
    exact goG 60 []  trivial  (.effY (show Does cfg (AOp.call (Opd.c (AV.func (191 : FuncId) [])) (List.map Opd.c [AV.sl SK.sh (List.map encT l), AV.func (145 : FuncId) [AV.ptr k (0 : Nat)]])) H (AV.int IntKind.i64 (fidxB p l (0 : Nat))) H from h0) <| .fin ((ARes.ret (AV.bool (decide ((0 : Int) ≤ fidxB p l (0 : Nat)))), H)) (by simp [← hf])) (by kernel_rfl)
  obtain ⟨r, h, rfl⟩ := key
  exact h
end
theorem one64 (x y : Taint) (bs : List (List AV)) (hb : bs.all (·.all data0) = true) : Does cfg (.call (.c (.func 145 [.ptr bs.length 0])) [.c (encT y)]) ⟨bs ++ [x.cells], [], []⟩ (.bool (same x y)) ⟨bs ++ [x.cells], [], []⟩ := by
  have key : Goes cfg a145 [.c c145] (initEnv [encT y, .ptr bs.length 0]) ⟨bs ++ [x.cells], [], []⟩ (fun r => r = (.ret (.bool (same x y)), ⟨(bs ++ [x.cells]) ++ [y.cells], [], []⟩)) := by
    exact goG 60 []  trivial  (.load (show loadA false (1 : Nat) { boxes := bs ++ [[AV.str x.key, AV.str x.val, AV.bool x.hard]] ++ [[AV.str y.key, AV.str y.val, AV.bool y.hard]], toks := [], loops := [] : Heap } (AV.ptr (bs ++ [[AV.str x.key, AV.str x.val, AV.bool x.hard]]).length (0 : Nat)) = some (AV.str y.key) from load_box (cs := [AV.str y.key, AV.str y.val, AV.bool y.hard]) (by simp) rfl) <| .load (show loadA false (1 : Nat) { boxes := bs ++ [[AV.str x.key, AV.str x.val, AV.bool x.hard]] ++ [[AV.str y.key, AV.str y.val, AV.bool y.hard]], toks := [], loops := [] : Heap } (AV.ptr bs.length (0 : Nat)) = some (AV.str x.key) from load_box (cs := [AV.str x.key, AV.str x.val, AV.bool x.hard]) (by simp) rfl) <| .split ((y.key == x.key) = true) (fun h1 => .yes (show (y.key == x.key) = true from h1) <| .load (show loadA false (1 : Nat) { boxes := bs ++ [[AV.str x.key, AV.str x.val, AV.bool x.hard]] ++ [[AV.str y.key, AV.str y.val, AV.bool y.hard]], toks := [], loops := [] : Heap } (AV.ptr (bs ++ [[AV.str x.key, AV.str x.val, AV.bool x.hard]]).length (1 : Nat)) = some (AV.str y.val) from load_box (cs := [AV.str y.key, AV.str y.val, AV.bool y.hard]) (by simp) rfl) <| .load (show loadA false (1 : Nat) { boxes := bs ++ [[AV.str x.key, AV.str x.val, AV.bool x.hard]] ++ [[AV.str y.key, AV.str y.val, AV.bool y.hard]], toks := [], loops := [] : Heap } (AV.ptr bs.length (1 : Nat)) = some (AV.str x.val) from load_box (cs := [AV.str x.key, AV.str x.val, AV.bool x.hard]) (by simp) rfl) <| .fin ((ARes.ret (AV.bool (y.val == x.val)), { boxes := bs ++ [[AV.str x.key, AV.str x.val, AV.bool x.hard]] ++ [[AV.str y.key, AV.str y.val, AV.bool y.hard]], toks := [], loops := [] : Heap })) (by grind [same, Taint.cells])) (fun h1 => .no (show (y.key == x.key) = false from Bool.eq_false_iff.2 (show ¬ ((y.key == x.key) = true) from h1)) <| .fin ((ARes.ret (AV.bool false), { boxes := bs ++ [[AV.str x.key, AV.str x.val, AV.bool x.hard]] ++ [[AV.str y.key, AV.str y.val, AV.bool y.hard]], toks := [], loops := [] : Heap })) (by simp_all [same, Taint.cells]))) (by kernel_rfl)
  obtain ⟨r, h, rfl⟩ := key
  have h2 : lim cfg (.fn 145) ([encT y] ++ [.ptr bs.length 0]) ⟨bs ++ [x.cells], [], []⟩ = some (.ret (.bool (same x y)), ⟨(bs ++ [x.cells]) ++ [y.cells], [], []⟩) := by
    rw [l145]; exact h
  have hd := does_callE h2 rfl rfl
  rwa [show shutA (.bool (same x y)) = .bool (same x y) from rfl, trunc_plain (bs := bs ++ [x.cells]) (ex := [y.cells]) (ts := []) (by simp only [List.all_append, hb]; rfl)] at hd
theorem trunc_plainI {bs : List (List AV)} {ts : List Nat} {n : Int} (hb : bs.all (·.all data0) = true) : trunc bs.length ts.length (.int .i64 n) ⟨bs, ts, []⟩ = ⟨bs, ts, []⟩ := by
  have h := trunc_plain (ex := []) (ts := ts) (b := true) hb
  rw [List.append_nil] at h
  exact h
theorem has63 (x : Taint) (l : List Taint) (hn : l.length < 9223372036854775807) (bs : List (List AV)) (hb : bs.all (·.all data0) = true) :
    Does cfg (.call (.c (.func 144 [])) [.c (.sl .sh (l.map encT)), .c (.func 145 [.ptr bs.length 0])]) ⟨bs ++ [x.cells], [], []⟩ (.bool (l.any (same x))) ⟨bs ++ [x.cells], [], []⟩ := by
  have hb2 : (bs ++ [x.cells]).all (·.all data0) = true := by simp only [List.all_append, hb]; rfl
  have h := hasT (H := ⟨bs ++ [x.cells], [], []⟩) (k := bs.length) (p := same x) (fun y => one64 x y bs hb) l hn (trunc_plainI hb2)
  have hd := does_callE (xs := [.sl .sh (l.map encT), .func 145 [.ptr bs.length 0]]) (caps := []) h rfl rfl
  have e := trunc_plain (bs := bs ++ [x.cells]) (ex := []) (ts := []) (b := l.any (same x)) hb2
  rw [List.append_nil] at e
  rwa [show shutA (.bool (l.any (same x))) = .bool (l.any (same x)) from rfl, e] at hd
theorem ckT2_loop (l : List Taint) (hn : l.length ≤ 8) : ∀ (post : List Taint) (i : Nat) (bs : List (List AV)) (hb : bs.all (·.all data0) = true) (hd : l.drop i = post) (T : Env) (hT : Has T [(0, .sl .sh (l.map encT)), (8, .sl .sh (l.map encT)), (9, .int .i64 l.length), (10, .int .i64 i)]),
    Goes cfg a84 k84_0 T ⟨bs, [], []⟩ (IsRet (.int .i64 (ckTl l i post))) := by
  intro post
  induction post with
  | nil =>
    intro i bs hb hd T hT
    have hge := drop_ge hd
    exact goG 60 _  hT  (.no (show (decide ((↑i : Int) < (↑l.length : Int))) = false from decide_eq_false (show ¬ ((↑i : Int) < (↑l.length : Int)) from (by omega))) <| .fin ((ARes.ret (AV.int IntKind.i64 (0 : Int)), { boxes := bs, toks := [], loops := [] : Heap })) rfl) (by kernel_rfl)
  | cons x post ih =>
    intro i bs hb hd T hT
    have hlt := drop_lt hd
    have hnx := drop_next hd
    have hc := has63 x (l.take i) (by simp; omega) bs hb
    have hb2 : (bs ++ [x.cells]).all (·.all data0) = true := by simp only [List.all_append, hb]; rfl
    have ih2 := ih (i + 1) (bs ++ [[.str x.key, .str x.val, .bool x.hard]]) hb2 hnx
    exact goG 90 _  hT  (.yes (show (decide ((↑i : Int) < (↑l.length : Int))) = true from decide_eq_true (show (↑i : Int) < (↑l.length : Int) from (by omega))) <| .idx (show idxA (3 : Nat) (AV.sl SK.sh (List.map encT l)) (AV.int IntKind.i64 (↑i : Int)) = some (AV.ref (encT x).cells) from idx_row hd (by rfl)) <| .load (show loadA true (3 : Nat) { boxes := bs, toks := [], loops := [] : Heap } (AV.ref [AV.str x.key, AV.str x.val, AV.bool x.hard]) = some (AV.agg [AV.str x.key, AV.str x.val, AV.bool x.hard]) from rfl) <| .store (show storeA (3 : Nat) { boxes := bs ++ [[AV.str [], AV.str [], AV.bool false]], toks := [], loops := [] : Heap } (AV.ptr bs.length (0 : Nat)) (AV.agg [AV.str x.key, AV.str x.val, AV.bool x.hard]) = some ({ boxes := bs ++ [[AV.str x.key, AV.str x.val, AV.bool x.hard]], toks := [], loops := [] : Heap }) from store_box2 (cs := [AV.str [], AV.str [], AV.bool false]) (cs' := [AV.str x.key, AV.str x.val, AV.bool x.hard]) (by simp) rfl (by simp [List.set_append])) <| .load (show loadA false (1 : Nat) { boxes := bs ++ [[AV.str x.key, AV.str x.val, AV.bool x.hard]], toks := [], loops := [] : Heap } (AV.ptr bs.length (0 : Nat)) = some (AV.str x.key) from load_box (cs := [AV.str x.key, AV.str x.val, AV.bool x.hard]) (by simp) rfl) <| .callG ([AV.str x.key]) (AV.bool (isName x.key)) (show Gives cfg (143 : FuncId) [AV.str x.key] (AV.bool (isName x.key)) from res_name _) ⟨rfl, rfl⟩ ⟨rfl, rfl⟩ <| .split (isName x.key = true) (fun h1 => .no (show (!isName x.key) = false from by have hh : isName x.key = true := h1; simp [hh]) <| .load (show loadA false (1 : Nat) { boxes := bs ++ [[AV.str x.key, AV.str x.val, AV.bool x.hard]], toks := [], loops := [] : Heap } (AV.ptr bs.length (1 : Nat)) = some (AV.str x.val) from load_box (cs := [AV.str x.key, AV.str x.val, AV.bool x.hard]) (by simp) rfl) <| .callG ([AV.str x.val]) (AV.bool (isName x.val)) (show Gives cfg (143 : FuncId) [AV.str x.val] (AV.bool (isName x.val)) from res_name _) ⟨rfl, rfl⟩ ⟨rfl, rfl⟩ <| .split (isName x.val = true) (fun h2 => .no (show (!isName x.val) = false from by have hh : isName x.val = true := h2; simp [hh]) <| .slice (show sliceA (3 : Nat) (AV.sl SK.sh (List.map encT l)) none (some (AV.int IntKind.i64 (↑i : Int))) none = some (AV.sl SK.sh (List.map encT (List.take i l))) from slice_to (by omega) (by rfl) (by exact cellT)) <| .effY (show Does cfg (AOp.call (Opd.c (AV.func (144 : FuncId) [])) [Opd.c (AV.sl SK.sh (List.map encT (List.take i l))), Opd.c (AV.func (145 : FuncId) [AV.ptr bs.length (0 : Nat)])]) { boxes := bs ++ [x.cells], toks := [], loops := [] : Heap } (AV.bool ((List.take i l).any (same x))) { boxes := bs ++ [x.cells], toks := [], loops := [] : Heap } from hc) <| .split ((List.take i l).any (same x) = true) (fun h3 => .yes (show ((List.take i l).any (same x)) = true from h3) <| .fin ((ARes.ret (AV.int IntKind.i64 (6 : Int)), { boxes := bs ++ [[AV.str x.key, AV.str x.val, AV.bool x.hard]], toks := [], loops := [] : Heap })) (by simp only [IsRet]; grind [ckTl])) (fun h3 => .no (show ((List.take i l).any (same x)) = false from Bool.eq_false_iff.2 (show ¬ ((List.take i l).any (same x) = true) from h3)) <| .bin (show binA BinOp.add (AV.int IntKind.i64 (↑i : Int)) (AV.int IntKind.i64 (1 : Int)) = some (AV.int IntKind.i64 (↑(i + (1 : Nat)) : Int)) from inc_i (by omega)) <| .cutQ k84_0 [(0, AV.sl SK.sh (List.map encT l)), (8, AV.sl SK.sh (List.map encT l)), (9, AV.int IntKind.i64 (↑l.length : Int)), (10, AV.int IntKind.i64 (↑(i + (1 : Nat)) : Int))] ({ boxes := bs ++ [[AV.str x.key, AV.str x.val, AV.bool x.hard]], toks := [], loops := [] : Heap }) (fun T hT => (ih2 T hT).to (by grind [ckTl])))) (fun h2 => .yes (show (!isName x.val) = true from by have hh : ¬ (isName x.val = true) := h2; simp [hh]) <| .fin ((ARes.ret (AV.int IntKind.i64 (3 : Int)), { boxes := bs ++ [[AV.str x.key, AV.str x.val, AV.bool x.hard]], toks := [], loops := [] : Heap })) (by simp only [IsRet]; grind [ckTl]))) (fun h1 => .yes (show (!isName x.key) = true from by have hh : ¬ (isName x.key = true) := h1; simp [hh]) <| .tt <| .fin ((ARes.ret (AV.int IntKind.i64 (3 : Int)), { boxes := bs ++ [[AV.str x.key, AV.str x.val, AV.bool x.hard]], toks := [], loops := [] : Heap })) (by simp only [IsRet]; grind [ckTl]))) (by kernel_rfl)
theorem ckT2 (l : List Taint) : Gives cfg 84 [.sl .sh (l.map encT)] (.int .i64 (ckT l)) := by
  refine Gives.run (l84 _ _) ?_
  have h := fun hn => ckT2_loop l hn l 0 [] rfl rfl
  exact goG 60 []  trivial  (.len (show lenA false (AV.sl SK.sh (List.map encT l)) = some (AV.int IntKind.i64 (↑l.length : Int)) from len_map _) <| .split ((8 : Int) < (↑l.length : Int)) (fun h1 => .yes (show (decide ((8 : Int) < (↑l.length : Int))) = true from decide_eq_true (show (8 : Int) < (↑l.length : Int) from h1)) <| .fin ((ARes.ret (AV.int IntKind.i64 (4 : Int)), { boxes := [], toks := [], loops := [] : Heap })) (by simp only [IsRet]; grind [ckT])) (fun h1 => .no (show (decide ((8 : Int) < (↑l.length : Int))) = false from decide_eq_false (show ¬ ((8 : Int) < (↑l.length : Int)) from h1)) <| .len (show lenA false (AV.sl SK.sh (List.map encT l)) = some (AV.int IntKind.i64 (↑l.length : Int)) from len_map _) <| .cutQ k84_0 [(0, AV.sl SK.sh (List.map encT l)), (8, AV.sl SK.sh (List.map encT l)), (9, AV.int IntKind.i64 (↑l.length : Int)), (10, AV.int IntKind.i64 (0 : Int))] ({ boxes := [], toks := [], loops := [] : Heap }) (fun T hT => (h (by omega) T hT).to (by grind [ckT])))) (by kernel_rfl)


end Go.Aa.T

set_option linter.unusedVariables false
set_option linter.unusedSimpArgs false
set_option maxRecDepth 100000
namespace Go.Aa.T
open Go.Aa Go.Proofs



end Go.Aa.T

set_option linter.unusedVariables false
set_option linter.unusedSimpArgs false
set_option maxRecDepth 100000
namespace Go.Aa.T
open Go.Aa Go.Proofs
section
variable {X : Type} {pf : List UInt8 → Option X} {text : X → List UInt8} {ck : List X → Int}
end

end Go.Aa.T

set_option linter.unusedVariables false
set_option linter.unusedSimpArgs false
set_option maxRecDepth 100000
namespace Go.Aa.T
open Go.Aa Go.Proofs

end Go.Aa.T

set_option linter.unusedVariables false
set_option linter.unusedSimpArgs false
set_option maxRecDepth 100000
namespace Go.Aa.T
open Go.Aa Go.Proofs

end Go.Aa.T

set_option linter.unusedVariables false
set_option linter.unusedSimpArgs false
set_option maxRecDepth 100000
namespace Go.Aa.T
open Go.Aa Go.Proofs


end Go.Aa.T

set_option linter.unusedVariables false
set_option linter.unusedSimpArgs false
set_option maxRecDepth 100000
namespace Go.Aa.T
open Go.Aa Go.Proofs

end Go.Aa.T

set_option linter.unusedVariables false
set_option linter.unusedSimpArgs false
set_option maxRecDepth 100000
namespace Go.Aa.T
open Go.Aa Go.Proofs
structure Amount where
  name : List UInt8
  n : Int
def encA (x : Amount) : AV := .agg [.str x.name, .int .i64 x.n]
instance (x : Amount) : Dat (encA x) := ⟨rfl, rfl⟩
def ordV (s : List Amount) (i : Nat) (x : Amount) : Bool := match i with
  | 0 => false
  | j + 1 => match s[j]? with
    | some p => Op.bytesLess x.name p.name || x.name == p.name
    | none => false
def ckVl (s : List Amount) : Nat → List Amount → Int
  | _, [] => 0
  | i, x :: post => if isName x.name then (if x.n ≤ 0 then 1 else if ordV s i x then 13 else ckVl s (i + 1) post) else 3
def ckV (s : List Amount) : Int := if s.length ≤ 8 then ckVl s 0 s else 4
theorem ckV_ref_loop (l : List Amount) (hn : l.length ≤ 8) : ∀ (post : List Amount) (i : Nat) (hd : l.drop i = post) (T : Env) (hT : Has T [(0, .sl .sh (l.map encA)), (3, .int .i64 i)]),
    Goes cfg a77 k77_0 T Heap.nil (IsRet (.int .i64 (ckVl l i post))) := by
  intro post
  induction post with
  | nil =>
    intro i hd T hT
    have hge := drop_ge hd
    exact goG 60 _  hT  (.len (show lenA false (AV.sl SK.sh (List.map encA l)) = some (AV.int IntKind.i64 (↑l.length : Int)) from len_map _) <| .no (show (decide ((↑i : Int) < (↑l.length : Int))) = false from decide_eq_false (show ¬ ((↑i : Int) < (↑l.length : Int)) from (by omega))) <| .fin ((ARes.ret (AV.int IntKind.i64 (0 : Int)), { boxes := [], toks := [], loops := [] : Heap })) rfl) (by kernel_rfl)
  | cons x post ih =>
    intro i hd T hT
    have hlt := drop_lt hd
    have hnx := drop_next hd
    cases i with
    | zero => exact goG 60 _  hT  (.len (show lenA false (AV.sl SK.sh (List.map encA l)) = some (AV.int IntKind.i64 (↑l.length : Int)) from len_map _) <| .yes (show (decide ((↑(0 : Nat) : Int) < (↑l.length : Int))) = true from decide_eq_true (show (↑(0 : Nat) : Int) < (↑l.length : Int) from (by omega))) <| .idx (show idxA (2 : Nat) (AV.sl SK.sh (List.map encA l)) (AV.int IntKind.i64 (↑(0 : Nat) : Int)) = some (AV.ref (encA x).cells) from idx_row hd (by rfl)) <| .callG ([AV.str x.name]) (AV.bool (isName x.name)) (show Gives cfg (76 : FuncId) [AV.str x.name] (AV.bool (isName x.name)) from name_any _) ⟨rfl, rfl⟩ ⟨rfl, rfl⟩ <| .split (isName x.name = true) (fun h1 => .no (show (!isName x.name) = false from by have hh : isName x.name = true := h1; simp [hh]) <| .idx (show idxA (2 : Nat) (AV.sl SK.sh (List.map encA l)) (AV.int IntKind.i64 (↑(0 : Nat) : Int)) = some (AV.ref (encA x).cells) from idx_row hd (by rfl)) <| .split (x.n ≤ (0 : Int)) (fun h2 => .yes (show (decide (x.n ≤ (0 : Int))) = true from decide_eq_true (show x.n ≤ (0 : Int) from h2)) <| .fin ((ARes.ret (AV.int IntKind.i64 (1 : Int)), { boxes := [], toks := [], loops := [] : Heap })) (by simp only [IsRet]; grind [ckVl, ordV])) (fun h2 => .no (show (decide (x.n ≤ (0 : Int))) = false from decide_eq_false (show ¬ (x.n ≤ (0 : Int)) from h2)) <| .ff <| .ff <| .bin (show binA BinOp.add (AV.int IntKind.i64 (↑(0 : Nat) : Int)) (AV.int IntKind.i64 (1 : Int)) = some (AV.int IntKind.i64 (↑((0 : Nat) + (1 : Nat)) : Int)) from inc_i (by omega)) <| .cutQ k77_0 [(0, AV.sl SK.sh (List.map encA l)), (3, AV.int IntKind.i64 (↑((0 : Nat) + (1 : Nat)) : Int))] ({ boxes := [], toks := [], loops := [] : Heap }) (fun T hT => (ih ((0 : Nat) + (1 : Nat)) hnx T hT).to (by grind [ckVl, ordV])))) (fun h1 => .yes (show (!isName x.name) = true from by have hh : ¬ (isName x.name = true) := h1; simp [hh]) <| .fin ((ARes.ret (AV.int IntKind.i64 (3 : Int)), { boxes := [], toks := [], loops := [] : Heap })) (by simp only [IsRet]; grind [ckVl, ordV]))) (by kernel_rfl)
    | succ j =>
      obtain ⟨p, hp⟩ : ∃ p, l[j]? = some p := ⟨l[j], List.getElem?_eq_getElem (by omega)⟩
      exact goG 60 _  hT  (.len (show lenA false (AV.sl SK.sh (List.map encA l)) = some (AV.int IntKind.i64 (↑l.length : Int)) from len_map _) <| .yes (show (decide ((↑(j + (1 : Nat)) : Int) < (↑l.length : Int))) = true from decide_eq_true (show (↑(j + (1 : Nat)) : Int) < (↑l.length : Int) from (by omega))) <| .idx (show idxA (2 : Nat) (AV.sl SK.sh (List.map encA l)) (AV.int IntKind.i64 (↑(j + (1 : Nat)) : Int)) = some (AV.ref (encA x).cells) from idx_row hd (by rfl)) <| .callG ([AV.str x.name]) (AV.bool (isName x.name)) (show Gives cfg (76 : FuncId) [AV.str x.name] (AV.bool (isName x.name)) from name_any _) ⟨rfl, rfl⟩ ⟨rfl, rfl⟩ <| .split (isName x.name = true) (fun h1 => .no (show (!isName x.name) = false from by have hh : isName x.name = true := h1; simp [hh]) <| .idx (show idxA (2 : Nat) (AV.sl SK.sh (List.map encA l)) (AV.int IntKind.i64 (↑(j + (1 : Nat)) : Int)) = some (AV.ref (encA x).cells) from idx_row hd (by rfl)) <| .split (x.n ≤ (0 : Int)) (fun h2 => .yes (show (decide (x.n ≤ (0 : Int))) = true from decide_eq_true (show x.n ≤ (0 : Int) from h2)) <| .fin ((ARes.ret (AV.int IntKind.i64 (1 : Int)), { boxes := [], toks := [], loops := [] : Heap })) (by simp only [IsRet]; grind [ckVl, ordV])) (fun h2 => .no (show (decide (x.n ≤ (0 : Int))) = false from decide_eq_false (show ¬ (x.n ≤ (0 : Int)) from h2)) <| .yes (show (decide ((0 : Int) < (↑(j + (1 : Nat)) : Int))) = true from decide_eq_true (show (0 : Int) < (↑(j + (1 : Nat)) : Int) from (by omega))) <| .idx (show idxA (2 : Nat) (AV.sl SK.sh (List.map encA l)) (AV.int IntKind.i64 (↑(j + (1 : Nat)) : Int)) = some (AV.ref (encA x).cells) from idx_row hd (by rfl)) <| .bin (show binA BinOp.sub (AV.int IntKind.i64 (↑(j + (1 : Nat)) : Int)) (AV.int IntKind.i64 (1 : Int)) = some (AV.int IntKind.i64 (↑j : Int)) from dec_i (by omega)) <| .idx (show idxA (2 : Nat) (AV.sl SK.sh (List.map encA l)) (AV.int IntKind.i64 (↑j : Int)) = some (AV.ref (encA p).cells) from idx_get hp (by rfl)) <| .split ((Op.bytesLess x.name p.name || x.name == p.name) = true) (fun h3 => .yes (show (Op.bytesLess x.name p.name || x.name == p.name) = true from h3) <| .fin ((ARes.ret (AV.int IntKind.i64 (13 : Int)), { boxes := [], toks := [], loops := [] : Heap })) (by simp only [IsRet]; grind [ckVl, ordV])) (fun h3 => .no (show (Op.bytesLess x.name p.name || x.name == p.name) = false from Bool.eq_false_iff.2 (show ¬ ((Op.bytesLess x.name p.name || x.name == p.name) = true) from h3)) <| .bin (show binA BinOp.add (AV.int IntKind.i64 (↑(j + (1 : Nat)) : Int)) (AV.int IntKind.i64 (1 : Int)) = some (AV.int IntKind.i64 (↑(j + (1 : Nat) + (1 : Nat)) : Int)) from inc_i (by omega)) <| .cutQ k77_0 [(0, AV.sl SK.sh (List.map encA l)), (3, AV.int IntKind.i64 (↑(j + (1 : Nat) + (1 : Nat)) : Int))] ({ boxes := [], toks := [], loops := [] : Heap }) (fun T hT => (ih (j + (1 : Nat) + (1 : Nat)) hnx T hT).to (by grind [ckVl, ordV]))))) (fun h1 => .yes (show (!isName x.name) = true from by have hh : ¬ (isName x.name = true) := h1; simp [hh]) <| .fin ((ARes.ret (AV.int IntKind.i64 (3 : Int)), { boxes := [], toks := [], loops := [] : Heap })) (by simp only [IsRet]; grind [ckVl, ordV]))) (by kernel_rfl)
theorem ckV_ref (l : List Amount) : Gives cfg 77 [.sl .sh (l.map encA)] (.int .i64 (ckV l)) := by
  refine Gives.run (l77 _ _) ?_
  have h := fun hn => ckV_ref_loop l hn l 0 rfl
  exact goG 60 []  trivial  (.len (show lenA false (AV.sl SK.sh (List.map encA l)) = some (AV.int IntKind.i64 (↑l.length : Int)) from len_map _) <| .split ((8 : Int) < (↑l.length : Int)) (fun h1 => .yes (show (decide ((8 : Int) < (↑l.length : Int))) = true from decide_eq_true (show (8 : Int) < (↑l.length : Int) from h1)) <| .fin ((ARes.ret (AV.int IntKind.i64 (4 : Int)), { boxes := [], toks := [], loops := [] : Heap })) (by simp only [IsRet]; grind [ckV])) (fun h1 => .no (show (decide ((8 : Int) < (↑l.length : Int))) = false from decide_eq_false (show ¬ ((8 : Int) < (↑l.length : Int)) from h1)) <| .cutQ k77_0 [(0, AV.sl SK.sh (List.map encA l)), (3, AV.int IntKind.i64 (0 : Int))] ({ boxes := [], toks := [], loops := [] : Heap }) (fun T hT => (h (by omega) T hT).to (by grind [ckV])))) (by kernel_rfl)
theorem ckV_loop (l : List Amount) (hn : l.length ≤ 8) : ∀ (post : List Amount) (i : Nat) (bs : List (List AV)) (hd : l.drop i = post) (T : Env) (hT : Has T [(0, .sl .sh (l.map encA)), (8, .sl .sh (l.map encA)), (9, .int .i64 l.length), (10, .int .i64 i)]),
    Goes cfg a82 k82_0 T ⟨bs, [], []⟩ (IsRet (.int .i64 (ckVl l i post))) := by
  intro post
  induction post with
  | nil =>
    intro i bs hd T hT
    have hge := drop_ge hd
    exact goG 60 _  hT  (.no (show (decide ((↑i : Int) < (↑l.length : Int))) = false from decide_eq_false (show ¬ ((↑i : Int) < (↑l.length : Int)) from (by omega))) <| .fin ((ARes.ret (AV.int IntKind.i64 (0 : Int)), { boxes := bs, toks := [], loops := [] : Heap })) rfl) (by kernel_rfl)
  | cons x post ih =>
    intro i bs hd T hT
    have hlt := drop_lt hd
    have hnx := drop_next hd
    cases i with
    | zero => exact goG 60 _  hT  (.yes (show (decide ((↑(0 : Nat) : Int) < (↑l.length : Int))) = true from decide_eq_true (show (↑(0 : Nat) : Int) < (↑l.length : Int) from (by omega))) <| .idx (show idxA (2 : Nat) (AV.sl SK.sh (List.map encA l)) (AV.int IntKind.i64 (↑(0 : Nat) : Int)) = some (AV.ref (encA x).cells) from idx_row hd (by rfl)) <| .load (show loadA true (2 : Nat) { boxes := bs, toks := [], loops := [] : Heap } (AV.ref [AV.str x.name, AV.int IntKind.i64 x.n]) = some (AV.agg [AV.str x.name, AV.int IntKind.i64 x.n]) from rfl) <| .store (show storeA (2 : Nat) { boxes := bs ++ [[AV.str [], AV.int IntKind.i64 (0 : Int)]], toks := [], loops := [] : Heap } (AV.ptr bs.length (0 : Nat)) (AV.agg [AV.str x.name, AV.int IntKind.i64 x.n]) = some ({ boxes := bs ++ [[AV.str x.name, AV.int IntKind.i64 x.n]], toks := [], loops := [] : Heap }) from store_box2 (cs := [AV.str [], AV.int IntKind.i64 (0 : Int)]) (cs' := [AV.str x.name, AV.int IntKind.i64 x.n]) (by simp) rfl (by simp [List.set_append])) <| .load (show loadA false (1 : Nat) { boxes := bs ++ [[AV.str x.name, AV.int IntKind.i64 x.n]], toks := [], loops := [] : Heap } (AV.ptr bs.length (0 : Nat)) = some (AV.str x.name) from load_box (cs := [AV.str x.name, AV.int IntKind.i64 x.n]) (by simp) rfl) <| .callG ([AV.str x.name]) (AV.bool (isName x.name)) (show Gives cfg (143 : FuncId) [AV.str x.name] (AV.bool (isName x.name)) from res_name _) ⟨rfl, rfl⟩ ⟨rfl, rfl⟩ <| .split (isName x.name = true) (fun h1 => .no (show (!isName x.name) = false from by have hh : isName x.name = true := h1; simp [hh]) <| .load (show loadA false (1 : Nat) { boxes := bs ++ [[AV.str x.name, AV.int IntKind.i64 x.n]], toks := [], loops := [] : Heap } (AV.ptr bs.length (1 : Nat)) = some (AV.int IntKind.i64 x.n) from load_box (cs := [AV.str x.name, AV.int IntKind.i64 x.n]) (by simp) rfl) <| .split (x.n ≤ (0 : Int)) (fun h2 => .yes (show (decide (x.n ≤ (0 : Int))) = true from decide_eq_true (show x.n ≤ (0 : Int) from h2)) <| .fin ((ARes.ret (AV.int IntKind.i64 (1 : Int)), { boxes := bs ++ [[AV.str x.name, AV.int IntKind.i64 x.n]], toks := [], loops := [] : Heap })) (by simp only [IsRet]; grind [ckVl, ordV])) (fun h2 => .no (show (decide (x.n ≤ (0 : Int))) = false from decide_eq_false (show ¬ (x.n ≤ (0 : Int)) from h2)) <| .ff <| .ff <| .bin (show binA BinOp.add (AV.int IntKind.i64 (↑(0 : Nat) : Int)) (AV.int IntKind.i64 (1 : Int)) = some (AV.int IntKind.i64 (↑((0 : Nat) + (1 : Nat)) : Int)) from inc_i (by omega)) <| .cutQ k82_0 [(0, AV.sl SK.sh (List.map encA l)), (8, AV.sl SK.sh (List.map encA l)), (9, AV.int IntKind.i64 (↑l.length : Int)), (10, AV.int IntKind.i64 (↑((0 : Nat) + (1 : Nat)) : Int))] ({ boxes := bs ++ [[AV.str x.name, AV.int IntKind.i64 x.n]], toks := [], loops := [] : Heap }) (fun T hT => (ih ((0 : Nat) + (1 : Nat)) (bs ++ [[AV.str x.name, AV.int IntKind.i64 x.n]]) hnx T hT).to (by grind [ckVl, ordV])))) (fun h1 => .yes (show (!isName x.name) = true from by have hh : ¬ (isName x.name = true) := h1; simp [hh]) <| .fin ((ARes.ret (AV.int IntKind.i64 (3 : Int)), { boxes := bs ++ [[AV.str x.name, AV.int IntKind.i64 x.n]], toks := [], loops := [] : Heap })) (by simp only [IsRet]; grind [ckVl, ordV]))) (by kernel_rfl)
    | succ j =>
      obtain ⟨p, hp⟩ : ∃ p, l[j]? = some p := ⟨l[j], List.getElem?_eq_getElem (by omega)⟩
      exact goG 60 _  hT  (.yes (show (decide ((↑(j + (1 : Nat)) : Int) < (↑l.length : Int))) = true from decide_eq_true (show (↑(j + (1 : Nat)) : Int) < (↑l.length : Int) from (by omega))) <| .idx (show idxA (2 : Nat) (AV.sl SK.sh (List.map encA l)) (AV.int IntKind.i64 (↑(j + (1 : Nat)) : Int)) = some (AV.ref (encA x).cells) from idx_row hd (by rfl)) <| .load (show loadA true (2 : Nat) { boxes := bs, toks := [], loops := [] : Heap } (AV.ref [AV.str x.name, AV.int IntKind.i64 x.n]) = some (AV.agg [AV.str x.name, AV.int IntKind.i64 x.n]) from rfl) <| .store (show storeA (2 : Nat) { boxes := bs ++ [[AV.str [], AV.int IntKind.i64 (0 : Int)]], toks := [], loops := [] : Heap } (AV.ptr bs.length (0 : Nat)) (AV.agg [AV.str x.name, AV.int IntKind.i64 x.n]) = some ({ boxes := bs ++ [[AV.str x.name, AV.int IntKind.i64 x.n]], toks := [], loops := [] : Heap }) from store_box2 (cs := [AV.str [], AV.int IntKind.i64 (0 : Int)]) (cs' := [AV.str x.name, AV.int IntKind.i64 x.n]) (by simp) rfl (by simp [List.set_append])) <| .load (show loadA false (1 : Nat) { boxes := bs ++ [[AV.str x.name, AV.int IntKind.i64 x.n]], toks := [], loops := [] : Heap } (AV.ptr bs.length (0 : Nat)) = some (AV.str x.name) from load_box (cs := [AV.str x.name, AV.int IntKind.i64 x.n]) (by simp) rfl) <| .callG ([AV.str x.name]) (AV.bool (isName x.name)) (show Gives cfg (143 : FuncId) [AV.str x.name] (AV.bool (isName x.name)) from res_name _) ⟨rfl, rfl⟩ ⟨rfl, rfl⟩ <| .split (isName x.name = true) (fun h1 => .no (show (!isName x.name) = false from by have hh : isName x.name = true := h1; simp [hh]) <| .load (show loadA false (1 : Nat) { boxes := bs ++ [[AV.str x.name, AV.int IntKind.i64 x.n]], toks := [], loops := [] : Heap } (AV.ptr bs.length (1 : Nat)) = some (AV.int IntKind.i64 x.n) from load_box (cs := [AV.str x.name, AV.int IntKind.i64 x.n]) (by simp) rfl) <| .split (x.n ≤ (0 : Int)) (fun h2 => .yes (show (decide (x.n ≤ (0 : Int))) = true from decide_eq_true (show x.n ≤ (0 : Int) from h2)) <| .fin ((ARes.ret (AV.int IntKind.i64 (1 : Int)), { boxes := bs ++ [[AV.str x.name, AV.int IntKind.i64 x.n]], toks := [], loops := [] : Heap })) (by simp only [IsRet]; grind [ckVl, ordV])) (fun h2 => .no (show (decide (x.n ≤ (0 : Int))) = false from decide_eq_false (show ¬ (x.n ≤ (0 : Int)) from h2)) <| .yes (show (decide ((0 : Int) < (↑(j + (1 : Nat)) : Int))) = true from decide_eq_true (show (0 : Int) < (↑(j + (1 : Nat)) : Int) from (by omega))) <| .load (show loadA false (1 : Nat) { boxes := bs ++ [[AV.str x.name, AV.int IntKind.i64 x.n]], toks := [], loops := [] : Heap } (AV.ptr bs.length (0 : Nat)) = some (AV.str x.name) from load_box (cs := [AV.str x.name, AV.int IntKind.i64 x.n]) (by simp) rfl) <| .bin (show binA BinOp.sub (AV.int IntKind.i64 (↑(j + (1 : Nat)) : Int)) (AV.int IntKind.i64 (1 : Int)) = some (AV.int IntKind.i64 (↑j : Int)) from dec_i (by omega)) <| .idx (show idxA (2 : Nat) (AV.sl SK.sh (List.map encA l)) (AV.int IntKind.i64 (↑j : Int)) = some (AV.ref (encA p).cells) from idx_get hp (by rfl)) <| .load (show loadA false (1 : Nat) { boxes := bs ++ [[AV.str x.name, AV.int IntKind.i64 x.n]], toks := [], loops := [] : Heap } (AV.ref [AV.str p.name]) = some (AV.str p.name) from rfl) <| .split ((Op.bytesLess x.name p.name || x.name == p.name) = true) (fun h3 => .yes (show (Op.bytesLess x.name p.name || x.name == p.name) = true from h3) <| .fin ((ARes.ret (AV.int IntKind.i64 (13 : Int)), { boxes := bs ++ [[AV.str x.name, AV.int IntKind.i64 x.n]], toks := [], loops := [] : Heap })) (by simp only [IsRet]; grind [ckVl, ordV])) (fun h3 => .no (show (Op.bytesLess x.name p.name || x.name == p.name) = false from Bool.eq_false_iff.2 (show ¬ ((Op.bytesLess x.name p.name || x.name == p.name) = true) from h3)) <| .bin (show binA BinOp.add (AV.int IntKind.i64 (↑(j + (1 : Nat)) : Int)) (AV.int IntKind.i64 (1 : Int)) = some (AV.int IntKind.i64 (↑(j + (1 : Nat) + (1 : Nat)) : Int)) from inc_i (by omega)) <| .cutQ k82_0 [(0, AV.sl SK.sh (List.map encA l)), (8, AV.sl SK.sh (List.map encA l)), (9, AV.int IntKind.i64 (↑l.length : Int)), (10, AV.int IntKind.i64 (↑(j + (1 : Nat) + (1 : Nat)) : Int))] ({ boxes := bs ++ [[AV.str x.name, AV.int IntKind.i64 x.n]], toks := [], loops := [] : Heap }) (fun T hT => (ih (j + (1 : Nat) + (1 : Nat)) (bs ++ [[AV.str x.name, AV.int IntKind.i64 x.n]]) hnx T hT).to (by grind [ckVl, ordV]))))) (fun h1 => .yes (show (!isName x.name) = true from by have hh : ¬ (isName x.name = true) := h1; simp [hh]) <| .fin ((ARes.ret (AV.int IntKind.i64 (3 : Int)), { boxes := bs ++ [[AV.str x.name, AV.int IntKind.i64 x.n]], toks := [], loops := [] : Heap })) (by simp only [IsRet]; grind [ckVl, ordV]))) (by kernel_rfl)
theorem ckV_any (l : List Amount) : Gives cfg 82 [.sl .sh (l.map encA)] (.int .i64 (ckV l)) := by
  refine Gives.run (l82 _ _) ?_
  have h := fun hn => ckV_loop l hn l 0 [] rfl
  exact goG 60 []  trivial  (.len (show lenA false (AV.sl SK.sh (List.map encA l)) = some (AV.int IntKind.i64 (↑l.length : Int)) from len_map _) <| .split ((8 : Int) < (↑l.length : Int)) (fun h1 => .yes (show (decide ((8 : Int) < (↑l.length : Int))) = true from decide_eq_true (show (8 : Int) < (↑l.length : Int) from h1)) <| .fin ((ARes.ret (AV.int IntKind.i64 (4 : Int)), { boxes := [], toks := [], loops := [] : Heap })) (by simp only [IsRet]; grind [ckV])) (fun h1 => .no (show (decide ((8 : Int) < (↑l.length : Int))) = false from decide_eq_false (show ¬ ((8 : Int) < (↑l.length : Int)) from h1)) <| .len (show lenA false (AV.sl SK.sh (List.map encA l)) = some (AV.int IntKind.i64 (↑l.length : Int)) from len_map _) <| .cutQ k82_0 [(0, AV.sl SK.sh (List.map encA l)), (8, AV.sl SK.sh (List.map encA l)), (9, AV.int IntKind.i64 (↑l.length : Int)), (10, AV.int IntKind.i64 (0 : Int))] ({ boxes := [], toks := [], loops := [] : Heap }) (fun T hT => (h (by omega) T hT).to (by grind [ckV])))) (by kernel_rfl)
end Go.Aa.T

set_option linter.unusedVariables false
set_option linter.unusedSimpArgs false
set_option maxRecDepth 100000
namespace Go.Aa.T
open Go.Aa Go.Proofs
def encI (x : Int) : AV := .int .i64 x
def firstE : List Int → Int
  | [] => 0
  | x :: r => if x = 0 then firstE r else x
theorem first_loop (l : List Int) (hn : l.length ≤ 100) : ∀ (post : List Int) (i : Nat) (hd : l.drop i = post) (T : Env) (hT : Has T [(5, .sl .sh (l.map encI)), (6, .int .i64 l.length), (7, .int .i64 i)]),
    Goes cfg a80 k80_0 T Heap.nil (IsRet (.int .i64 (firstE post))) := by
  intro post
  induction post with
  | nil =>
    intro i hd T hT
    have hge := drop_ge hd
    exact goG 60 _  hT  (.no (show (decide ((↑i : Int) < (↑l.length : Int))) = false from decide_eq_false (show ¬ ((↑i : Int) < (↑l.length : Int)) from (by omega))) <| .fin ((ARes.ret (AV.int IntKind.i64 (0 : Int)), { boxes := [], toks := [], loops := [] : Heap })) rfl) (by kernel_rfl)
  | cons x post ih =>
    intro i hd T hT
    have hlt := drop_lt hd
    have hnx := drop_next hd
    have hidx : idxA 1 (.sl .sh (l.map encI)) (.int .i64 (i : Nat)) = some (.ref [.int .i64 x]) := idx_row (f := encI) hd rfl
    by_cases h0 : x = 0
    · have e : firstE (x :: post) = firstE post := by simp [firstE, h0]
      rw [e]
      have ih' := ih (i + 1) hnx
      exact goG 60 _  hT  (.yes (show (decide ((↑i : Int) < (↑l.length : Int))) = true from decide_eq_true (show (↑i : Int) < (↑l.length : Int) from (by omega))) <| .idx (show idxA (1 : Nat) (AV.sl SK.sh (List.map encI l)) (AV.int IntKind.i64 (↑i : Int)) = some (AV.ref [AV.int IntKind.i64 x]) from hidx) <| .no (show (x != (0 : Int)) = false from Bool.eq_false_iff.2 (show ¬ ((x != (0 : Int)) = true) from (by simpa using h0))) <| .bin (show binA BinOp.add (AV.int IntKind.i64 (↑i : Int)) (AV.int IntKind.i64 (1 : Int)) = some (AV.int IntKind.i64 (↑(i + (1 : Nat)) : Int)) from inc_i (by omega)) <| .cutQ k80_0 [(5, AV.sl SK.sh (List.map encI l)), (6, AV.int IntKind.i64 (↑l.length : Int)), (7, AV.int IntKind.i64 (↑(i + (1 : Nat)) : Int))] ({ boxes := [], toks := [], loops := [] : Heap }) (fun T hT => (ih' T hT))) (by kernel_rfl)
    · have e : firstE (x :: post) = x := by simp [firstE, h0]
      rw [e]
      exact goG 60 _  hT  (.yes (show (decide ((↑i : Int) < (↑l.length : Int))) = true from decide_eq_true (show (↑i : Int) < (↑l.length : Int) from (by omega))) <| .idx (show idxA (1 : Nat) (AV.sl SK.sh (List.map encI l)) (AV.int IntKind.i64 (↑i : Int)) = some (AV.ref [AV.int IntKind.i64 x]) from hidx) <| .yes (show (x != (0 : Int)) = true from (by simpa using h0)) <| .fin ((ARes.ret (AV.int IntKind.i64 x), { boxes := [], toks := [], loops := [] : Heap })) rfl) (by kernel_rfl)
theorem first_any (l : List Int) (hn : l.length ≤ 100) : Gives cfg 80 [.sl .sh (l.map encI)] (.int .i64 (firstE l)) := by
  refine Gives.run (l80 _ _) ?_
  have h := first_loop l hn l 0 rfl
  exact goG 60 []  trivial  (.len (show lenA false (AV.sl SK.sh (List.map encI l)) = some (AV.int IntKind.i64 (↑l.length : Int)) from len_map _) <| .cutQ k80_0 [(5, AV.sl SK.sh (List.map encI l)), (6, AV.int IntKind.i64 (↑l.length : Int)), (7, AV.int IntKind.i64 (0 : Int))] ({ boxes := [], toks := [], loops := [] : Heap }) (fun T hT => (h T hT))) (by kernel_rfl)
theorem named_any (s : List UInt8) : Gives cfg 81 [.str s] (.int .i64 (if isName s then 0 else 3)) := by
  refine Gives.run (l81 _ _) ?_
  exact goG 60 []  trivial  (.callG ([AV.str s]) (AV.bool (isName s)) (show Gives cfg (143 : FuncId) [AV.str s] (AV.bool (isName s)) from res_name _) ⟨rfl, rfl⟩ ⟨rfl, rfl⟩ <| .split (isName s = true) (fun h1 => .no (show (!isName s) = false from by have hh : isName s = true := h1; simp [hh]) <| .fin ((ARes.ret (AV.int IntKind.i64 (0 : Int)), { boxes := [], toks := [], loops := [] : Heap })) (by simp only [IsRet]; grind)) (fun h1 => .yes (show (!isName s) = true from by have hh : ¬ (isName s = true) := h1; simp [hh]) <| .fin ((ARes.ret (AV.int IntKind.i64 (3 : Int)), { boxes := [], toks := [], loops := [] : Heap })) (by simp only [IsRet]; grind))) (by kernel_rfl)
end Go.Aa.T

set_option linter.unusedVariables false
set_option linter.unusedSimpArgs false
set_option maxRecDepth 100000
namespace Go.Aa.T
open Go.Aa Go.Proofs
structure Node where
  name : List UInt8
  cap : List Amount
  labels : List Pair
  taints : List Taint
  cordon : Bool
def encN (n : Node) : AV := .agg [.str n.name, .sl .sh (n.cap.map encA), .sl .sh (n.labels.map encP), .sl .sh (n.taints.map encT), .bool n.cordon]
def ckN (n : Node) : Int := firstE [if isName n.name then 0 else 3, ckV n.cap, ckS n.labels, ckT n.taints]
theorem first4 (a b c d : Int) : Gives cfg 80 [.sl .sh [.int .i64 a, .int .i64 b, .int .i64 c, .int .i64 d]] (.int .i64 (firstE [a, b, c, d])) := first_any [a, b, c, d] (by simp)
theorem ckN_any (n : Node) : Gives cfg 34 [encN n] (.int .i64 (ckN n)) := by
  refine Gives.run (l34 _ _) ?_
  exact goG 60 []  trivial  (.callG ([AV.str n.name]) (AV.int IntKind.i64 (if isName n.name = true then (0 : Int) else (3 : Int))) (show Gives cfg (81 : FuncId) [AV.str n.name] (AV.int IntKind.i64 (if isName n.name = true then (0 : Int) else (3 : Int))) from named_any _) ⟨rfl, rfl⟩ ⟨rfl, rfl⟩ <| .callG ([AV.sl SK.sh (List.map encA n.cap)]) (AV.int IntKind.i64 (ckV n.cap)) (show Gives cfg (82 : FuncId) [AV.sl SK.sh (List.map encA n.cap)] (AV.int IntKind.i64 (ckV n.cap)) from ckV_any _) ⟨rfl, rfl⟩ ⟨rfl, rfl⟩ <| .callG ([AV.sl SK.sh (List.map encP n.labels)]) (AV.int IntKind.i64 (ckS n.labels)) (show Gives cfg (83 : FuncId) [AV.sl SK.sh (List.map encP n.labels)] (AV.int IntKind.i64 (ckS n.labels)) from ckS_any _) ⟨rfl, rfl⟩ ⟨rfl, rfl⟩ <| .callG ([AV.sl SK.sh (List.map encT n.taints)]) (AV.int IntKind.i64 (ckT n.taints)) (show Gives cfg (84 : FuncId) [AV.sl SK.sh (List.map encT n.taints)] (AV.int IntKind.i64 (ckT n.taints)) from ckT2 _) ⟨rfl, rfl⟩ ⟨rfl, rfl⟩ <| .callG ([AV.sl SK.full [AV.int IntKind.i64 (if isName n.name = true then (0 : Int) else (3 : Int)), AV.int IntKind.i64 (ckV n.cap), AV.int IntKind.i64 (ckS n.labels), AV.int IntKind.i64 (ckT n.taints)]]) (AV.int IntKind.i64 (firstE [if isName n.name = true then (0 : Int) else (3 : Int), ckV n.cap, ckS n.labels, ckT n.taints])) (show Gives cfg (80 : FuncId) [AV.sl SK.sh [AV.int IntKind.i64 (if isName n.name = true then (0 : Int) else (3 : Int)), AV.int IntKind.i64 (ckV n.cap), AV.int IntKind.i64 (ckS n.labels), AV.int IntKind.i64 (ckT n.taints)]] (AV.int IntKind.i64 (firstE [if isName n.name = true then (0 : Int) else (3 : Int), ckV n.cap, ckS n.labels, ckT n.taints])) from first4 _ _ _ _) ⟨rfl, rfl⟩ ⟨rfl, rfl⟩ <| .fin ((ARes.ret (AV.int IntKind.i64 (firstE [if isName n.name = true then (0 : Int) else (3 : Int), ckV n.cap, ckS n.labels, ckT n.taints])), { boxes := [[AV.str n.name, AV.sl SK.sh (List.map encA n.cap), AV.sl SK.sh (List.map encP n.labels), AV.sl SK.sh (List.map encT n.taints), AV.bool n.cordon]], toks := [], loops := [] : Heap })) rfl) (by kernel_rfl)
end Go.Aa.T

set_option linter.unusedVariables false
set_option linter.unusedSimpArgs false
namespace Go.Aa.T
open Go.Aa
end Go.Aa.T

set_option linter.unusedVariables false
set_option linter.unusedSimpArgs false
set_option maxRecDepth 100000
namespace Go.Aa.T
open Go.Aa Go.Proofs


end Go.Aa.T

set_option linter.unusedVariables false
set_option linter.unusedSimpArgs false
set_option maxRecDepth 100000
namespace Go.Aa.T
open Go.Aa Go.Proofs

def same2 {X : Type} (e : X → X → Bool) : List X → List X → Bool
  | [], [] => true
  | x :: a, y :: b => e x y && same2 e a b
  | _, _ => false
theorem same2_len {X : Type} {e : X → X → Bool} : ∀ {a b : List X}, a.length ≠ b.length → same2 e a b = false
  | [], [], h => absurd rfl h
  | [], _ :: _, _ => rfl
  | _ :: _, [], _ => rfl
  | x :: a, y :: b, h => by
    simp only [List.length_cons, ne_eq, Nat.add_right_cancel_iff] at h
    simp only [same2, same2_len h, Bool.and_false]
theorem same2_iff {X : Type} {e : X → X → Bool} (he : ∀ x y, e x y = true ↔ x = y) : ∀ {a b : List X}, same2 e a b = true ↔ a = b
  | [], [] => by simp [same2]
  | [], _ :: _ => by simp [same2]
  | _ :: _, [] => by simp [same2]
  | x :: a, y :: b => by simp [same2, he, same2_iff he]
def eqA (x y : Amount) : Bool := x.name == y.name && x.n == y.n
def eqP (x y : Pair) : Bool := x.key == y.key && x.val == y.val
def eqT (x y : Taint) : Bool := x.key == y.key && (x.val == y.val && x.hard == y.hard)
theorem eqA_iff (x y : Amount) : eqA x y = true ↔ x = y := by cases x; cases y; simp [eqA]
theorem eqP_iff (x y : Pair) : eqP x y = true ↔ x = y := by cases x; cases y; simp [eqP]
theorem eqT_iff (x y : Taint) : eqT x y = true ↔ x = y := by cases x; cases y; simp [eqT]
theorem sameVR_loop (a b : List Amount) (hn : a.length < 9223372036854775807) (he : a.length = b.length) : ∀ (post q : List Amount) (i : Nat) (hd : a.drop i = post) (hq : b.drop i = q) (T : Env) (hT : Has T [(0, .sl .sh (a.map encA)), (1, .sl .sh (b.map encA)), (5, .int .i64 i)]),
    Goes cfg a88 k88_0 T Heap.nil (IsRet (.bool (same2 eqA post q))) := by
  intro post
  induction post with
  | nil =>
    intro q i hd hq T hT
    have hge := drop_ge hd
    have e : q = [] := by rw [← hq]; exact List.drop_eq_nil_of_le (by omega)
    subst e
    exact goG 60 _  hT  (.len (show lenA false (AV.sl SK.sh (List.map encA a)) = some (AV.int IntKind.i64 (↑a.length : Int)) from len_map _) <| .no (show (decide ((↑i : Int) < (↑a.length : Int))) = false from decide_eq_false (show ¬ ((↑i : Int) < (↑a.length : Int)) from (by omega))) <| .fin ((ARes.ret (AV.bool true), { boxes := [], toks := [], loops := [] : Heap })) rfl) (by kernel_rfl)
  | cons x post ih =>
    intro q i hd hq T hT
    have hlt := drop_lt hd
    have hnx := drop_next hd
    cases q with
    | nil => have := drop_ge hq; omega
    | cons y q =>
      have hnq := drop_next hq
      exact goG 60 _  hT  (.len (show lenA false (AV.sl SK.sh (List.map encA a)) = some (AV.int IntKind.i64 (↑a.length : Int)) from len_map _) <| .yes (show (decide ((↑i : Int) < (↑a.length : Int))) = true from decide_eq_true (show (↑i : Int) < (↑a.length : Int) from (by omega))) <| .idx (show idxA (2 : Nat) (AV.sl SK.sh (List.map encA a)) (AV.int IntKind.i64 (↑i : Int)) = some (AV.ref (encA x).cells) from idx_row hd (by rfl)) <| .idx (show idxA (2 : Nat) (AV.sl SK.sh (List.map encA b)) (AV.int IntKind.i64 (↑i : Int)) = some (AV.ref (encA y).cells) from idx_row hq (by rfl)) <| .split ((if true = true then !(x.name == y.name && (x.n == y.n && true)) else x.name == y.name && (x.n == y.n && true)) = true) (fun h1 => .yes (show (if true = true then !(x.name == y.name && (x.n == y.n && true)) else x.name == y.name && (x.n == y.n && true)) = true from h1) <| .fin ((ARes.ret (AV.bool false), { boxes := [], toks := [], loops := [] : Heap })) (by simp only [IsRet]; grind [same2, eqA])) (fun h1 => .no (show (if true = true then !(x.name == y.name && (x.n == y.n && true)) else x.name == y.name && (x.n == y.n && true)) = false from Bool.eq_false_iff.2 (show ¬ ((if true = true then !(x.name == y.name && (x.n == y.n && true)) else x.name == y.name && (x.n == y.n && true)) = true) from h1)) <| .bin (show binA BinOp.add (AV.int IntKind.i64 (↑i : Int)) (AV.int IntKind.i64 (1 : Int)) = some (AV.int IntKind.i64 (↑(i + (1 : Nat)) : Int)) from inc_i (by omega)) <| .cutQ k88_0 [(0, AV.sl SK.sh (List.map encA a)), (1, AV.sl SK.sh (List.map encA b)), (5, AV.int IntKind.i64 (↑(i + (1 : Nat)) : Int))] ({ boxes := [], toks := [], loops := [] : Heap }) (fun T hT => (ih (q) (i + (1 : Nat)) hnx hnq T hT).to (by grind [same2, eqA])))) (by kernel_rfl)
theorem sameVR (a b : List Amount) (hn : a.length < 9223372036854775807) : Gives cfg 88 [.sl .sh (a.map encA), .sl .sh (b.map encA)] (.bool (same2 eqA a b)) := by
  refine Gives.run (l88 _ _) ?_
  by_cases he : a.length = b.length
  · have h := sameVR_loop a b hn he a b 0 rfl rfl
    exact goG 60 []  trivial  (.len (show lenA false (AV.sl SK.sh (List.map encA a)) = some (AV.int IntKind.i64 (↑a.length : Int)) from len_map _) <| .len (show lenA false (AV.sl SK.sh (List.map encA b)) = some (AV.int IntKind.i64 (↑b.length : Int)) from len_map _) <| .no (show ((↑a.length : Int) != (↑b.length : Int)) = false from Bool.eq_false_iff.2 (show ¬ (((↑a.length : Int) != (↑b.length : Int)) = true) from (by simp [he]))) <| .cutQ k88_0 [(0, AV.sl SK.sh (List.map encA a)), (1, AV.sl SK.sh (List.map encA b)), (5, AV.int IntKind.i64 (0 : Int))] ({ boxes := [], toks := [], loops := [] : Heap }) (fun T hT => (h T hT))) (by kernel_rfl)
  · rw [same2_len he]
    exact goG 60 []  trivial  (.len (show lenA false (AV.sl SK.sh (List.map encA a)) = some (AV.int IntKind.i64 (↑a.length : Int)) from len_map _) <| .len (show lenA false (AV.sl SK.sh (List.map encA b)) = some (AV.int IntKind.i64 (↑b.length : Int)) from len_map _) <| .yes (show ((↑a.length : Int) != (↑b.length : Int)) = true from (by simp; omega)) <| .fin ((ARes.ret (AV.bool false), { boxes := [], toks := [], loops := [] : Heap })) rfl) (by kernel_rfl)
theorem samePR_loop (a b : List Pair) (hn : a.length < 9223372036854775807) (he : a.length = b.length) : ∀ (post q : List Pair) (i : Nat) (hd : a.drop i = post) (hq : b.drop i = q) (T : Env) (hT : Has T [(0, .sl .sh (a.map encP)), (1, .sl .sh (b.map encP)), (5, .int .i64 i)]),
    Goes cfg a89 k89_0 T Heap.nil (IsRet (.bool (same2 eqP post q))) := by
  intro post
  induction post with
  | nil =>
    intro q i hd hq T hT
    have hge := drop_ge hd
    have e : q = [] := by rw [← hq]; exact List.drop_eq_nil_of_le (by omega)
    subst e
    exact goG 60 _  hT  (.len (show lenA false (AV.sl SK.sh (List.map encP a)) = some (AV.int IntKind.i64 (↑a.length : Int)) from len_map _) <| .no (show (decide ((↑i : Int) < (↑a.length : Int))) = false from decide_eq_false (show ¬ ((↑i : Int) < (↑a.length : Int)) from (by omega))) <| .fin ((ARes.ret (AV.bool true), { boxes := [], toks := [], loops := [] : Heap })) rfl) (by kernel_rfl)
  | cons x post ih =>
    intro q i hd hq T hT
    have hlt := drop_lt hd
    have hnx := drop_next hd
    cases q with
    | nil => have := drop_ge hq; omega
    | cons y q =>
      have hnq := drop_next hq
      exact goG 60 _  hT  (.len (show lenA false (AV.sl SK.sh (List.map encP a)) = some (AV.int IntKind.i64 (↑a.length : Int)) from len_map _) <| .yes (show (decide ((↑i : Int) < (↑a.length : Int))) = true from decide_eq_true (show (↑i : Int) < (↑a.length : Int) from (by omega))) <| .idx (show idxA (2 : Nat) (AV.sl SK.sh (List.map encP a)) (AV.int IntKind.i64 (↑i : Int)) = some (AV.ref (encP x).cells) from idx_row hd (by rfl)) <| .idx (show idxA (2 : Nat) (AV.sl SK.sh (List.map encP b)) (AV.int IntKind.i64 (↑i : Int)) = some (AV.ref (encP y).cells) from idx_row hq (by rfl)) <| .split ((if true = true then !(x.key == y.key && (x.val == y.val && true)) else x.key == y.key && (x.val == y.val && true)) = true) (fun h1 => .yes (show (if true = true then !(x.key == y.key && (x.val == y.val && true)) else x.key == y.key && (x.val == y.val && true)) = true from h1) <| .fin ((ARes.ret (AV.bool false), { boxes := [], toks := [], loops := [] : Heap })) (by simp only [IsRet]; grind [same2, eqP])) (fun h1 => .no (show (if true = true then !(x.key == y.key && (x.val == y.val && true)) else x.key == y.key && (x.val == y.val && true)) = false from Bool.eq_false_iff.2 (show ¬ ((if true = true then !(x.key == y.key && (x.val == y.val && true)) else x.key == y.key && (x.val == y.val && true)) = true) from h1)) <| .bin (show binA BinOp.add (AV.int IntKind.i64 (↑i : Int)) (AV.int IntKind.i64 (1 : Int)) = some (AV.int IntKind.i64 (↑(i + (1 : Nat)) : Int)) from inc_i (by omega)) <| .cutQ k89_0 [(0, AV.sl SK.sh (List.map encP a)), (1, AV.sl SK.sh (List.map encP b)), (5, AV.int IntKind.i64 (↑(i + (1 : Nat)) : Int))] ({ boxes := [], toks := [], loops := [] : Heap }) (fun T hT => (ih (q) (i + (1 : Nat)) hnx hnq T hT).to (by grind [same2, eqP])))) (by kernel_rfl)
theorem samePR (a b : List Pair) (hn : a.length < 9223372036854775807) : Gives cfg 89 [.sl .sh (a.map encP), .sl .sh (b.map encP)] (.bool (same2 eqP a b)) := by
  refine Gives.run (l89 _ _) ?_
  by_cases he : a.length = b.length
  · have h := samePR_loop a b hn he a b 0 rfl rfl
    exact goG 60 []  trivial  (.len (show lenA false (AV.sl SK.sh (List.map encP a)) = some (AV.int IntKind.i64 (↑a.length : Int)) from len_map _) <| .len (show lenA false (AV.sl SK.sh (List.map encP b)) = some (AV.int IntKind.i64 (↑b.length : Int)) from len_map _) <| .no (show ((↑a.length : Int) != (↑b.length : Int)) = false from Bool.eq_false_iff.2 (show ¬ (((↑a.length : Int) != (↑b.length : Int)) = true) from (by simp [he]))) <| .cutQ k89_0 [(0, AV.sl SK.sh (List.map encP a)), (1, AV.sl SK.sh (List.map encP b)), (5, AV.int IntKind.i64 (0 : Int))] ({ boxes := [], toks := [], loops := [] : Heap }) (fun T hT => (h T hT))) (by kernel_rfl)
  · rw [same2_len he]
    exact goG 60 []  trivial  (.len (show lenA false (AV.sl SK.sh (List.map encP a)) = some (AV.int IntKind.i64 (↑a.length : Int)) from len_map _) <| .len (show lenA false (AV.sl SK.sh (List.map encP b)) = some (AV.int IntKind.i64 (↑b.length : Int)) from len_map _) <| .yes (show ((↑a.length : Int) != (↑b.length : Int)) = true from (by simp; omega)) <| .fin ((ARes.ret (AV.bool false), { boxes := [], toks := [], loops := [] : Heap })) rfl) (by kernel_rfl)
theorem sameTR_loop (a b : List Taint) (hn : a.length < 9223372036854775807) (he : a.length = b.length) : ∀ (post q : List Taint) (i : Nat) (hd : a.drop i = post) (hq : b.drop i = q) (T : Env) (hT : Has T [(0, .sl .sh (a.map encT)), (1, .sl .sh (b.map encT)), (5, .int .i64 i)]),
    Goes cfg a90 k90_0 T Heap.nil (IsRet (.bool (same2 eqT post q))) := by
  intro post
  induction post with
  | nil =>
    intro q i hd hq T hT
    have hge := drop_ge hd
    have e : q = [] := by rw [← hq]; exact List.drop_eq_nil_of_le (by omega)
    subst e
    exact goG 60 _  hT  (.len (show lenA false (AV.sl SK.sh (List.map encT a)) = some (AV.int IntKind.i64 (↑a.length : Int)) from len_map _) <| .no (show (decide ((↑i : Int) < (↑a.length : Int))) = false from decide_eq_false (show ¬ ((↑i : Int) < (↑a.length : Int)) from (by omega))) <| .fin ((ARes.ret (AV.bool true), { boxes := [], toks := [], loops := [] : Heap })) rfl) (by kernel_rfl)
  | cons x post ih =>
    intro q i hd hq T hT
    have hlt := drop_lt hd
    have hnx := drop_next hd
    cases q with
    | nil => have := drop_ge hq; omega
    | cons y q =>
      have hnq := drop_next hq
      exact goG 60 _  hT  (.len (show lenA false (AV.sl SK.sh (List.map encT a)) = some (AV.int IntKind.i64 (↑a.length : Int)) from len_map _) <| .yes (show (decide ((↑i : Int) < (↑a.length : Int))) = true from decide_eq_true (show (↑i : Int) < (↑a.length : Int) from (by omega))) <| .idx (show idxA (3 : Nat) (AV.sl SK.sh (List.map encT a)) (AV.int IntKind.i64 (↑i : Int)) = some (AV.ref (encT x).cells) from idx_row hd (by rfl)) <| .idx (show idxA (3 : Nat) (AV.sl SK.sh (List.map encT b)) (AV.int IntKind.i64 (↑i : Int)) = some (AV.ref (encT y).cells) from idx_row hq (by rfl)) <| .split ((if true = true then !(x.key == y.key && (x.val == y.val && (x.hard == y.hard && true))) else x.key == y.key && (x.val == y.val && (x.hard == y.hard && true))) = true) (fun h1 => .yes (show (if true = true then !(x.key == y.key && (x.val == y.val && (x.hard == y.hard && true))) else x.key == y.key && (x.val == y.val && (x.hard == y.hard && true))) = true from h1) <| .fin ((ARes.ret (AV.bool false), { boxes := [], toks := [], loops := [] : Heap })) (by simp only [IsRet]; grind [same2, eqT])) (fun h1 => .no (show (if true = true then !(x.key == y.key && (x.val == y.val && (x.hard == y.hard && true))) else x.key == y.key && (x.val == y.val && (x.hard == y.hard && true))) = false from Bool.eq_false_iff.2 (show ¬ ((if true = true then !(x.key == y.key && (x.val == y.val && (x.hard == y.hard && true))) else x.key == y.key && (x.val == y.val && (x.hard == y.hard && true))) = true) from h1)) <| .bin (show binA BinOp.add (AV.int IntKind.i64 (↑i : Int)) (AV.int IntKind.i64 (1 : Int)) = some (AV.int IntKind.i64 (↑(i + (1 : Nat)) : Int)) from inc_i (by omega)) <| .cutQ k90_0 [(0, AV.sl SK.sh (List.map encT a)), (1, AV.sl SK.sh (List.map encT b)), (5, AV.int IntKind.i64 (↑(i + (1 : Nat)) : Int))] ({ boxes := [], toks := [], loops := [] : Heap }) (fun T hT => (ih (q) (i + (1 : Nat)) hnx hnq T hT).to (by grind [same2, eqT])))) (by kernel_rfl)
theorem sameTR (a b : List Taint) (hn : a.length < 9223372036854775807) : Gives cfg 90 [.sl .sh (a.map encT), .sl .sh (b.map encT)] (.bool (same2 eqT a b)) := by
  refine Gives.run (l90 _ _) ?_
  by_cases he : a.length = b.length
  · have h := sameTR_loop a b hn he a b 0 rfl rfl
    exact goG 60 []  trivial  (.len (show lenA false (AV.sl SK.sh (List.map encT a)) = some (AV.int IntKind.i64 (↑a.length : Int)) from len_map _) <| .len (show lenA false (AV.sl SK.sh (List.map encT b)) = some (AV.int IntKind.i64 (↑b.length : Int)) from len_map _) <| .no (show ((↑a.length : Int) != (↑b.length : Int)) = false from Bool.eq_false_iff.2 (show ¬ (((↑a.length : Int) != (↑b.length : Int)) = true) from (by simp [he]))) <| .cutQ k90_0 [(0, AV.sl SK.sh (List.map encT a)), (1, AV.sl SK.sh (List.map encT b)), (5, AV.int IntKind.i64 (0 : Int))] ({ boxes := [], toks := [], loops := [] : Heap }) (fun T hT => (h T hT))) (by kernel_rfl)
  · rw [same2_len he]
    exact goG 60 []  trivial  (.len (show lenA false (AV.sl SK.sh (List.map encT a)) = some (AV.int IntKind.i64 (↑a.length : Int)) from len_map _) <| .len (show lenA false (AV.sl SK.sh (List.map encT b)) = some (AV.int IntKind.i64 (↑b.length : Int)) from len_map _) <| .yes (show ((↑a.length : Int) != (↑b.length : Int)) = true from (by simp; omega)) <| .fin ((ARes.ret (AV.bool false), { boxes := [], toks := [], loops := [] : Heap })) rfl) (by kernel_rfl)
end Go.Aa.T

set_option linter.unusedVariables false
set_option linter.unusedSimpArgs false
set_option maxRecDepth 100000
namespace Go.Aa.T
open Go.Aa Go.Proofs
def short1 (x : Amount) : Bool := decide (x.name.length ≤ 50)
def fewA (l : List Amount) : Bool := decide (l.length ≤ 20) && l.all short1
theorem fewA_len {l : List Amount} (h : fewA l = true) : l.length ≤ 20 := by
  simp only [fewA, Bool.and_eq_true, decide_eq_true_eq] at h; exact h.1
theorem fewA_loop (l : List Amount) (hn : l.length ≤ 20) : ∀ (post : List Amount) (i : Nat) (hd : l.drop i = post) (T : Env) (hT : Has T [(0, .sl .sh (l.map encA)), (3, .int .i64 i)]),
    Goes cfg a59 k59_0 T Heap.nil (IsRet (.bool (post.all short1))) := by
  intro post
  induction post with
  | nil =>
    intro i hd T hT
    have hge := drop_ge hd
    exact goG 60 _  hT  (.len (show lenA false (AV.sl SK.sh (List.map encA l)) = some (AV.int IntKind.i64 (↑l.length : Int)) from len_map _) <| .no (show (decide ((↑i : Int) < (↑l.length : Int))) = false from decide_eq_false (show ¬ ((↑i : Int) < (↑l.length : Int)) from (by omega))) <| .fin ((ARes.ret (AV.bool true), { boxes := [], toks := [], loops := [] : Heap })) rfl) (by kernel_rfl)
  | cons x post ih =>
    intro i hd T hT
    have hlt := drop_lt hd
    have hnx := drop_next hd
    exact goG 60 _  hT  (.len (show lenA false (AV.sl SK.sh (List.map encA l)) = some (AV.int IntKind.i64 (↑l.length : Int)) from len_map _) <| .yes (show (decide ((↑i : Int) < (↑l.length : Int))) = true from decide_eq_true (show (↑i : Int) < (↑l.length : Int) from (by omega))) <| .idx (show idxA (2 : Nat) (AV.sl SK.sh (List.map encA l)) (AV.int IntKind.i64 (↑i : Int)) = some (AV.ref (encA x).cells) from idx_row hd (by rfl)) <| .len (show lenA true (AV.str x.name) = some (AV.int IntKind.i64 (↑x.name.length : Int)) from len_str _) <| .split ((50 : Int) < (↑x.name.length : Int)) (fun h1 => .yes (show (decide ((50 : Int) < (↑x.name.length : Int))) = true from decide_eq_true (show (50 : Int) < (↑x.name.length : Int) from h1)) <| .fin ((ARes.ret (AV.bool false), { boxes := [], toks := [], loops := [] : Heap })) (by simp only [IsRet]; grind [short1])) (fun h1 => .no (show (decide ((50 : Int) < (↑x.name.length : Int))) = false from decide_eq_false (show ¬ ((50 : Int) < (↑x.name.length : Int)) from h1)) <| .bin (show binA BinOp.add (AV.int IntKind.i64 (↑i : Int)) (AV.int IntKind.i64 (1 : Int)) = some (AV.int IntKind.i64 (↑(i + (1 : Nat)) : Int)) from inc_i (by omega)) <| .cutQ k59_0 [(0, AV.sl SK.sh (List.map encA l)), (3, AV.int IntKind.i64 (↑(i + (1 : Nat)) : Int))] ({ boxes := [], toks := [], loops := [] : Heap }) (fun T hT => (ih (i + (1 : Nat)) hnx T hT).to (by grind [short1])))) (by kernel_rfl)
theorem fewA_any (l : List Amount) : Gives cfg 59 [.sl .sh (l.map encA)] (.bool (fewA l)) := by
  refine Gives.run (l59 _ _) ?_
  have h := fun hn => fewA_loop l hn l 0 rfl
  exact goG 60 []  trivial  (.len (show lenA false (AV.sl SK.sh (List.map encA l)) = some (AV.int IntKind.i64 (↑l.length : Int)) from len_map _) <| .split ((20 : Int) < (↑l.length : Int)) (fun h1 => .yes (show (decide ((20 : Int) < (↑l.length : Int))) = true from decide_eq_true (show (20 : Int) < (↑l.length : Int) from h1)) <| .fin ((ARes.ret (AV.bool false), { boxes := [], toks := [], loops := [] : Heap })) (by simp only [IsRet]; grind [fewA])) (fun h1 => .no (show (decide ((20 : Int) < (↑l.length : Int))) = false from decide_eq_false (show ¬ ((20 : Int) < (↑l.length : Int)) from h1)) <| .cutQ k59_0 [(0, AV.sl SK.sh (List.map encA l)), (3, AV.int IntKind.i64 (0 : Int))] ({ boxes := [], toks := [], loops := [] : Heap }) (fun T hT => (h (by omega) T hT).to (by grind [fewA])))) (by kernel_rfl)
theorem ofA_loop (l : List Amount) (hn : l.length ≤ 20) : ∀ (post : List Amount) (i : Nat) (acc : List AV) (hd : l.drop i = post) (ha : acc.length = i) (hl : lenOk 2 acc = true) (T : Env) (hT : Has T [(0, .sl .sh (l.map encA)), (3, rowS Heap.nil acc), (4, .int .i64 i)]),
    Goes cfg a73 k73_0 T (rowH Heap.nil acc) (IsRet (rowS Heap.nil (acc ++ post.map encA))) := by
  intro post
  induction post with
  | nil =>
    intro i acc hd ha hl T hT
    have hge := drop_ge hd
    exact goG 60 _  hT  (.len (show lenA false (AV.sl SK.sh (List.map encA l)) = some (AV.int IntKind.i64 (↑l.length : Int)) from len_map _) <| .no (show (decide ((↑i : Int) < (↑l.length : Int))) = false from decide_eq_false (show ¬ ((↑i : Int) < (↑l.length : Int)) from (by omega))) <| .fin ((ARes.ret (setD (setD (setD (setD (setD (setD (updL T [((0 : Nat), AV.sl SK.sh (List.map encA l)), ((3 : Nat), rowS Heap.nil acc), ((4 : Nat), AV.int IntKind.i64 (↑i : Int))]) { dst := some (5 : Nat), op := AOp.mov (Opd.t (4 : Nat)), guard := none, deps := [] : AOper }.dst (ev (updL T [((0 : Nat), AV.sl SK.sh (List.map encA l)), ((3 : Nat), rowS Heap.nil acc), ((4 : Nat), AV.int IntKind.i64 (↑i : Int))]) (Opd.t (4 : Nat)))) { dst := some (6 : Nat), op := AOp.mov (Opd.t (0 : Nat)), guard := none, deps := [] : AOper }.dst (ev (setD (updL T [((0 : Nat), AV.sl SK.sh (List.map encA l)), ((3 : Nat), rowS Heap.nil acc), ((4 : Nat), AV.int IntKind.i64 (↑i : Int))]) { dst := some (5 : Nat), op := AOp.mov (Opd.t (4 : Nat)), guard := none, deps := [] : AOper }.dst (ev (updL T [((0 : Nat), AV.sl SK.sh (List.map encA l)), ((3 : Nat), rowS Heap.nil acc), ((4 : Nat), AV.int IntKind.i64 (↑i : Int))]) (Opd.t (4 : Nat)))) (Opd.t (0 : Nat)))) { dst := some (7 : Nat), op := AOp.len false (Opd.t (6 : Nat)), guard := none, deps := [] : AOper }.dst (AV.int IntKind.i64 (↑l.length : Int))) { dst := some (8 : Nat), op := AOp.bin BinOp.lss (Opd.t (5 : Nat)) (Opd.t (7 : Nat)), guard := none, deps := [] : AOper }.dst (AV.bool (decide ((↑i : Int) < (↑l.length : Int))))) { dst := some (25 : Nat), op := AOp.mov (Opd.t (3 : Nat)), guard := none, deps := [] : AOper }.dst (ev (setD (setD (setD (setD (updL T [((0 : Nat), AV.sl SK.sh (List.map encA l)), ((3 : Nat), rowS Heap.nil acc), ((4 : Nat), AV.int IntKind.i64 (↑i : Int))]) { dst := some (5 : Nat), op := AOp.mov (Opd.t (4 : Nat)), guard := none, deps := [] : AOper }.dst (ev (updL T [((0 : Nat), AV.sl SK.sh (List.map encA l)), ((3 : Nat), rowS Heap.nil acc), ((4 : Nat), AV.int IntKind.i64 (↑i : Int))]) (Opd.t (4 : Nat)))) { dst := some (6 : Nat), op := AOp.mov (Opd.t (0 : Nat)), guard := none, deps := [] : AOper }.dst (ev (setD (updL T [((0 : Nat), AV.sl SK.sh (List.map encA l)), ((3 : Nat), rowS Heap.nil acc), ((4 : Nat), AV.int IntKind.i64 (↑i : Int))]) { dst := some (5 : Nat), op := AOp.mov (Opd.t (4 : Nat)), guard := none, deps := [] : AOper }.dst (ev (updL T [((0 : Nat), AV.sl SK.sh (List.map encA l)), ((3 : Nat), rowS Heap.nil acc), ((4 : Nat), AV.int IntKind.i64 (↑i : Int))]) (Opd.t (4 : Nat)))) (Opd.t (0 : Nat)))) { dst := some (7 : Nat), op := AOp.len false (Opd.t (6 : Nat)), guard := none, deps := [] : AOper }.dst (AV.int IntKind.i64 (↑l.length : Int))) { dst := some (8 : Nat), op := AOp.bin BinOp.lss (Opd.t (5 : Nat)) (Opd.t (7 : Nat)), guard := none, deps := [] : AOper }.dst (AV.bool (decide ((↑i : Int) < (↑l.length : Int))))) (Opd.t (3 : Nat)))) { dst := some (2 : Nat), op := AOp.mov (Opd.t (25 : Nat)), guard := none, deps := [] : AOper }.dst (ev (setD (setD (setD (setD (setD (updL T [((0 : Nat), AV.sl SK.sh (List.map encA l)), ((3 : Nat), rowS Heap.nil acc), ((4 : Nat), AV.int IntKind.i64 (↑i : Int))]) { dst := some (5 : Nat), op := AOp.mov (Opd.t (4 : Nat)), guard := none, deps := [] : AOper }.dst (ev (updL T [((0 : Nat), AV.sl SK.sh (List.map encA l)), ((3 : Nat), rowS Heap.nil acc), ((4 : Nat), AV.int IntKind.i64 (↑i : Int))]) (Opd.t (4 : Nat)))) { dst := some (6 : Nat), op := AOp.mov (Opd.t (0 : Nat)), guard := none, deps := [] : AOper }.dst (ev (setD (updL T [((0 : Nat), AV.sl SK.sh (List.map encA l)), ((3 : Nat), rowS Heap.nil acc), ((4 : Nat), AV.int IntKind.i64 (↑i : Int))]) { dst := some (5 : Nat), op := AOp.mov (Opd.t (4 : Nat)), guard := none, deps := [] : AOper }.dst (ev (updL T [((0 : Nat), AV.sl SK.sh (List.map encA l)), ((3 : Nat), rowS Heap.nil acc), ((4 : Nat), AV.int IntKind.i64 (↑i : Int))]) (Opd.t (4 : Nat)))) (Opd.t (0 : Nat)))) { dst := some (7 : Nat), op := AOp.len false (Opd.t (6 : Nat)), guard := none, deps := [] : AOper }.dst (AV.int IntKind.i64 (↑l.length : Int))) { dst := some (8 : Nat), op := AOp.bin BinOp.lss (Opd.t (5 : Nat)) (Opd.t (7 : Nat)), guard := none, deps := [] : AOper }.dst (AV.bool (decide ((↑i : Int) < (↑l.length : Int))))) { dst := some (25 : Nat), op := AOp.mov (Opd.t (3 : Nat)), guard := none, deps := [] : AOper }.dst (ev (setD (setD (setD (setD (updL T [((0 : Nat), AV.sl SK.sh (List.map encA l)), ((3 : Nat), rowS Heap.nil acc), ((4 : Nat), AV.int IntKind.i64 (↑i : Int))]) { dst := some (5 : Nat), op := AOp.mov (Opd.t (4 : Nat)), guard := none, deps := [] : AOper }.dst (ev (updL T [((0 : Nat), AV.sl SK.sh (List.map encA l)), ((3 : Nat), rowS Heap.nil acc), ((4 : Nat), AV.int IntKind.i64 (↑i : Int))]) (Opd.t (4 : Nat)))) { dst := some (6 : Nat), op := AOp.mov (Opd.t (0 : Nat)), guard := none, deps := [] : AOper }.dst (ev (setD (updL T [((0 : Nat), AV.sl SK.sh (List.map encA l)), ((3 : Nat), rowS Heap.nil acc), ((4 : Nat), AV.int IntKind.i64 (↑i : Int))]) { dst := some (5 : Nat), op := AOp.mov (Opd.t (4 : Nat)), guard := none, deps := [] : AOper }.dst (ev (updL T [((0 : Nat), AV.sl SK.sh (List.map encA l)), ((3 : Nat), rowS Heap.nil acc), ((4 : Nat), AV.int IntKind.i64 (↑i : Int))]) (Opd.t (4 : Nat)))) (Opd.t (0 : Nat)))) { dst := some (7 : Nat), op := AOp.len false (Opd.t (6 : Nat)), guard := none, deps := [] : AOper }.dst (AV.int IntKind.i64 (↑l.length : Int))) { dst := some (8 : Nat), op := AOp.bin BinOp.lss (Opd.t (5 : Nat)) (Opd.t (7 : Nat)), guard := none, deps := [] : AOper }.dst (AV.bool (decide ((↑i : Int) < (↑l.length : Int))))) (Opd.t (3 : Nat)))) (Opd.t (25 : Nat))) (2 : Nat)), rowH Heap.nil acc)) (by simp only [IsRet, List.map_nil, List.append_nil]; rfl)) (by kernel_rfl)
  | cons x post ih =>
    intro i acc hd ha hl T hT
    have hlt := drop_lt hd
    have hnx := drop_next hd
    exact goG 60 _  hT  (.len (show lenA false (AV.sl SK.sh (List.map encA l)) = some (AV.int IntKind.i64 (↑l.length : Int)) from len_map _) <| .yes (show (decide ((↑i : Int) < (↑l.length : Int))) = true from decide_eq_true (show (↑i : Int) < (↑l.length : Int) from (by simp; omega))) <| .idx (show idxA (2 : Nat) (AV.sl SK.sh (List.map encA l)) (AV.int IntKind.i64 (↑i : Int)) = some (AV.ref (encA x).cells) from idx_row hd (by rfl)) <| .load (show loadA false (1 : Nat) (rowH Heap.nil acc) (AV.ref [AV.str x.name]) = some (AV.str x.name) from rfl) <| .idx (show idxA (2 : Nat) (AV.sl SK.sh (List.map encA l)) (AV.int IntKind.i64 (↑i : Int)) = some (AV.ref (encA x).cells) from idx_row hd (by rfl)) <| .load (show loadA false (1 : Nat) (rowH Heap.nil acc) (AV.ref [AV.int IntKind.i64 x.n]) = some (AV.int IntKind.i64 x.n) from rfl) <| .append (show appendA (2 : Nat) (24 : Nat) (rowH Heap.nil acc) (rowS Heap.nil acc) (AV.sl SK.full [AV.agg [AV.str x.name, AV.int IntKind.i64 x.n]]) = some ((rowS Heap.nil (acc ++ [AV.agg [AV.str x.name, AV.int IntKind.i64 x.n]]), rowH Heap.nil (acc ++ [AV.agg [AV.str x.name, AV.int IntKind.i64 x.n]]))) from row_append (by omega) hl (by rfl) (by rfl)) <| .bin (show binA BinOp.add (AV.int IntKind.i64 (↑i : Int)) (AV.int IntKind.i64 (1 : Int)) = some (AV.int IntKind.i64 (↑(i + (1 : Nat)) : Int)) from inc_i (by omega)) <| .cutQ k73_0 [(0, AV.sl SK.sh (List.map encA l)), (3, rowS Heap.nil (acc ++ [AV.agg [AV.str x.name, AV.int IntKind.i64 x.n]])), (4, AV.int IntKind.i64 (↑(i + (1 : Nat)) : Int))] (rowH Heap.nil (acc ++ [AV.agg [AV.str x.name, AV.int IntKind.i64 x.n]])) (fun T hT => (ih (i + (1 : Nat)) (acc ++ [AV.agg [AV.str x.name, AV.int IntKind.i64 x.n]]) hnx (by simp; omega) (by exact lenOk_snoc (by assumption) rfl) T hT).to (by simp [encA]))) (by kernel_rfl)
theorem ofA_any (l : List Amount) (hn : l.length ≤ 20) : Gives cfg 73 [.sl .sh (l.map encA)] (rowS Heap.nil (l.map encA)) := by
  refine Gives.run (l73 _ _) ?_
  have h := ofA_loop l hn l 0 [] rfl rfl rfl
  exact goG 60 []  trivial  (.cutQ k73_0 [(0, AV.sl SK.sh (List.map encA l)), (3, AV.sl SK.full []), (4, AV.int IntKind.i64 (0 : Int))] ({ boxes := [], toks := [], loops := [] : Heap }) (fun T hT => (h T hT))) (by kernel_rfl)

instance (n : Node) : Dat (encN n) := ⟨rfl, rfl⟩
def fewN (n : Node) : Bool := decide (n.name.length ≤ 50) && (fewA n.cap && (fewP n.labels && fewT n.taints))
theorem fewN_any (n : Node) : Gives cfg 31 [encN n] (.bool (fewN n)) := by
  refine Gives.run (l31 _ _) ?_
  exact goG 80 []  trivial  (.len (show lenA true (AV.str n.name) = some (AV.int IntKind.i64 (↑n.name.length : Int)) from len_str _) <| .split ((↑n.name.length : Int) ≤ (50 : Int)) (fun h1 => .yes (show (decide ((↑n.name.length : Int) ≤ (50 : Int))) = true from decide_eq_true (show (↑n.name.length : Int) ≤ (50 : Int) from h1)) <| .callG ([AV.sl SK.sh (List.map encA n.cap)]) (AV.bool (fewA n.cap)) (show Gives cfg (59 : FuncId) [AV.sl SK.sh (List.map encA n.cap)] (AV.bool (fewA n.cap)) from fewA_any _) ⟨rfl, rfl⟩ ⟨rfl, rfl⟩ <| .split (fewA n.cap = true) (fun h2 => .yes (show (fewA n.cap) = true from h2) <| .callG ([AV.sl SK.sh (List.map encP n.labels)]) (AV.bool (fewP n.labels)) (show Gives cfg (60 : FuncId) [AV.sl SK.sh (List.map encP n.labels)] (AV.bool (fewP n.labels)) from fewP_any _) ⟨rfl, rfl⟩ ⟨rfl, rfl⟩ <| .split (fewP n.labels = true) (fun h3 => .yes (show (fewP n.labels) = true from h3) <| .callG ([AV.sl SK.sh (List.map encT n.taints)]) (AV.bool (fewT n.taints)) (show Gives cfg (72 : FuncId) [AV.sl SK.sh (List.map encT n.taints)] (AV.bool (fewT n.taints)) from fewT_any _) ⟨rfl, rfl⟩ ⟨rfl, rfl⟩ <| .fin ((ARes.ret (AV.bool (fewT n.taints)), { boxes := [[AV.str n.name, AV.sl SK.sh (List.map encA n.cap), AV.sl SK.sh (List.map encP n.labels), AV.sl SK.sh (List.map encT n.taints), AV.bool n.cordon]], toks := [], loops := [] : Heap })) (by simp only [IsRet]; grind [fewN])) (fun h3 => .no (show (fewP n.labels) = false from Bool.eq_false_iff.2 (show ¬ (fewP n.labels = true) from h3)) <| .fin ((ARes.ret (AV.bool false), { boxes := [[AV.str n.name, AV.sl SK.sh (List.map encA n.cap), AV.sl SK.sh (List.map encP n.labels), AV.sl SK.sh (List.map encT n.taints), AV.bool n.cordon]], toks := [], loops := [] : Heap })) (by simp only [IsRet]; grind [fewN]))) (fun h2 => .no (show (fewA n.cap) = false from Bool.eq_false_iff.2 (show ¬ (fewA n.cap = true) from h2)) <| .ff <| .fin ((ARes.ret (AV.bool false), { boxes := [[AV.str n.name, AV.sl SK.sh (List.map encA n.cap), AV.sl SK.sh (List.map encP n.labels), AV.sl SK.sh (List.map encT n.taints), AV.bool n.cordon]], toks := [], loops := [] : Heap })) (by simp only [IsRet]; grind [fewN]))) (fun h1 => .no (show (decide ((↑n.name.length : Int) ≤ (50 : Int))) = false from decide_eq_false (show ¬ ((↑n.name.length : Int) ≤ (50 : Int)) from h1)) <| .ff <| .ff <| .fin ((ARes.ret (AV.bool false), { boxes := [[AV.str n.name, AV.sl SK.sh (List.map encA n.cap), AV.sl SK.sh (List.map encP n.labels), AV.sl SK.sh (List.map encT n.taints), AV.bool n.cordon]], toks := [], loops := [] : Heap })) (by simp only [IsRet]; grind [fewN]))) (by kernel_rfl)
structure FewNd (n : Node) : Prop where
  cap : n.cap.length ≤ 20
  labels : n.labels.length ≤ 20
  taints : n.taints.length ≤ 20
theorem fewNd {n : Node} (h : fewN n = true) : FewNd n := by
  simp only [fewN, Bool.and_eq_true, decide_eq_true_eq] at h
  exact ⟨fewA_len h.2.1, fewP_len h.2.2.1, fewT_len h.2.2.2⟩
theorem ofN1 (n : Node) (m1 : n.cap.length ≤ 20) (m2 : n.labels.length ≤ 20) (m3 : n.taints.length ≤ 20) : Gives cfg 32 [encN n] (encN n) := by
  refine Gives.run (l32 _ _) ?_
  exact goG 80 []  trivial  (.callG ([AV.sl SK.sh (List.map encA n.cap)]) (AV.sl SK.sh (List.map encA n.cap)) (show Gives cfg (73 : FuncId) [AV.sl SK.sh (List.map encA n.cap)] (rowS Heap.nil (List.map encA n.cap)) from ofA_any _ m1) ⟨rfl, rfl⟩ Res.p <| .callG ([AV.sl SK.sh (List.map encP n.labels)]) (AV.sl SK.sh (List.map encP n.labels)) (show Gives cfg (74 : FuncId) [AV.sl SK.sh (List.map encP n.labels)] (rowS Heap.nil (List.map encP n.labels)) from ofP_any _ m2) ⟨rfl, rfl⟩ Res.p <| .callG ([AV.sl SK.sh (List.map encT n.taints)]) (AV.sl SK.sh (List.map encT n.taints)) (show Gives cfg (75 : FuncId) [AV.sl SK.sh (List.map encT n.taints)] (rowS Heap.nil (List.map encT n.taints)) from ofT_any _ m3) ⟨rfl, rfl⟩ Res.p <| .fin ((ARes.ret (AV.agg [AV.str n.name, AV.sl SK.sh (List.map encA n.cap), AV.sl SK.sh (List.map encP n.labels), AV.sl SK.sh (List.map encT n.taints), AV.bool n.cordon]), { boxes := [[AV.str n.name, AV.sl SK.sh (List.map encA n.cap), AV.sl SK.sh (List.map encP n.labels), AV.sl SK.sh (List.map encT n.taints), AV.bool n.cordon], [AV.str n.name, AV.sl SK.sh (List.map encA n.cap), AV.sl SK.sh (List.map encP n.labels), AV.sl SK.sh (List.map encT n.taints), AV.bool n.cordon]], toks := [], loops := [] : Heap })) rfl) (by kernel_rfl)
theorem ofN_any (n : Node) (h : fewN n = true) : Gives cfg 32 [encN n] (encN n) := ofN1 n (fewNd h).cap (fewNd h).labels (fewNd h).taints
theorem ofNs_loop (l : List Node) (hn : l.length ≤ 40) (hf : ∀ x ∈ l, fewN x = true) : ∀ (post : List Node) (i : Nat) (acc : List AV) (hd : l.drop i = post) (ha : acc.length = i) (hl : lenOk 5 acc = true) (T : Env) (hT : Has T [(0, .sl .sh (l.map encN)), (3, rowS Heap.nil acc), (4, .int .i64 i)]),
    Goes cfg a41 k41_0 T (rowH Heap.nil acc) (IsRet (rowS Heap.nil (acc ++ post.map encN))) := by
  intro post
  induction post with
  | nil =>
    intro i acc hd ha hl T hT
    have hge := drop_ge hd
    exact goG 60 _  hT  (.len (show lenA false (AV.sl SK.sh (List.map encN l)) = some (AV.int IntKind.i64 (↑l.length : Int)) from len_map _) <| .no (show (decide ((↑i : Int) < (↑l.length : Int))) = false from decide_eq_false (show ¬ ((↑i : Int) < (↑l.length : Int)) from (by omega))) <| .fin ((ARes.ret (setD (setD (setD (setD (setD (setD (updL T [((0 : Nat), AV.sl SK.sh (List.map encN l)), ((3 : Nat), rowS Heap.nil acc), ((4 : Nat), AV.int IntKind.i64 (↑i : Int))]) { dst := some (5 : Nat), op := AOp.mov (Opd.t (4 : Nat)), guard := none, deps := [] : AOper }.dst (ev (updL T [((0 : Nat), AV.sl SK.sh (List.map encN l)), ((3 : Nat), rowS Heap.nil acc), ((4 : Nat), AV.int IntKind.i64 (↑i : Int))]) (Opd.t (4 : Nat)))) { dst := some (6 : Nat), op := AOp.mov (Opd.t (0 : Nat)), guard := none, deps := [] : AOper }.dst (ev (setD (updL T [((0 : Nat), AV.sl SK.sh (List.map encN l)), ((3 : Nat), rowS Heap.nil acc), ((4 : Nat), AV.int IntKind.i64 (↑i : Int))]) { dst := some (5 : Nat), op := AOp.mov (Opd.t (4 : Nat)), guard := none, deps := [] : AOper }.dst (ev (updL T [((0 : Nat), AV.sl SK.sh (List.map encN l)), ((3 : Nat), rowS Heap.nil acc), ((4 : Nat), AV.int IntKind.i64 (↑i : Int))]) (Opd.t (4 : Nat)))) (Opd.t (0 : Nat)))) { dst := some (7 : Nat), op := AOp.len false (Opd.t (6 : Nat)), guard := none, deps := [] : AOper }.dst (AV.int IntKind.i64 (↑l.length : Int))) { dst := some (8 : Nat), op := AOp.bin BinOp.lss (Opd.t (5 : Nat)) (Opd.t (7 : Nat)), guard := none, deps := [] : AOper }.dst (AV.bool (decide ((↑i : Int) < (↑l.length : Int))))) { dst := some (19 : Nat), op := AOp.mov (Opd.t (3 : Nat)), guard := none, deps := [] : AOper }.dst (ev (setD (setD (setD (setD (updL T [((0 : Nat), AV.sl SK.sh (List.map encN l)), ((3 : Nat), rowS Heap.nil acc), ((4 : Nat), AV.int IntKind.i64 (↑i : Int))]) { dst := some (5 : Nat), op := AOp.mov (Opd.t (4 : Nat)), guard := none, deps := [] : AOper }.dst (ev (updL T [((0 : Nat), AV.sl SK.sh (List.map encN l)), ((3 : Nat), rowS Heap.nil acc), ((4 : Nat), AV.int IntKind.i64 (↑i : Int))]) (Opd.t (4 : Nat)))) { dst := some (6 : Nat), op := AOp.mov (Opd.t (0 : Nat)), guard := none, deps := [] : AOper }.dst (ev (setD (updL T [((0 : Nat), AV.sl SK.sh (List.map encN l)), ((3 : Nat), rowS Heap.nil acc), ((4 : Nat), AV.int IntKind.i64 (↑i : Int))]) { dst := some (5 : Nat), op := AOp.mov (Opd.t (4 : Nat)), guard := none, deps := [] : AOper }.dst (ev (updL T [((0 : Nat), AV.sl SK.sh (List.map encN l)), ((3 : Nat), rowS Heap.nil acc), ((4 : Nat), AV.int IntKind.i64 (↑i : Int))]) (Opd.t (4 : Nat)))) (Opd.t (0 : Nat)))) { dst := some (7 : Nat), op := AOp.len false (Opd.t (6 : Nat)), guard := none, deps := [] : AOper }.dst (AV.int IntKind.i64 (↑l.length : Int))) { dst := some (8 : Nat), op := AOp.bin BinOp.lss (Opd.t (5 : Nat)) (Opd.t (7 : Nat)), guard := none, deps := [] : AOper }.dst (AV.bool (decide ((↑i : Int) < (↑l.length : Int))))) (Opd.t (3 : Nat)))) { dst := some (2 : Nat), op := AOp.mov (Opd.t (19 : Nat)), guard := none, deps := [] : AOper }.dst (ev (setD (setD (setD (setD (setD (updL T [((0 : Nat), AV.sl SK.sh (List.map encN l)), ((3 : Nat), rowS Heap.nil acc), ((4 : Nat), AV.int IntKind.i64 (↑i : Int))]) { dst := some (5 : Nat), op := AOp.mov (Opd.t (4 : Nat)), guard := none, deps := [] : AOper }.dst (ev (updL T [((0 : Nat), AV.sl SK.sh (List.map encN l)), ((3 : Nat), rowS Heap.nil acc), ((4 : Nat), AV.int IntKind.i64 (↑i : Int))]) (Opd.t (4 : Nat)))) { dst := some (6 : Nat), op := AOp.mov (Opd.t (0 : Nat)), guard := none, deps := [] : AOper }.dst (ev (setD (updL T [((0 : Nat), AV.sl SK.sh (List.map encN l)), ((3 : Nat), rowS Heap.nil acc), ((4 : Nat), AV.int IntKind.i64 (↑i : Int))]) { dst := some (5 : Nat), op := AOp.mov (Opd.t (4 : Nat)), guard := none, deps := [] : AOper }.dst (ev (updL T [((0 : Nat), AV.sl SK.sh (List.map encN l)), ((3 : Nat), rowS Heap.nil acc), ((4 : Nat), AV.int IntKind.i64 (↑i : Int))]) (Opd.t (4 : Nat)))) (Opd.t (0 : Nat)))) { dst := some (7 : Nat), op := AOp.len false (Opd.t (6 : Nat)), guard := none, deps := [] : AOper }.dst (AV.int IntKind.i64 (↑l.length : Int))) { dst := some (8 : Nat), op := AOp.bin BinOp.lss (Opd.t (5 : Nat)) (Opd.t (7 : Nat)), guard := none, deps := [] : AOper }.dst (AV.bool (decide ((↑i : Int) < (↑l.length : Int))))) { dst := some (19 : Nat), op := AOp.mov (Opd.t (3 : Nat)), guard := none, deps := [] : AOper }.dst (ev (setD (setD (setD (setD (updL T [((0 : Nat), AV.sl SK.sh (List.map encN l)), ((3 : Nat), rowS Heap.nil acc), ((4 : Nat), AV.int IntKind.i64 (↑i : Int))]) { dst := some (5 : Nat), op := AOp.mov (Opd.t (4 : Nat)), guard := none, deps := [] : AOper }.dst (ev (updL T [((0 : Nat), AV.sl SK.sh (List.map encN l)), ((3 : Nat), rowS Heap.nil acc), ((4 : Nat), AV.int IntKind.i64 (↑i : Int))]) (Opd.t (4 : Nat)))) { dst := some (6 : Nat), op := AOp.mov (Opd.t (0 : Nat)), guard := none, deps := [] : AOper }.dst (ev (setD (updL T [((0 : Nat), AV.sl SK.sh (List.map encN l)), ((3 : Nat), rowS Heap.nil acc), ((4 : Nat), AV.int IntKind.i64 (↑i : Int))]) { dst := some (5 : Nat), op := AOp.mov (Opd.t (4 : Nat)), guard := none, deps := [] : AOper }.dst (ev (updL T [((0 : Nat), AV.sl SK.sh (List.map encN l)), ((3 : Nat), rowS Heap.nil acc), ((4 : Nat), AV.int IntKind.i64 (↑i : Int))]) (Opd.t (4 : Nat)))) (Opd.t (0 : Nat)))) { dst := some (7 : Nat), op := AOp.len false (Opd.t (6 : Nat)), guard := none, deps := [] : AOper }.dst (AV.int IntKind.i64 (↑l.length : Int))) { dst := some (8 : Nat), op := AOp.bin BinOp.lss (Opd.t (5 : Nat)) (Opd.t (7 : Nat)), guard := none, deps := [] : AOper }.dst (AV.bool (decide ((↑i : Int) < (↑l.length : Int))))) (Opd.t (3 : Nat)))) (Opd.t (19 : Nat))) (2 : Nat)), rowH Heap.nil acc)) (by simp only [IsRet, List.map_nil, List.append_nil]; rfl)) (by kernel_rfl)
  | cons x post ih =>
    intro i acc hd ha hl T hT
    have hlt := drop_lt hd
    have hnx := drop_next hd
    have hx := hf x (drop_mem hd)
    exact goG 60 _  hT  (.len (show lenA false (AV.sl SK.sh (List.map encN l)) = some (AV.int IntKind.i64 (↑l.length : Int)) from len_map _) <| .yes (show (decide ((↑i : Int) < (↑l.length : Int))) = true from decide_eq_true (show (↑i : Int) < (↑l.length : Int) from (by simp; omega))) <| .idx (show idxA (5 : Nat) (AV.sl SK.sh (List.map encN l)) (AV.int IntKind.i64 (↑i : Int)) = some (AV.ref (encN x).cells) from idx_row hd (by rfl)) <| .load (show loadA true (5 : Nat) (rowH Heap.nil acc) (AV.ref [AV.str x.name, AV.sl SK.sh (List.map encA x.cap), AV.sl SK.sh (List.map encP x.labels), AV.sl SK.sh (List.map encT x.taints), AV.bool x.cordon]) = some (AV.agg [AV.str x.name, AV.sl SK.sh (List.map encA x.cap), AV.sl SK.sh (List.map encP x.labels), AV.sl SK.sh (List.map encT x.taints), AV.bool x.cordon]) from rfl) <| .callG ([AV.agg [AV.str x.name, AV.sl SK.sh (List.map encA x.cap), AV.sl SK.sh (List.map encP x.labels), AV.sl SK.sh (List.map encT x.taints), AV.bool x.cordon]]) (AV.agg [AV.str x.name, AV.sl SK.sh (List.map encA x.cap), AV.sl SK.sh (List.map encP x.labels), AV.sl SK.sh (List.map encT x.taints), AV.bool x.cordon]) (show Gives cfg (32 : FuncId) [encN x] (encN x) from ofN_any _ hx) ⟨rfl, rfl⟩ ⟨rfl, rfl⟩ <| .append (show appendA (5 : Nat) (96 : Nat) (rowH Heap.nil acc) (rowS Heap.nil acc) (AV.sl SK.full [AV.agg [AV.str x.name, AV.sl SK.sh (List.map encA x.cap), AV.sl SK.sh (List.map encP x.labels), AV.sl SK.sh (List.map encT x.taints), AV.bool x.cordon]]) = some ((rowS Heap.nil (acc ++ [AV.agg [AV.str x.name, AV.sl SK.sh (List.map encA x.cap), AV.sl SK.sh (List.map encP x.labels), AV.sl SK.sh (List.map encT x.taints), AV.bool x.cordon]]), rowH Heap.nil (acc ++ [AV.agg [AV.str x.name, AV.sl SK.sh (List.map encA x.cap), AV.sl SK.sh (List.map encP x.labels), AV.sl SK.sh (List.map encT x.taints), AV.bool x.cordon]]))) from row_append (by omega) hl (by rfl) (by rfl)) <| .bin (show binA BinOp.add (AV.int IntKind.i64 (↑i : Int)) (AV.int IntKind.i64 (1 : Int)) = some (AV.int IntKind.i64 (↑(i + (1 : Nat)) : Int)) from inc_i (by omega)) <| .cutQ k41_0 [(0, AV.sl SK.sh (List.map encN l)), (3, rowS Heap.nil (acc ++ [AV.agg [AV.str x.name, AV.sl SK.sh (List.map encA x.cap), AV.sl SK.sh (List.map encP x.labels), AV.sl SK.sh (List.map encT x.taints), AV.bool x.cordon]])), (4, AV.int IntKind.i64 (↑(i + (1 : Nat)) : Int))] (rowH Heap.nil (acc ++ [AV.agg [AV.str x.name, AV.sl SK.sh (List.map encA x.cap), AV.sl SK.sh (List.map encP x.labels), AV.sl SK.sh (List.map encT x.taints), AV.bool x.cordon]])) (fun T hT => (ih (i + (1 : Nat)) (acc ++ [AV.agg [AV.str x.name, AV.sl SK.sh (List.map encA x.cap), AV.sl SK.sh (List.map encP x.labels), AV.sl SK.sh (List.map encT x.taints), AV.bool x.cordon]]) hnx (by simp; omega) (by exact lenOk_snoc (by assumption) rfl) T hT).to (by simp [encN]))) (by kernel_rfl)
theorem ofNs_any (l : List Node) (hn : l.length ≤ 40) (hf : ∀ x ∈ l, fewN x = true) : Gives cfg 41 [.sl .sh (l.map encN)] (rowS Heap.nil (l.map encN)) := by
  refine Gives.run (l41 _ _) ?_
  have h := ofNs_loop l hn hf l 0 [] rfl rfl rfl
  exact goG 60 []  trivial  (.cutQ k41_0 [(0, AV.sl SK.sh (List.map encN l)), (3, AV.sl SK.full []), (4, AV.int IntKind.i64 (0 : Int))] ({ boxes := [], toks := [], loops := [] : Heap }) (fun T hT => (h T hT))) (by kernel_rfl)
theorem ckN_ref (n : Node) : Gives cfg 33 [encN n] (.int .i64 (ckN n)) := by
  refine Gives.run (l33 _ _) ?_
  exact goG 80 []  trivial  (.callG ([AV.str n.name]) (AV.bool (isName n.name)) (show Gives cfg (76 : FuncId) [AV.str n.name] (AV.bool (isName n.name)) from name_any _) ⟨rfl, rfl⟩ ⟨rfl, rfl⟩ <| .split (isName n.name = true) (fun h1 => .no (show (!isName n.name) = false from by have hh : isName n.name = true := h1; simp [hh]) <| .callG ([AV.sl SK.sh (List.map encA n.cap)]) (AV.int IntKind.i64 (ckV n.cap)) (show Gives cfg (77 : FuncId) [AV.sl SK.sh (List.map encA n.cap)] (AV.int IntKind.i64 (ckV n.cap)) from ckV_ref _) ⟨rfl, rfl⟩ ⟨rfl, rfl⟩ <| .split ((ckV n.cap != (0 : Int)) = true) (fun h2 => .yes (show (ckV n.cap != (0 : Int)) = true from h2) <| .fin ((ARes.ret (AV.int IntKind.i64 (ckV n.cap)), { boxes := [[AV.str n.name, AV.sl SK.sh (List.map encA n.cap), AV.sl SK.sh (List.map encP n.labels), AV.sl SK.sh (List.map encT n.taints), AV.bool n.cordon]], toks := [], loops := [] : Heap })) (by simp only [IsRet]; grind [ckN, firstE])) (fun h2 => .no (show (ckV n.cap != (0 : Int)) = false from Bool.eq_false_iff.2 (show ¬ ((ckV n.cap != (0 : Int)) = true) from h2)) <| .callG ([AV.sl SK.sh (List.map encP n.labels)]) (AV.int IntKind.i64 (ckS n.labels)) (show Gives cfg (78 : FuncId) [AV.sl SK.sh (List.map encP n.labels)] (AV.int IntKind.i64 (ckS n.labels)) from ckS_ref _) ⟨rfl, rfl⟩ ⟨rfl, rfl⟩ <| .split ((ckS n.labels != (0 : Int)) = true) (fun h3 => .yes (show (ckS n.labels != (0 : Int)) = true from h3) <| .fin ((ARes.ret (AV.int IntKind.i64 (ckS n.labels)), { boxes := [[AV.str n.name, AV.sl SK.sh (List.map encA n.cap), AV.sl SK.sh (List.map encP n.labels), AV.sl SK.sh (List.map encT n.taints), AV.bool n.cordon]], toks := [], loops := [] : Heap })) (by simp only [IsRet]; grind [ckN, firstE])) (fun h3 => .no (show (ckS n.labels != (0 : Int)) = false from Bool.eq_false_iff.2 (show ¬ ((ckS n.labels != (0 : Int)) = true) from h3)) <| .callG ([AV.sl SK.sh (List.map encT n.taints)]) (AV.int IntKind.i64 (ckT n.taints)) (show Gives cfg (79 : FuncId) [AV.sl SK.sh (List.map encT n.taints)] (AV.int IntKind.i64 (ckT n.taints)) from ckT_any _) ⟨rfl, rfl⟩ ⟨rfl, rfl⟩ <| .fin ((ARes.ret (AV.int IntKind.i64 (ckT n.taints)), { boxes := [[AV.str n.name, AV.sl SK.sh (List.map encA n.cap), AV.sl SK.sh (List.map encP n.labels), AV.sl SK.sh (List.map encT n.taints), AV.bool n.cordon]], toks := [], loops := [] : Heap })) (by simp only [IsRet]; grind [ckN, firstE])))) (fun h1 => .yes (show (!isName n.name) = true from by have hh : ¬ (isName n.name = true) := h1; simp [hh]) <| .fin ((ARes.ret (AV.int IntKind.i64 (3 : Int)), { boxes := [[AV.str n.name, AV.sl SK.sh (List.map encA n.cap), AV.sl SK.sh (List.map encP n.labels), AV.sl SK.sh (List.map encT n.taints), AV.bool n.cordon]], toks := [], loops := [] : Heap })) (by simp only [IsRet]; grind [ckN, firstE]))) (by kernel_rfl)

def ordG {X : Type} (nm : X → List UInt8) (s : List X) (i : Nat) (x : X) : Bool := match i with
  | 0 => false
  | j + 1 => match s[j]? with
    | some p => Op.bytesLess (nm x) (nm p) || nm x == nm p
    | none => false
def ckAl {X : Type} (ck : X → Int) (nm : X → List UInt8) (s : List X) : Nat → List X → Int
  | _, [] => 0
  | i, x :: post => if ck x = 0 then (if ordG nm s i x then 13 else ckAl ck nm s (i + 1) post) else ck x
def ckAll {X : Type} (most : Nat) (ck : X → Int) (nm : X → List UInt8) (s : List X) : Int := if s.length ≤ most then ckAl ck nm s 0 s else 4
def findG {X : Type} (nm : X → List UInt8) (l : List X) (n : List UInt8) : Option X := l.find? fun x => nm x == n
theorem ckNs_ref_loop (l : List Node) (hn : l.length ≤ 32) : ∀ (post : List Node) (i : Nat) (hd : l.drop i = post) (T : Env) (hT : Has T [(0, .sl .sh (l.map encN)), (3, .int .i64 i)]),
    Goes cfg a42 k42_0 T Heap.nil (IsRet (.int .i64 (ckAl ckN Node.name l i post))) := by
  intro post
  induction post with
  | nil =>
    intro i hd T hT
    have hge := drop_ge hd
    exact goG 60 _  hT  (.len (show lenA false (AV.sl SK.sh (List.map encN l)) = some (AV.int IntKind.i64 (↑l.length : Int)) from len_map _) <| .no (show (decide ((↑i : Int) < (↑l.length : Int))) = false from decide_eq_false (show ¬ ((↑i : Int) < (↑l.length : Int)) from (by omega))) <| .fin ((ARes.ret (AV.int IntKind.i64 (0 : Int)), { boxes := [], toks := [], loops := [] : Heap })) rfl) (by kernel_rfl)
  | cons x post ih =>
    intro i hd T hT
    have hlt := drop_lt hd
    have hnx := drop_next hd
    have hc := ckN_ref x
    have e : ckAl ckN Node.name l i (x :: post) = if ckN x = 0 then (if ordG Node.name l i x then 13 else ckAl ckN Node.name l (i + 1) post) else ckN x := rfl
    rw [e]
    generalize ckN x = c at hc ⊢
    cases i with
    | zero => exact goG 60 _  hT  (.len (show lenA false (AV.sl SK.sh (List.map encN l)) = some (AV.int IntKind.i64 (↑l.length : Int)) from len_map _) <| .yes (show (decide ((↑(0 : Nat) : Int) < (↑l.length : Int))) = true from decide_eq_true (show (↑(0 : Nat) : Int) < (↑l.length : Int) from (by omega))) <| .idx (show idxA (5 : Nat) (AV.sl SK.sh (List.map encN l)) (AV.int IntKind.i64 (↑(0 : Nat) : Int)) = some (AV.ref (encN x).cells) from idx_row hd (by rfl)) <| .callG ([AV.agg [AV.str x.name, AV.sl SK.sh (List.map encA x.cap), AV.sl SK.sh (List.map encP x.labels), AV.sl SK.sh (List.map encT x.taints), AV.bool x.cordon]]) (AV.int IntKind.i64 c) (show Gives cfg (33 : FuncId) [encN x] (AV.int IntKind.i64 c) from hc) ⟨rfl, rfl⟩ ⟨rfl, rfl⟩ <| .split ((c != (0 : Int)) = true) (fun h1 => .yes (show (c != (0 : Int)) = true from h1) <| .fin ((ARes.ret (AV.int IntKind.i64 c), { boxes := [], toks := [], loops := [] : Heap })) (by simp only [IsRet]; grind [ordG])) (fun h1 => .no (show (c != (0 : Int)) = false from Bool.eq_false_iff.2 (show ¬ ((c != (0 : Int)) = true) from h1)) <| .ff <| .ff <| .bin (show binA BinOp.add (AV.int IntKind.i64 (↑(0 : Nat) : Int)) (AV.int IntKind.i64 (1 : Int)) = some (AV.int IntKind.i64 (↑((0 : Nat) + (1 : Nat)) : Int)) from inc_i (by omega)) <| .cutQ k42_0 [(0, AV.sl SK.sh (List.map encN l)), (3, AV.int IntKind.i64 (↑((0 : Nat) + (1 : Nat)) : Int))] ({ boxes := [], toks := [], loops := [] : Heap }) (fun T hT => (ih ((0 : Nat) + (1 : Nat)) hnx T hT).to (by grind [ordG])))) (by kernel_rfl)
    | succ j =>
      obtain ⟨p, hp⟩ : ∃ p, l[j]? = some p := ⟨l[j], List.getElem?_eq_getElem (by omega)⟩
      exact goG 60 _  hT  (.len (show lenA false (AV.sl SK.sh (List.map encN l)) = some (AV.int IntKind.i64 (↑l.length : Int)) from len_map _) <| .yes (show (decide ((↑(j + (1 : Nat)) : Int) < (↑l.length : Int))) = true from decide_eq_true (show (↑(j + (1 : Nat)) : Int) < (↑l.length : Int) from (by omega))) <| .idx (show idxA (5 : Nat) (AV.sl SK.sh (List.map encN l)) (AV.int IntKind.i64 (↑(j + (1 : Nat)) : Int)) = some (AV.ref (encN x).cells) from idx_row hd (by rfl)) <| .callG ([AV.agg [AV.str x.name, AV.sl SK.sh (List.map encA x.cap), AV.sl SK.sh (List.map encP x.labels), AV.sl SK.sh (List.map encT x.taints), AV.bool x.cordon]]) (AV.int IntKind.i64 c) (show Gives cfg (33 : FuncId) [encN x] (AV.int IntKind.i64 c) from hc) ⟨rfl, rfl⟩ ⟨rfl, rfl⟩ <| .split ((c != (0 : Int)) = true) (fun h1 => .yes (show (c != (0 : Int)) = true from h1) <| .fin ((ARes.ret (AV.int IntKind.i64 c), { boxes := [], toks := [], loops := [] : Heap })) (by simp only [IsRet]; grind [ordG])) (fun h1 => .no (show (c != (0 : Int)) = false from Bool.eq_false_iff.2 (show ¬ ((c != (0 : Int)) = true) from h1)) <| .yes (show (decide ((0 : Int) < (↑(j + (1 : Nat)) : Int))) = true from decide_eq_true (show (0 : Int) < (↑(j + (1 : Nat)) : Int) from (by omega))) <| .idx (show idxA (5 : Nat) (AV.sl SK.sh (List.map encN l)) (AV.int IntKind.i64 (↑(j + (1 : Nat)) : Int)) = some (AV.ref (encN x).cells) from idx_row hd (by rfl)) <| .bin (show binA BinOp.sub (AV.int IntKind.i64 (↑(j + (1 : Nat)) : Int)) (AV.int IntKind.i64 (1 : Int)) = some (AV.int IntKind.i64 (↑j : Int)) from dec_i (by omega)) <| .idx (show idxA (5 : Nat) (AV.sl SK.sh (List.map encN l)) (AV.int IntKind.i64 (↑j : Int)) = some (AV.ref (encN p).cells) from idx_get hp (by rfl)) <| .split ((Op.bytesLess x.name p.name || x.name == p.name) = true) (fun h2 => .yes (show (Op.bytesLess x.name p.name || x.name == p.name) = true from h2) <| .fin ((ARes.ret (AV.int IntKind.i64 (13 : Int)), { boxes := [], toks := [], loops := [] : Heap })) (by simp only [IsRet]; grind [ordG])) (fun h2 => .no (show (Op.bytesLess x.name p.name || x.name == p.name) = false from Bool.eq_false_iff.2 (show ¬ ((Op.bytesLess x.name p.name || x.name == p.name) = true) from h2)) <| .bin (show binA BinOp.add (AV.int IntKind.i64 (↑(j + (1 : Nat)) : Int)) (AV.int IntKind.i64 (1 : Int)) = some (AV.int IntKind.i64 (↑(j + (1 : Nat) + (1 : Nat)) : Int)) from inc_i (by omega)) <| .cutQ k42_0 [(0, AV.sl SK.sh (List.map encN l)), (3, AV.int IntKind.i64 (↑(j + (1 : Nat) + (1 : Nat)) : Int))] ({ boxes := [], toks := [], loops := [] : Heap }) (fun T hT => (ih (j + (1 : Nat) + (1 : Nat)) hnx T hT).to (by grind [ordG]))))) (by kernel_rfl)
theorem ckNs_ref (l : List Node) : Gives cfg 42 [.sl .sh (l.map encN)] (.int .i64 (ckAll 32 ckN Node.name l)) := by
  refine Gives.run (l42 _ _) ?_
  have h := fun hn => ckNs_ref_loop l hn l 0 rfl
  exact goG 60 []  trivial  (.len (show lenA false (AV.sl SK.sh (List.map encN l)) = some (AV.int IntKind.i64 (↑l.length : Int)) from len_map _) <| .split ((32 : Int) < (↑l.length : Int)) (fun h1 => .yes (show (decide ((32 : Int) < (↑l.length : Int))) = true from decide_eq_true (show (32 : Int) < (↑l.length : Int) from h1)) <| .fin ((ARes.ret (AV.int IntKind.i64 (4 : Int)), { boxes := [], toks := [], loops := [] : Heap })) (by simp only [IsRet]; grind [ckAll])) (fun h1 => .no (show (decide ((32 : Int) < (↑l.length : Int))) = false from decide_eq_false (show ¬ ((32 : Int) < (↑l.length : Int)) from h1)) <| .cutQ k42_0 [(0, AV.sl SK.sh (List.map encN l)), (3, AV.int IntKind.i64 (0 : Int))] ({ boxes := [], toks := [], loops := [] : Heap }) (fun T hT => (h (by omega) T hT).to (by grind [ckAll])))) (by kernel_rfl)
theorem ckNs_name (x : Node) : Gives cfg 113 [encN x] (.str (Node.name x)) := by
  refine Gives.run (l113 _ _) ?_
  exact goG 60 []  trivial  (.fin ((ARes.ret (AV.str x.name), { boxes := [[AV.str x.name, AV.sl SK.sh (List.map encA x.cap), AV.sl SK.sh (List.map encP x.labels), AV.sl SK.sh (List.map encT x.taints), AV.bool x.cordon]], toks := [], loops := [] : Heap })) rfl) (by kernel_rfl)
theorem ckNs_loop (l : List Node) (hn : l.length ≤ 32) : ∀ (post : List Node) (i : Nat) (bs : List (List AV)) (hd : l.drop i = post) (T : Env) (hT : Has T [(0, .sl .sh (l.map encN)), (2, .func 113 []), (3, .func 34 []), (16, .sl .sh (l.map encN)), (17, .int .i64 l.length), (18, .int .i64 i)]),
    Goes cfg a112 k112_0 T ⟨bs, [], []⟩ (IsRet (.int .i64 (ckAl ckN Node.name l i post))) := by
  intro post
  induction post with
  | nil =>
    intro i bs hd T hT
    have hge := drop_ge hd
    exact goG 60 _  hT  (.no (show (decide ((↑i : Int) < (↑l.length : Int))) = false from decide_eq_false (show ¬ ((↑i : Int) < (↑l.length : Int)) from (by omega))) <| .fin ((ARes.ret (AV.int IntKind.i64 (0 : Int)), { boxes := bs, toks := [], loops := [] : Heap })) rfl) (by kernel_rfl)
  | cons x post ih =>
    intro i bs hd T hT
    have hlt := drop_lt hd
    have hnx := drop_next hd
    have hc := ckN_any x
    have e : ckAl ckN Node.name l i (x :: post) = if ckN x = 0 then (if ordG Node.name l i x then 13 else ckAl ckN Node.name l (i + 1) post) else ckN x := rfl
    rw [e]
    generalize ckN x = c at hc ⊢
    cases i with
    | zero => exact goG 60 _  hT  (.yes (show (decide ((↑(0 : Nat) : Int) < (↑l.length : Int))) = true from decide_eq_true (show (↑(0 : Nat) : Int) < (↑l.length : Int) from (by omega))) <| .idx (show idxA (5 : Nat) (AV.sl SK.sh (List.map encN l)) (AV.int IntKind.i64 (↑(0 : Nat) : Int)) = some (AV.ref (encN x).cells) from idx_row hd (by rfl)) <| .load (show loadA true (5 : Nat) { boxes := bs, toks := [], loops := [] : Heap } (AV.ref [AV.str x.name, AV.sl SK.sh (List.map encA x.cap), AV.sl SK.sh (List.map encP x.labels), AV.sl SK.sh (List.map encT x.taints), AV.bool x.cordon]) = some (AV.agg [AV.str x.name, AV.sl SK.sh (List.map encA x.cap), AV.sl SK.sh (List.map encP x.labels), AV.sl SK.sh (List.map encT x.taints), AV.bool x.cordon]) from rfl) <| .store (show storeA (5 : Nat) { boxes := bs ++ [[AV.str [], AV.sl SK.full [], AV.sl SK.full [], AV.sl SK.full [], AV.bool false]], toks := [], loops := [] : Heap } (AV.ptr bs.length (0 : Nat)) (AV.agg [AV.str x.name, AV.sl SK.sh (List.map encA x.cap), AV.sl SK.sh (List.map encP x.labels), AV.sl SK.sh (List.map encT x.taints), AV.bool x.cordon]) = some ({ boxes := bs ++ [[AV.str x.name, AV.sl SK.sh (List.map encA x.cap), AV.sl SK.sh (List.map encP x.labels), AV.sl SK.sh (List.map encT x.taints), AV.bool x.cordon]], toks := [], loops := [] : Heap }) from store_box2 (cs := [AV.str [], AV.sl SK.full [], AV.sl SK.full [], AV.sl SK.full [], AV.bool false]) (cs' := [AV.str x.name, AV.sl SK.sh (List.map encA x.cap), AV.sl SK.sh (List.map encP x.labels), AV.sl SK.sh (List.map encT x.taints), AV.bool x.cordon]) (by simp) rfl (by simp [List.set_append])) <| .load (show loadA true (5 : Nat) { boxes := bs ++ [[AV.str x.name, AV.sl SK.sh (List.map encA x.cap), AV.sl SK.sh (List.map encP x.labels), AV.sl SK.sh (List.map encT x.taints), AV.bool x.cordon]], toks := [], loops := [] : Heap } (AV.ptr bs.length (0 : Nat)) = some (AV.agg [AV.str x.name, AV.sl SK.sh (List.map encA x.cap), AV.sl SK.sh (List.map encP x.labels), AV.sl SK.sh (List.map encT x.taints), AV.bool x.cordon]) from load_box (cs := [AV.str x.name, AV.sl SK.sh (List.map encA x.cap), AV.sl SK.sh (List.map encP x.labels), AV.sl SK.sh (List.map encT x.taints), AV.bool x.cordon]) (by simp) rfl) <| .callG ([AV.agg [AV.str x.name, AV.sl SK.sh (List.map encA x.cap), AV.sl SK.sh (List.map encP x.labels), AV.sl SK.sh (List.map encT x.taints), AV.bool x.cordon]]) (AV.int IntKind.i64 c) (show Gives cfg (34 : FuncId) [encN x] (AV.int IntKind.i64 c) from hc) ⟨rfl, rfl⟩ ⟨rfl, rfl⟩ <| .split ((c != (0 : Int)) = true) (fun h1 => .yes (show (c != (0 : Int)) = true from h1) <| .fin ((ARes.ret (AV.int IntKind.i64 c), { boxes := bs ++ [[AV.str x.name, AV.sl SK.sh (List.map encA x.cap), AV.sl SK.sh (List.map encP x.labels), AV.sl SK.sh (List.map encT x.taints), AV.bool x.cordon]], toks := [], loops := [] : Heap })) (by simp only [IsRet]; grind [ordG])) (fun h1 => .no (show (c != (0 : Int)) = false from Bool.eq_false_iff.2 (show ¬ ((c != (0 : Int)) = true) from h1)) <| .ff <| .ff <| .bin (show binA BinOp.add (AV.int IntKind.i64 (↑(0 : Nat) : Int)) (AV.int IntKind.i64 (1 : Int)) = some (AV.int IntKind.i64 (↑((0 : Nat) + (1 : Nat)) : Int)) from inc_i (by omega)) <| .cutQ k112_0 [(0, AV.sl SK.sh (List.map encN l)), (2, AV.func (113 : Nat) []), (3, AV.func (34 : Nat) []), (16, AV.sl SK.sh (List.map encN l)), (17, AV.int IntKind.i64 (↑l.length : Int)), (18, AV.int IntKind.i64 (↑((0 : Nat) + (1 : Nat)) : Int))] ({ boxes := bs ++ [[AV.str x.name, AV.sl SK.sh (List.map encA x.cap), AV.sl SK.sh (List.map encP x.labels), AV.sl SK.sh (List.map encT x.taints), AV.bool x.cordon]], toks := [], loops := [] : Heap }) (fun T hT => (ih ((0 : Nat) + (1 : Nat)) (bs ++ [[AV.str x.name, AV.sl SK.sh (List.map encA x.cap), AV.sl SK.sh (List.map encP x.labels), AV.sl SK.sh (List.map encT x.taints), AV.bool x.cordon]]) hnx T hT).to (by grind [ordG])))) (by kernel_rfl)
    | succ j =>
      obtain ⟨p, hp⟩ : ∃ p, l[j]? = some p := ⟨l[j], List.getElem?_eq_getElem (by omega)⟩
      exact goG 60 _  hT  (.yes (show (decide ((↑(j + (1 : Nat)) : Int) < (↑l.length : Int))) = true from decide_eq_true (show (↑(j + (1 : Nat)) : Int) < (↑l.length : Int) from (by omega))) <| .idx (show idxA (5 : Nat) (AV.sl SK.sh (List.map encN l)) (AV.int IntKind.i64 (↑(j + (1 : Nat)) : Int)) = some (AV.ref (encN x).cells) from idx_row hd (by rfl)) <| .load (show loadA true (5 : Nat) { boxes := bs, toks := [], loops := [] : Heap } (AV.ref [AV.str x.name, AV.sl SK.sh (List.map encA x.cap), AV.sl SK.sh (List.map encP x.labels), AV.sl SK.sh (List.map encT x.taints), AV.bool x.cordon]) = some (AV.agg [AV.str x.name, AV.sl SK.sh (List.map encA x.cap), AV.sl SK.sh (List.map encP x.labels), AV.sl SK.sh (List.map encT x.taints), AV.bool x.cordon]) from rfl) <| .store (show storeA (5 : Nat) { boxes := bs ++ [[AV.str [], AV.sl SK.full [], AV.sl SK.full [], AV.sl SK.full [], AV.bool false]], toks := [], loops := [] : Heap } (AV.ptr bs.length (0 : Nat)) (AV.agg [AV.str x.name, AV.sl SK.sh (List.map encA x.cap), AV.sl SK.sh (List.map encP x.labels), AV.sl SK.sh (List.map encT x.taints), AV.bool x.cordon]) = some ({ boxes := bs ++ [[AV.str x.name, AV.sl SK.sh (List.map encA x.cap), AV.sl SK.sh (List.map encP x.labels), AV.sl SK.sh (List.map encT x.taints), AV.bool x.cordon]], toks := [], loops := [] : Heap }) from store_box2 (cs := [AV.str [], AV.sl SK.full [], AV.sl SK.full [], AV.sl SK.full [], AV.bool false]) (cs' := [AV.str x.name, AV.sl SK.sh (List.map encA x.cap), AV.sl SK.sh (List.map encP x.labels), AV.sl SK.sh (List.map encT x.taints), AV.bool x.cordon]) (by simp) rfl (by simp [List.set_append])) <| .load (show loadA true (5 : Nat) { boxes := bs ++ [[AV.str x.name, AV.sl SK.sh (List.map encA x.cap), AV.sl SK.sh (List.map encP x.labels), AV.sl SK.sh (List.map encT x.taints), AV.bool x.cordon]], toks := [], loops := [] : Heap } (AV.ptr bs.length (0 : Nat)) = some (AV.agg [AV.str x.name, AV.sl SK.sh (List.map encA x.cap), AV.sl SK.sh (List.map encP x.labels), AV.sl SK.sh (List.map encT x.taints), AV.bool x.cordon]) from load_box (cs := [AV.str x.name, AV.sl SK.sh (List.map encA x.cap), AV.sl SK.sh (List.map encP x.labels), AV.sl SK.sh (List.map encT x.taints), AV.bool x.cordon]) (by simp) rfl) <| .callG ([AV.agg [AV.str x.name, AV.sl SK.sh (List.map encA x.cap), AV.sl SK.sh (List.map encP x.labels), AV.sl SK.sh (List.map encT x.taints), AV.bool x.cordon]]) (AV.int IntKind.i64 c) (show Gives cfg (34 : FuncId) [encN x] (AV.int IntKind.i64 c) from hc) ⟨rfl, rfl⟩ ⟨rfl, rfl⟩ <| .split ((c != (0 : Int)) = true) (fun h1 => .yes (show (c != (0 : Int)) = true from h1) <| .fin ((ARes.ret (AV.int IntKind.i64 c), { boxes := bs ++ [[AV.str x.name, AV.sl SK.sh (List.map encA x.cap), AV.sl SK.sh (List.map encP x.labels), AV.sl SK.sh (List.map encT x.taints), AV.bool x.cordon]], toks := [], loops := [] : Heap })) (by simp only [IsRet]; grind [ordG])) (fun h1 => .no (show (c != (0 : Int)) = false from Bool.eq_false_iff.2 (show ¬ ((c != (0 : Int)) = true) from h1)) <| .yes (show (decide ((0 : Int) < (↑(j + (1 : Nat)) : Int))) = true from decide_eq_true (show (0 : Int) < (↑(j + (1 : Nat)) : Int) from (by omega))) <| .load (show loadA true (5 : Nat) { boxes := bs ++ [[AV.str x.name, AV.sl SK.sh (List.map encA x.cap), AV.sl SK.sh (List.map encP x.labels), AV.sl SK.sh (List.map encT x.taints), AV.bool x.cordon]], toks := [], loops := [] : Heap } (AV.ptr bs.length (0 : Nat)) = some (AV.agg [AV.str x.name, AV.sl SK.sh (List.map encA x.cap), AV.sl SK.sh (List.map encP x.labels), AV.sl SK.sh (List.map encT x.taints), AV.bool x.cordon]) from load_box (cs := [AV.str x.name, AV.sl SK.sh (List.map encA x.cap), AV.sl SK.sh (List.map encP x.labels), AV.sl SK.sh (List.map encT x.taints), AV.bool x.cordon]) (by simp) rfl) <| .callG ([AV.agg [AV.str x.name, AV.sl SK.sh (List.map encA x.cap), AV.sl SK.sh (List.map encP x.labels), AV.sl SK.sh (List.map encT x.taints), AV.bool x.cordon]]) (AV.str x.name) (show Gives cfg (113 : FuncId) [encN x] (AV.str x.name) from ckNs_name _) ⟨rfl, rfl⟩ ⟨rfl, rfl⟩ <| .bin (show binA BinOp.sub (AV.int IntKind.i64 (↑(j + (1 : Nat)) : Int)) (AV.int IntKind.i64 (1 : Int)) = some (AV.int IntKind.i64 (↑j : Int)) from dec_i (by omega)) <| .idx (show idxA (5 : Nat) (AV.sl SK.sh (List.map encN l)) (AV.int IntKind.i64 (↑j : Int)) = some (AV.ref (encN p).cells) from idx_get hp (by rfl)) <| .load (show loadA true (5 : Nat) { boxes := bs ++ [[AV.str x.name, AV.sl SK.sh (List.map encA x.cap), AV.sl SK.sh (List.map encP x.labels), AV.sl SK.sh (List.map encT x.taints), AV.bool x.cordon]], toks := [], loops := [] : Heap } (AV.ref [AV.str p.name, AV.sl SK.sh (List.map encA p.cap), AV.sl SK.sh (List.map encP p.labels), AV.sl SK.sh (List.map encT p.taints), AV.bool p.cordon]) = some (AV.agg [AV.str p.name, AV.sl SK.sh (List.map encA p.cap), AV.sl SK.sh (List.map encP p.labels), AV.sl SK.sh (List.map encT p.taints), AV.bool p.cordon]) from rfl) <| .callG ([AV.agg [AV.str p.name, AV.sl SK.sh (List.map encA p.cap), AV.sl SK.sh (List.map encP p.labels), AV.sl SK.sh (List.map encT p.taints), AV.bool p.cordon]]) (AV.str p.name) (show Gives cfg (113 : FuncId) [encN p] (AV.str p.name) from ckNs_name _) ⟨rfl, rfl⟩ ⟨rfl, rfl⟩ <| .split ((Op.bytesLess x.name p.name || x.name == p.name) = true) (fun h2 => .yes (show (Op.bytesLess x.name p.name || x.name == p.name) = true from h2) <| .fin ((ARes.ret (AV.int IntKind.i64 (13 : Int)), { boxes := bs ++ [[AV.str x.name, AV.sl SK.sh (List.map encA x.cap), AV.sl SK.sh (List.map encP x.labels), AV.sl SK.sh (List.map encT x.taints), AV.bool x.cordon]], toks := [], loops := [] : Heap })) (by simp only [IsRet]; grind [ordG])) (fun h2 => .no (show (Op.bytesLess x.name p.name || x.name == p.name) = false from Bool.eq_false_iff.2 (show ¬ ((Op.bytesLess x.name p.name || x.name == p.name) = true) from h2)) <| .bin (show binA BinOp.add (AV.int IntKind.i64 (↑(j + (1 : Nat)) : Int)) (AV.int IntKind.i64 (1 : Int)) = some (AV.int IntKind.i64 (↑(j + (1 : Nat) + (1 : Nat)) : Int)) from inc_i (by omega)) <| .cutQ k112_0 [(0, AV.sl SK.sh (List.map encN l)), (2, AV.func (113 : Nat) []), (3, AV.func (34 : Nat) []), (16, AV.sl SK.sh (List.map encN l)), (17, AV.int IntKind.i64 (↑l.length : Int)), (18, AV.int IntKind.i64 (↑(j + (1 : Nat) + (1 : Nat)) : Int))] ({ boxes := bs ++ [[AV.str x.name, AV.sl SK.sh (List.map encA x.cap), AV.sl SK.sh (List.map encP x.labels), AV.sl SK.sh (List.map encT x.taints), AV.bool x.cordon]], toks := [], loops := [] : Heap }) (fun T hT => (ih (j + (1 : Nat) + (1 : Nat)) (bs ++ [[AV.str x.name, AV.sl SK.sh (List.map encA x.cap), AV.sl SK.sh (List.map encP x.labels), AV.sl SK.sh (List.map encT x.taints), AV.bool x.cordon]]) hnx T hT).to (by grind [ordG]))))) (by kernel_rfl)
theorem ckNs_rows (l : List Node) : Gives cfg 112 [.sl .sh (l.map encN), .int .i64 32, .func 113 [], .func 34 []] (.int .i64 (ckAll 32 ckN Node.name l)) := by
  refine Gives.run (l112 _ _) ?_
  have h := fun hn => ckNs_loop l hn l 0 [] rfl
  exact goG 60 []  trivial  (.len (show lenA false (AV.sl SK.sh (List.map encN l)) = some (AV.int IntKind.i64 (↑l.length : Int)) from len_map _) <| .split ((32 : Int) < (↑l.length : Int)) (fun h1 => .yes (show (decide ((32 : Int) < (↑l.length : Int))) = true from decide_eq_true (show (32 : Int) < (↑l.length : Int) from h1)) <| .fin ((ARes.ret (AV.int IntKind.i64 (4 : Int)), { boxes := [], toks := [], loops := [] : Heap })) (by simp only [IsRet]; grind [ckAll])) (fun h1 => .no (show (decide ((32 : Int) < (↑l.length : Int))) = false from decide_eq_false (show ¬ ((32 : Int) < (↑l.length : Int)) from h1)) <| .len (show lenA false (AV.sl SK.sh (List.map encN l)) = some (AV.int IntKind.i64 (↑l.length : Int)) from len_map _) <| .cutQ k112_0 [(0, AV.sl SK.sh (List.map encN l)), (2, AV.func (113 : Nat) []), (3, AV.func (34 : Nat) []), (16, AV.sl SK.sh (List.map encN l)), (17, AV.int IntKind.i64 (↑l.length : Int)), (18, AV.int IntKind.i64 (0 : Int))] ({ boxes := [], toks := [], loops := [] : Heap }) (fun T hT => (h (by omega) T hT).to (by grind [ckAll])))) (by kernel_rfl)
theorem ckNs_any (l : List Node) : Gives cfg 43 [.sl .sh (l.map encN)] (.int .i64 (ckAll 32 ckN Node.name l)) := by
  refine Gives.run (l43 _ _) ?_
  have h := ckNs_rows l
  exact goG 60 []  trivial  (.callG ([AV.sl SK.sh (List.map encN l), AV.int IntKind.i64 (32 : Int), AV.func (113 : Nat) [], AV.func (34 : Nat) []]) (AV.int IntKind.i64 (ckAll (32 : Nat) ckN Node.name l)) (show Gives cfg (112 : FuncId) [AV.sl SK.sh (List.map encN l), AV.int IntKind.i64 (32 : Int), AV.func (113 : FuncId) [], AV.func (34 : FuncId) []] (AV.int IntKind.i64 (ckAll (32 : Nat) ckN Node.name l)) from h) ⟨rfl, rfl⟩ ⟨rfl, rfl⟩ <| .fin ((ARes.ret (AV.int IntKind.i64 (ckAll (32 : Nat) ckN Node.name l)), { boxes := [], toks := [], loops := [] : Heap })) rfl) (by kernel_rfl)
def noN : Node := ⟨[], [], [], [], false⟩
def findNZ : List AV := [.str [], .sl .full [], .sl .full [], .sl .full [], .bool false]
def findNV : Option Node → AV
  | none => .tuple [.agg findNZ, .bool false]
  | some x => .tuple [encN x, .bool true]
theorem findN_any_loop (l : List Node) (s : List UInt8) (hn : l.length < 9223372036854775807) : ∀ (post : List Node) (i : Nat) (bs : List (List AV)) (hd : l.drop i = post) (T : Env) (hT : Has T [(4, .ptr 0 0), (1, .str s), (8, .sl .sh (l.map encN)), (9, .int .i64 l.length), (10, .int .i64 i)]),
    Goes cfg a44 k44_0 T ⟨findNZ :: bs, [], []⟩ (IsRet (findNV (findG Node.name post s))) := by
  intro post
  induction post with
  | nil =>
    intro i bs hd T hT
    have hge := drop_ge hd
    exact goG 60 _  hT  (.no (show (decide ((↑i : Int) < (↑l.length : Int))) = false from decide_eq_false (show ¬ ((↑i : Int) < (↑l.length : Int)) from (by omega))) <| .store (show storeA (5 : Nat) { boxes := [AV.str [], AV.sl SK.full [], AV.sl SK.full [], AV.sl SK.full [], AV.bool false] :: bs, toks := [], loops := [] : Heap } (AV.ptr (0 : Nat) (0 : Nat)) (AV.agg [AV.str [], AV.sl SK.full [], AV.sl SK.full [], AV.sl SK.full [], AV.bool false]) = some ({ boxes := [AV.str [], AV.sl SK.full [], AV.sl SK.full [], AV.sl SK.full [], AV.bool false] :: bs, toks := [], loops := [] : Heap }) from store_box2 (cs := [AV.str [], AV.sl SK.full [], AV.sl SK.full [], AV.sl SK.full [], AV.bool false]) (cs' := [AV.str [], AV.sl SK.full [], AV.sl SK.full [], AV.sl SK.full [], AV.bool false]) (by simp) rfl (by simp [List.set_append])) <| .fin ((ARes.ret (AV.tuple [AV.agg [AV.str [], AV.sl SK.full [], AV.sl SK.full [], AV.sl SK.full [], AV.bool false], AV.bool false]), { boxes := [AV.str [], AV.sl SK.full [], AV.sl SK.full [], AV.sl SK.full [], AV.bool false] :: bs, toks := [], loops := [] : Heap })) rfl) (by kernel_rfl)
  | cons x post ih =>
    intro i bs hd T hT
    have hlt := drop_lt hd
    have hnx := drop_next hd
    by_cases hx : Node.name x = s
    · have e : findG Node.name (x :: post) s = some x := by simp [findG, List.find?_cons, hx]
      rw [e]
      exact goG 60 _  hT  (.yes (show (decide ((↑i : Int) < (↑l.length : Int))) = true from decide_eq_true (show (↑i : Int) < (↑l.length : Int) from (by omega))) <| .idx (show idxA (5 : Nat) (AV.sl SK.sh (List.map encN l)) (AV.int IntKind.i64 (↑i : Int)) = some (AV.ref (encN x).cells) from idx_row hd (by rfl)) <| .load (show loadA true (5 : Nat) { boxes := [AV.str [], AV.sl SK.full [], AV.sl SK.full [], AV.sl SK.full [], AV.bool false] :: bs, toks := [], loops := [] : Heap } (AV.ref [AV.str x.name, AV.sl SK.sh (List.map encA x.cap), AV.sl SK.sh (List.map encP x.labels), AV.sl SK.sh (List.map encT x.taints), AV.bool x.cordon]) = some (AV.agg [AV.str x.name, AV.sl SK.sh (List.map encA x.cap), AV.sl SK.sh (List.map encP x.labels), AV.sl SK.sh (List.map encT x.taints), AV.bool x.cordon]) from rfl) <| .store (show storeA (5 : Nat) { boxes := [AV.str [], AV.sl SK.full [], AV.sl SK.full [], AV.sl SK.full [], AV.bool false] :: (bs ++ [[AV.str [], AV.sl SK.full [], AV.sl SK.full [], AV.sl SK.full [], AV.bool false]]), toks := [], loops := [] : Heap } (AV.ptr ([AV.str [], AV.sl SK.full [], AV.sl SK.full [], AV.sl SK.full [], AV.bool false] :: bs).length (0 : Nat)) (AV.agg [AV.str x.name, AV.sl SK.sh (List.map encA x.cap), AV.sl SK.sh (List.map encP x.labels), AV.sl SK.sh (List.map encT x.taints), AV.bool x.cordon]) = some ({ boxes := [AV.str [], AV.sl SK.full [], AV.sl SK.full [], AV.sl SK.full [], AV.bool false] :: (bs ++ [[AV.str x.name, AV.sl SK.sh (List.map encA x.cap), AV.sl SK.sh (List.map encP x.labels), AV.sl SK.sh (List.map encT x.taints), AV.bool x.cordon]]), toks := [], loops := [] : Heap }) from store_box2 (cs := [AV.str [], AV.sl SK.full [], AV.sl SK.full [], AV.sl SK.full [], AV.bool false]) (cs' := [AV.str x.name, AV.sl SK.sh (List.map encA x.cap), AV.sl SK.sh (List.map encP x.labels), AV.sl SK.sh (List.map encT x.taints), AV.bool x.cordon]) (by simp) rfl (by simp [List.set_append])) <| .load (show loadA false (1 : Nat) { boxes := [AV.str [], AV.sl SK.full [], AV.sl SK.full [], AV.sl SK.full [], AV.bool false] :: (bs ++ [[AV.str x.name, AV.sl SK.sh (List.map encA x.cap), AV.sl SK.sh (List.map encP x.labels), AV.sl SK.sh (List.map encT x.taints), AV.bool x.cordon]]), toks := [], loops := [] : Heap } (AV.ptr ([AV.str [], AV.sl SK.full [], AV.sl SK.full [], AV.sl SK.full [], AV.bool false] :: bs).length (0 : Nat)) = some (AV.str x.name) from load_box (cs := [AV.str x.name, AV.sl SK.sh (List.map encA x.cap), AV.sl SK.sh (List.map encP x.labels), AV.sl SK.sh (List.map encT x.taints), AV.bool x.cordon]) (by simp) rfl) <| .yes (show (x.name == s) = true from (by simpa using hx)) <| .load (show loadA true (5 : Nat) { boxes := [AV.str [], AV.sl SK.full [], AV.sl SK.full [], AV.sl SK.full [], AV.bool false] :: (bs ++ [[AV.str x.name, AV.sl SK.sh (List.map encA x.cap), AV.sl SK.sh (List.map encP x.labels), AV.sl SK.sh (List.map encT x.taints), AV.bool x.cordon]]), toks := [], loops := [] : Heap } (AV.ptr ([AV.str [], AV.sl SK.full [], AV.sl SK.full [], AV.sl SK.full [], AV.bool false] :: bs).length (0 : Nat)) = some (AV.agg [AV.str x.name, AV.sl SK.sh (List.map encA x.cap), AV.sl SK.sh (List.map encP x.labels), AV.sl SK.sh (List.map encT x.taints), AV.bool x.cordon]) from load_box (cs := [AV.str x.name, AV.sl SK.sh (List.map encA x.cap), AV.sl SK.sh (List.map encP x.labels), AV.sl SK.sh (List.map encT x.taints), AV.bool x.cordon]) (by simp) rfl) <| .store (show storeA (5 : Nat) { boxes := [AV.str [], AV.sl SK.full [], AV.sl SK.full [], AV.sl SK.full [], AV.bool false] :: (bs ++ [[AV.str x.name, AV.sl SK.sh (List.map encA x.cap), AV.sl SK.sh (List.map encP x.labels), AV.sl SK.sh (List.map encT x.taints), AV.bool x.cordon]]), toks := [], loops := [] : Heap } (AV.ptr (0 : Nat) (0 : Nat)) (AV.agg [AV.str x.name, AV.sl SK.sh (List.map encA x.cap), AV.sl SK.sh (List.map encP x.labels), AV.sl SK.sh (List.map encT x.taints), AV.bool x.cordon]) = some ({ boxes := [AV.str x.name, AV.sl SK.sh (List.map encA x.cap), AV.sl SK.sh (List.map encP x.labels), AV.sl SK.sh (List.map encT x.taints), AV.bool x.cordon] :: (bs ++ [[AV.str x.name, AV.sl SK.sh (List.map encA x.cap), AV.sl SK.sh (List.map encP x.labels), AV.sl SK.sh (List.map encT x.taints), AV.bool x.cordon]]), toks := [], loops := [] : Heap }) from store_box2 (cs := [AV.str [], AV.sl SK.full [], AV.sl SK.full [], AV.sl SK.full [], AV.bool false]) (cs' := [AV.str x.name, AV.sl SK.sh (List.map encA x.cap), AV.sl SK.sh (List.map encP x.labels), AV.sl SK.sh (List.map encT x.taints), AV.bool x.cordon]) (by simp) rfl (by simp [List.set_append])) <| .fin ((ARes.ret (AV.tuple [AV.agg [AV.str x.name, AV.sl SK.sh (List.map encA x.cap), AV.sl SK.sh (List.map encP x.labels), AV.sl SK.sh (List.map encT x.taints), AV.bool x.cordon], AV.bool true]), { boxes := [AV.str x.name, AV.sl SK.sh (List.map encA x.cap), AV.sl SK.sh (List.map encP x.labels), AV.sl SK.sh (List.map encT x.taints), AV.bool x.cordon] :: (bs ++ [[AV.str x.name, AV.sl SK.sh (List.map encA x.cap), AV.sl SK.sh (List.map encP x.labels), AV.sl SK.sh (List.map encT x.taints), AV.bool x.cordon]]), toks := [], loops := [] : Heap })) rfl) (by kernel_rfl)
    · have e : findG Node.name (x :: post) s = findG Node.name post s := by simp [findG, List.find?_cons, hx]
      rw [e]
      exact goG 60 _  hT  (.yes (show (decide ((↑i : Int) < (↑l.length : Int))) = true from decide_eq_true (show (↑i : Int) < (↑l.length : Int) from (by omega))) <| .idx (show idxA (5 : Nat) (AV.sl SK.sh (List.map encN l)) (AV.int IntKind.i64 (↑i : Int)) = some (AV.ref (encN x).cells) from idx_row hd (by rfl)) <| .load (show loadA true (5 : Nat) { boxes := [AV.str [], AV.sl SK.full [], AV.sl SK.full [], AV.sl SK.full [], AV.bool false] :: bs, toks := [], loops := [] : Heap } (AV.ref [AV.str x.name, AV.sl SK.sh (List.map encA x.cap), AV.sl SK.sh (List.map encP x.labels), AV.sl SK.sh (List.map encT x.taints), AV.bool x.cordon]) = some (AV.agg [AV.str x.name, AV.sl SK.sh (List.map encA x.cap), AV.sl SK.sh (List.map encP x.labels), AV.sl SK.sh (List.map encT x.taints), AV.bool x.cordon]) from rfl) <| .store (show storeA (5 : Nat) { boxes := [AV.str [], AV.sl SK.full [], AV.sl SK.full [], AV.sl SK.full [], AV.bool false] :: (bs ++ [[AV.str [], AV.sl SK.full [], AV.sl SK.full [], AV.sl SK.full [], AV.bool false]]), toks := [], loops := [] : Heap } (AV.ptr ([AV.str [], AV.sl SK.full [], AV.sl SK.full [], AV.sl SK.full [], AV.bool false] :: bs).length (0 : Nat)) (AV.agg [AV.str x.name, AV.sl SK.sh (List.map encA x.cap), AV.sl SK.sh (List.map encP x.labels), AV.sl SK.sh (List.map encT x.taints), AV.bool x.cordon]) = some ({ boxes := [AV.str [], AV.sl SK.full [], AV.sl SK.full [], AV.sl SK.full [], AV.bool false] :: (bs ++ [[AV.str x.name, AV.sl SK.sh (List.map encA x.cap), AV.sl SK.sh (List.map encP x.labels), AV.sl SK.sh (List.map encT x.taints), AV.bool x.cordon]]), toks := [], loops := [] : Heap }) from store_box2 (cs := [AV.str [], AV.sl SK.full [], AV.sl SK.full [], AV.sl SK.full [], AV.bool false]) (cs' := [AV.str x.name, AV.sl SK.sh (List.map encA x.cap), AV.sl SK.sh (List.map encP x.labels), AV.sl SK.sh (List.map encT x.taints), AV.bool x.cordon]) (by simp) rfl (by simp [List.set_append])) <| .load (show loadA false (1 : Nat) { boxes := [AV.str [], AV.sl SK.full [], AV.sl SK.full [], AV.sl SK.full [], AV.bool false] :: (bs ++ [[AV.str x.name, AV.sl SK.sh (List.map encA x.cap), AV.sl SK.sh (List.map encP x.labels), AV.sl SK.sh (List.map encT x.taints), AV.bool x.cordon]]), toks := [], loops := [] : Heap } (AV.ptr ([AV.str [], AV.sl SK.full [], AV.sl SK.full [], AV.sl SK.full [], AV.bool false] :: bs).length (0 : Nat)) = some (AV.str x.name) from load_box (cs := [AV.str x.name, AV.sl SK.sh (List.map encA x.cap), AV.sl SK.sh (List.map encP x.labels), AV.sl SK.sh (List.map encT x.taints), AV.bool x.cordon]) (by simp) rfl) <| .no (show (x.name == s) = false from Bool.eq_false_iff.2 (show ¬ ((x.name == s) = true) from (by simpa using hx))) <| .bin (show binA BinOp.add (AV.int IntKind.i64 (↑i : Int)) (AV.int IntKind.i64 (1 : Int)) = some (AV.int IntKind.i64 (↑(i + (1 : Nat)) : Int)) from inc_i (by omega)) <| .cutQ k44_0 [(4, AV.ptr (0 : Nat) (0 : Nat)), (1, AV.str s), (8, AV.sl SK.sh (List.map encN l)), (9, AV.int IntKind.i64 (↑l.length : Int)), (10, AV.int IntKind.i64 (↑(i + (1 : Nat)) : Int))] ({ boxes := [AV.str [], AV.sl SK.full [], AV.sl SK.full [], AV.sl SK.full [], AV.bool false] :: (bs ++ [[AV.str x.name, AV.sl SK.sh (List.map encA x.cap), AV.sl SK.sh (List.map encP x.labels), AV.sl SK.sh (List.map encT x.taints), AV.bool x.cordon]]), toks := [], loops := [] : Heap }) (fun T hT => (ih (i + (1 : Nat)) (bs ++ [[AV.str x.name, AV.sl SK.sh (List.map encA x.cap), AV.sl SK.sh (List.map encP x.labels), AV.sl SK.sh (List.map encT x.taints), AV.bool x.cordon]]) hnx T hT))) (by kernel_rfl)
theorem findN_any (l : List Node) (s : List UInt8) (hn : l.length < 9223372036854775807) : Gives cfg 44 [.sl .sh (l.map encN), .str s] (findNV (findG Node.name l s)) := by
  refine Gives.run (l44 _ _) ?_
  have h := findN_any_loop l s hn l 0 [] rfl
  exact goG 60 []  trivial  (.len (show lenA false (AV.sl SK.sh (List.map encN l)) = some (AV.int IntKind.i64 (↑l.length : Int)) from len_map _) <| .cutQ k44_0 [(4, AV.ptr (0 : Nat) (0 : Nat)), (1, AV.str s), (8, AV.sl SK.sh (List.map encN l)), (9, AV.int IntKind.i64 (↑l.length : Int)), (10, AV.int IntKind.i64 (0 : Int))] ({ boxes := [[AV.str [], AV.sl SK.full [], AV.sl SK.full [], AV.sl SK.full [], AV.bool false]], toks := [], loops := [] : Heap }) (fun T hT => (h T hT))) (by kernel_rfl)
theorem findN_ref_loop (l : List Node) (s : List UInt8) (hn : l.length < 9223372036854775807) : ∀ (post : List Node) (i : Nat) (bs : List (List AV)) (hd : l.drop i = post) (T : Env) (hT : Has T [(4, .ptr 0 0), (0, .sl .sh (l.map encN)), (1, .str s), (6, .int .i64 i)]),
    Goes cfg a45 k45_0 T ⟨findNZ :: bs, [], []⟩ (IsRet (findNV (findG Node.name post s))) := by
  intro post
  induction post with
  | nil =>
    intro i bs hd T hT
    have hge := drop_ge hd
    exact goG 60 _  hT  (.len (show lenA false (AV.sl SK.sh (List.map encN l)) = some (AV.int IntKind.i64 (↑l.length : Int)) from len_map _) <| .no (show (decide ((↑i : Int) < (↑l.length : Int))) = false from decide_eq_false (show ¬ ((↑i : Int) < (↑l.length : Int)) from (by omega))) <| .store (show storeA (5 : Nat) { boxes := [AV.str [], AV.sl SK.full [], AV.sl SK.full [], AV.sl SK.full [], AV.bool false] :: bs, toks := [], loops := [] : Heap } (AV.ptr (0 : Nat) (0 : Nat)) (AV.agg [AV.str [], AV.sl SK.full [], AV.sl SK.full [], AV.sl SK.full [], AV.bool false]) = some ({ boxes := [AV.str [], AV.sl SK.full [], AV.sl SK.full [], AV.sl SK.full [], AV.bool false] :: bs, toks := [], loops := [] : Heap }) from store_box2 (cs := [AV.str [], AV.sl SK.full [], AV.sl SK.full [], AV.sl SK.full [], AV.bool false]) (cs' := [AV.str [], AV.sl SK.full [], AV.sl SK.full [], AV.sl SK.full [], AV.bool false]) (by simp) rfl (by simp [List.set_append])) <| .fin ((ARes.ret (AV.tuple [AV.agg [AV.str [], AV.sl SK.full [], AV.sl SK.full [], AV.sl SK.full [], AV.bool false], AV.bool false]), { boxes := [AV.str [], AV.sl SK.full [], AV.sl SK.full [], AV.sl SK.full [], AV.bool false] :: bs, toks := [], loops := [] : Heap })) rfl) (by kernel_rfl)
  | cons x post ih =>
    intro i bs hd T hT
    have hlt := drop_lt hd
    have hnx := drop_next hd
    by_cases hx : Node.name x = s
    · have e : findG Node.name (x :: post) s = some x := by simp [findG, List.find?_cons, hx]
      rw [e]
      exact goG 60 _  hT  (.len (show lenA false (AV.sl SK.sh (List.map encN l)) = some (AV.int IntKind.i64 (↑l.length : Int)) from len_map _) <| .yes (show (decide ((↑i : Int) < (↑l.length : Int))) = true from decide_eq_true (show (↑i : Int) < (↑l.length : Int) from (by omega))) <| .idx (show idxA (5 : Nat) (AV.sl SK.sh (List.map encN l)) (AV.int IntKind.i64 (↑i : Int)) = some (AV.ref (encN x).cells) from idx_row hd (by rfl)) <| .load (show loadA false (1 : Nat) { boxes := [AV.str [], AV.sl SK.full [], AV.sl SK.full [], AV.sl SK.full [], AV.bool false] :: bs, toks := [], loops := [] : Heap } (AV.ref [AV.str x.name]) = some (AV.str x.name) from rfl) <| .yes (show (x.name == s) = true from (by simpa using hx)) <| .idx (show idxA (5 : Nat) (AV.sl SK.sh (List.map encN l)) (AV.int IntKind.i64 (↑i : Int)) = some (AV.ref (encN x).cells) from idx_row hd (by rfl)) <| .load (show loadA true (5 : Nat) { boxes := [AV.str [], AV.sl SK.full [], AV.sl SK.full [], AV.sl SK.full [], AV.bool false] :: bs, toks := [], loops := [] : Heap } (AV.ref [AV.str x.name, AV.sl SK.sh (List.map encA x.cap), AV.sl SK.sh (List.map encP x.labels), AV.sl SK.sh (List.map encT x.taints), AV.bool x.cordon]) = some (AV.agg [AV.str x.name, AV.sl SK.sh (List.map encA x.cap), AV.sl SK.sh (List.map encP x.labels), AV.sl SK.sh (List.map encT x.taints), AV.bool x.cordon]) from rfl) <| .store (show storeA (5 : Nat) { boxes := [AV.str [], AV.sl SK.full [], AV.sl SK.full [], AV.sl SK.full [], AV.bool false] :: bs, toks := [], loops := [] : Heap } (AV.ptr (0 : Nat) (0 : Nat)) (AV.agg [AV.str x.name, AV.sl SK.sh (List.map encA x.cap), AV.sl SK.sh (List.map encP x.labels), AV.sl SK.sh (List.map encT x.taints), AV.bool x.cordon]) = some ({ boxes := [AV.str x.name, AV.sl SK.sh (List.map encA x.cap), AV.sl SK.sh (List.map encP x.labels), AV.sl SK.sh (List.map encT x.taints), AV.bool x.cordon] :: bs, toks := [], loops := [] : Heap }) from store_box2 (cs := [AV.str [], AV.sl SK.full [], AV.sl SK.full [], AV.sl SK.full [], AV.bool false]) (cs' := [AV.str x.name, AV.sl SK.sh (List.map encA x.cap), AV.sl SK.sh (List.map encP x.labels), AV.sl SK.sh (List.map encT x.taints), AV.bool x.cordon]) (by simp) rfl (by simp [List.set_append])) <| .fin ((ARes.ret (AV.tuple [AV.agg [AV.str x.name, AV.sl SK.sh (List.map encA x.cap), AV.sl SK.sh (List.map encP x.labels), AV.sl SK.sh (List.map encT x.taints), AV.bool x.cordon], AV.bool true]), { boxes := [AV.str x.name, AV.sl SK.sh (List.map encA x.cap), AV.sl SK.sh (List.map encP x.labels), AV.sl SK.sh (List.map encT x.taints), AV.bool x.cordon] :: bs, toks := [], loops := [] : Heap })) rfl) (by kernel_rfl)
    · have e : findG Node.name (x :: post) s = findG Node.name post s := by simp [findG, List.find?_cons, hx]
      rw [e]
      exact goG 60 _  hT  (.len (show lenA false (AV.sl SK.sh (List.map encN l)) = some (AV.int IntKind.i64 (↑l.length : Int)) from len_map _) <| .yes (show (decide ((↑i : Int) < (↑l.length : Int))) = true from decide_eq_true (show (↑i : Int) < (↑l.length : Int) from (by omega))) <| .idx (show idxA (5 : Nat) (AV.sl SK.sh (List.map encN l)) (AV.int IntKind.i64 (↑i : Int)) = some (AV.ref (encN x).cells) from idx_row hd (by rfl)) <| .load (show loadA false (1 : Nat) { boxes := [AV.str [], AV.sl SK.full [], AV.sl SK.full [], AV.sl SK.full [], AV.bool false] :: bs, toks := [], loops := [] : Heap } (AV.ref [AV.str x.name]) = some (AV.str x.name) from rfl) <| .no (show (x.name == s) = false from Bool.eq_false_iff.2 (show ¬ ((x.name == s) = true) from (by simpa using hx))) <| .bin (show binA BinOp.add (AV.int IntKind.i64 (↑i : Int)) (AV.int IntKind.i64 (1 : Int)) = some (AV.int IntKind.i64 (↑(i + (1 : Nat)) : Int)) from inc_i (by omega)) <| .cutQ k45_0 [(4, AV.ptr (0 : Nat) (0 : Nat)), (0, AV.sl SK.sh (List.map encN l)), (1, AV.str s), (6, AV.int IntKind.i64 (↑(i + (1 : Nat)) : Int))] ({ boxes := [AV.str [], AV.sl SK.full [], AV.sl SK.full [], AV.sl SK.full [], AV.bool false] :: bs, toks := [], loops := [] : Heap }) (fun T hT => (ih (i + (1 : Nat)) (bs) hnx T hT))) (by kernel_rfl)
theorem findN_ref (l : List Node) (s : List UInt8) (hn : l.length < 9223372036854775807) : Gives cfg 45 [.sl .sh (l.map encN), .str s] (findNV (findG Node.name l s)) := by
  refine Gives.run (l45 _ _) ?_
  have h := findN_ref_loop l s hn l 0 [] rfl
  exact goG 60 []  trivial  (.cutQ k45_0 [(4, AV.ptr (0 : Nat) (0 : Nat)), (0, AV.sl SK.sh (List.map encN l)), (1, AV.str s), (6, AV.int IntKind.i64 (0 : Int))] ({ boxes := [[AV.str [], AV.sl SK.full [], AV.sl SK.full [], AV.sl SK.full [], AV.bool false]], toks := [], loops := [] : Heap }) (fun T hT => (h T hT))) (by kernel_rfl)
def sameNB (a b : Node) : Bool := a.name == b.name && (a.cordon == b.cordon && (same2 eqA a.cap b.cap && (same2 eqP a.labels b.labels && same2 eqT a.taints b.taints)))
theorem sameN_ref (a b : Node) (m1 : a.cap.length < 9223372036854775807) (m2 : a.labels.length < 9223372036854775807) (m3 : a.taints.length < 9223372036854775807) : Gives cfg 36 [encN a, encN b] (.bool (sameNB a b)) := by
  refine Gives.run (l36 _ _) ?_
  exact goG 90 []  trivial  (.split ((a.name == b.name) = true) (fun h1 => .yes (show (a.name == b.name) = true from h1) <| .split ((if false = true then !a.cordon == b.cordon else a.cordon == b.cordon) = true) (fun h2 => .yes (show (if false = true then !a.cordon == b.cordon else a.cordon == b.cordon) = true from h2) <| .callG ([AV.sl SK.sh (List.map encA a.cap), AV.sl SK.sh (List.map encA b.cap)]) (AV.bool (same2 eqA a.cap b.cap)) (show Gives cfg (88 : FuncId) [AV.sl SK.sh (List.map encA a.cap), AV.sl SK.sh (List.map encA b.cap)] (AV.bool (same2 eqA a.cap b.cap)) from sameVR _ _ m1) ⟨rfl, rfl⟩ ⟨rfl, rfl⟩ <| .split (same2 eqA a.cap b.cap = true) (fun h3 => .yes (show (same2 eqA a.cap b.cap) = true from h3) <| .callG ([AV.sl SK.sh (List.map encP a.labels), AV.sl SK.sh (List.map encP b.labels)]) (AV.bool (same2 eqP a.labels b.labels)) (show Gives cfg (89 : FuncId) [AV.sl SK.sh (List.map encP a.labels), AV.sl SK.sh (List.map encP b.labels)] (AV.bool (same2 eqP a.labels b.labels)) from samePR _ _ m2) ⟨rfl, rfl⟩ ⟨rfl, rfl⟩ <| .split (same2 eqP a.labels b.labels = true) (fun h4 => .yes (show (same2 eqP a.labels b.labels) = true from h4) <| .callG ([AV.sl SK.sh (List.map encT a.taints), AV.sl SK.sh (List.map encT b.taints)]) (AV.bool (same2 eqT a.taints b.taints)) (show Gives cfg (90 : FuncId) [AV.sl SK.sh (List.map encT a.taints), AV.sl SK.sh (List.map encT b.taints)] (AV.bool (same2 eqT a.taints b.taints)) from sameTR _ _ m3) ⟨rfl, rfl⟩ ⟨rfl, rfl⟩ <| .fin ((ARes.ret (AV.bool (same2 eqT a.taints b.taints)), { boxes := [[AV.str a.name, AV.sl SK.sh (List.map encA a.cap), AV.sl SK.sh (List.map encP a.labels), AV.sl SK.sh (List.map encT a.taints), AV.bool a.cordon], [AV.str b.name, AV.sl SK.sh (List.map encA b.cap), AV.sl SK.sh (List.map encP b.labels), AV.sl SK.sh (List.map encT b.taints), AV.bool b.cordon]], toks := [], loops := [] : Heap })) (by simp only [IsRet]; grind [sameNB])) (fun h4 => .no (show (same2 eqP a.labels b.labels) = false from Bool.eq_false_iff.2 (show ¬ (same2 eqP a.labels b.labels = true) from h4)) <| .fin ((ARes.ret (AV.bool false), { boxes := [[AV.str a.name, AV.sl SK.sh (List.map encA a.cap), AV.sl SK.sh (List.map encP a.labels), AV.sl SK.sh (List.map encT a.taints), AV.bool a.cordon], [AV.str b.name, AV.sl SK.sh (List.map encA b.cap), AV.sl SK.sh (List.map encP b.labels), AV.sl SK.sh (List.map encT b.taints), AV.bool b.cordon]], toks := [], loops := [] : Heap })) (by simp only [IsRet]; grind [sameNB]))) (fun h3 => .no (show (same2 eqA a.cap b.cap) = false from Bool.eq_false_iff.2 (show ¬ (same2 eqA a.cap b.cap = true) from h3)) <| .ff <| .fin ((ARes.ret (AV.bool false), { boxes := [[AV.str a.name, AV.sl SK.sh (List.map encA a.cap), AV.sl SK.sh (List.map encP a.labels), AV.sl SK.sh (List.map encT a.taints), AV.bool a.cordon], [AV.str b.name, AV.sl SK.sh (List.map encA b.cap), AV.sl SK.sh (List.map encP b.labels), AV.sl SK.sh (List.map encT b.taints), AV.bool b.cordon]], toks := [], loops := [] : Heap })) (by simp only [IsRet]; grind [sameNB]))) (fun h2 => .no (show (if false = true then !a.cordon == b.cordon else a.cordon == b.cordon) = false from Bool.eq_false_iff.2 (show ¬ ((if false = true then !a.cordon == b.cordon else a.cordon == b.cordon) = true) from h2)) <| .ff <| .ff <| .fin ((ARes.ret (AV.bool false), { boxes := [[AV.str a.name, AV.sl SK.sh (List.map encA a.cap), AV.sl SK.sh (List.map encP a.labels), AV.sl SK.sh (List.map encT a.taints), AV.bool a.cordon], [AV.str b.name, AV.sl SK.sh (List.map encA b.cap), AV.sl SK.sh (List.map encP b.labels), AV.sl SK.sh (List.map encT b.taints), AV.bool b.cordon]], toks := [], loops := [] : Heap })) (by simp only [IsRet]; grind [sameNB]))) (fun h1 => .no (show (a.name == b.name) = false from Bool.eq_false_iff.2 (show ¬ ((a.name == b.name) = true) from h1)) <| .ff <| .ff <| .ff <| .fin ((ARes.ret (AV.bool false), { boxes := [[AV.str a.name, AV.sl SK.sh (List.map encA a.cap), AV.sl SK.sh (List.map encP a.labels), AV.sl SK.sh (List.map encT a.taints), AV.bool a.cordon], [AV.str b.name, AV.sl SK.sh (List.map encA b.cap), AV.sl SK.sh (List.map encP b.labels), AV.sl SK.sh (List.map encT b.taints), AV.bool b.cordon]], toks := [], loops := [] : Heap })) (by simp only [IsRet]; grind [sameNB]))) (by kernel_rfl)
theorem sameNB_iff (a b : Node) : sameNB a b = true ↔ a = b := by
  cases a; cases b
  simp only [sameNB, Bool.and_eq_true, beq_iff_eq, same2_iff eqA_iff, same2_iff eqP_iff, same2_iff eqT_iff, Node.mk.injEq]
  grind
theorem findG_mem {X : Type} {nm : X → List UInt8} {l : List X} {s : List UInt8} {x : X} (h : findG nm l s = some x) : x ∈ l := List.mem_of_find?_eq_some h
end Go.Aa.T

set_option linter.unusedVariables false
set_option linter.unusedSimpArgs false
set_option maxRecDepth 100000
namespace Go.Aa.T
open Go.Aa Go.Proofs
structure Pod where
  name : List UInt8
  owner : List UInt8
  prio : Int
  need : List Amount
  labels : List Pair
  sel : List Term
  tols : List Tol
  key : List UInt8
  most : Int
  node : List UInt8
  hold : Bool
def encPd (p : Pod) : AV := .agg [.str p.name, .str p.owner, .int .i64 p.prio, .sl .sh (p.need.map encA), .sl .sh (p.labels.map encP), .sl .sh (p.sel.map encM), .sl .sh (p.tols.map encL), .str p.key, .int .i64 p.most, .str p.node, .bool p.hold]
structure PodOk (p : Pod) : Prop where
  name : isName p.name = true
  owner : p.owner = [] ∨ isName p.owner = true
  prio : -1 ≤ p.prio ∧ p.prio ≤ 1000000
  hold : p.hold = decide (p.prio = -1)
  need : ckV p.need = 0
  labels : ckS p.labels = 0
  sel : ckM p.sel = 0
  tols : ckL p.tols = 0
  key : p.key = [] ∨ isName p.key = true
  most : 0 ≤ p.most ∧ p.most ≤ 128 ∧ (p.key = [] ↔ p.most = 0)
  node : p.node = [] ∨ isName p.node = true

end Go.Aa.T

set_option linter.unusedVariables false
set_option linter.unusedSimpArgs false
set_option maxRecDepth 100000
namespace Go.Aa.T
open Go.Aa Go.Proofs
instance (n : Pod) : Dat (encPd n) := ⟨rfl, rfl⟩
structure FewPod (p : Pod) : Prop where
  name : p.name.length ≤ 50
  owner : p.owner.length ≤ 50
  key : p.key.length ≤ 50
  node : p.node.length ≤ 50
  need : p.need.length ≤ 20
  labels : p.labels.length ≤ 20
  sel : p.sel.length ≤ 20
  tols : p.tols.length ≤ 20
  fneed : fewA p.need = true
  flabels : fewP p.labels = true
  fsel : fewM p.sel = true
  ftols : fewL p.tols = true
end Go.Aa.T

set_option linter.unusedVariables false
set_option linter.unusedSimpArgs false
set_option maxRecDepth 100000
namespace Go.Aa.T
open Go.Aa Go.Proofs
def pk (prio : Int) (key : List UInt8) (most : Int) (hold : Bool) : AV := .agg [.str [112], .str [], .int .i64 prio, .sl .sh [], .sl .sh [], .sl .sh [], .sl .sh [], .str key, .int .i64 most, .str [], .bool hold]
end Go.Aa.T

set_option linter.unusedVariables false
set_option linter.unusedSimpArgs false
set_option maxRecDepth 100000
namespace Go.Aa.T
open Go.Aa Go.Proofs
end Go.Aa.T

set_option linter.unusedVariables false
set_option linter.unusedSimpArgs false
set_option maxRecDepth 100000
namespace Go.Aa.T
open Go.Aa Go.Proofs

def smallI (l : List Amount) : Prop := ∀ x ∈ l, -9223372036854775808 ≤ x.n ∧ x.n ≤ 9223372036854775807

structure SmallPd (p : Pod) : Prop where
  need : smallI p.need
  prio : -9223372036854775808 ≤ p.prio ∧ p.prio ≤ 9223372036854775807
  most : -9223372036854775808 ≤ p.most ∧ p.most ≤ 9223372036854775807
end Go.Aa.T

set_option linter.unusedVariables false
set_option linter.unusedSimpArgs false
set_option maxRecDepth 100000
namespace Go.Aa.T
open Go.Aa Go.Proofs
theorem map_of2 {α : Type} {f : α → AV} {Q : AV → Prop} {S : α → Prop} (h : ∀ y, Q y → ∃ x, y = f x ∧ S x) : ∀ (l : List AV), (∀ y ∈ l, Q y) → ∃ t : List α, l = t.map f ∧ ∀ x ∈ t, S x
  | [], _ => ⟨[], rfl, by simp⟩
  | y :: l, hl => by
    obtain ⟨x, rfl, hx⟩ := h y (hl y (by simp))
    obtain ⟨t, rfl, ht⟩ := map_of2 h l (fun z hz => hl z (by simp [hz]))
    exact ⟨x :: t, rfl, by simpa using ⟨hx, ht⟩⟩
theorem i64_range {m : Int} (h : (Lit.int .i64 m).wf = true) : -9223372036854775808 ≤ m ∧ m ≤ 9223372036854775807 := by
  have h' : IntKind.i64.min ≤ m ∧ m ≤ IntKind.i64.max := by simpa [Lit.wf, IntKind.has] using h
  have e1 : IntKind.i64.min = -9223372036854775808 := rfl
  have e2 : IntKind.i64.max = 9223372036854775807 := rfl
  omega
theorem tys2 {R : TypeId → List AV → Prop} {f1 f2 : Field} {cs : List AV} (h : Tys R (#[f1, f2] : Array Field).toList cs) : ∃ a1 a2, cs = a1 ++ (a2) ∧ R f1.type a1 ∧ R f2.type a2 := by
  obtain ⟨a1, b1, rfl, h1, a2, b2, rfl, h2, e⟩ := (show Tys R [f1, f2] cs from h)
  cases e
  exact ⟨a1, a2, by simp, h1, h2⟩
theorem tys3 {R : TypeId → List AV → Prop} {f1 f2 f3 : Field} {cs : List AV} (h : Tys R (#[f1, f2, f3] : Array Field).toList cs) : ∃ a1 a2 a3, cs = a1 ++ (a2 ++ (a3)) ∧ R f1.type a1 ∧ R f2.type a2 ∧ R f3.type a3 := by
  obtain ⟨a1, b1, rfl, h1, a2, b2, rfl, h2, a3, b3, rfl, h3, e⟩ := (show Tys R [f1, f2, f3] cs from h)
  cases e
  exact ⟨a1, a2, a3, by simp, h1, h2, h3⟩
theorem tys5 {R : TypeId → List AV → Prop} {f1 f2 f3 f4 f5 : Field} {cs : List AV} (h : Tys R (#[f1, f2, f3, f4, f5] : Array Field).toList cs) : ∃ a1 a2 a3 a4 a5, cs = a1 ++ (a2 ++ (a3 ++ (a4 ++ (a5)))) ∧ R f1.type a1 ∧ R f2.type a2 ∧ R f3.type a3 ∧ R f4.type a4 ∧ R f5.type a5 := by
  obtain ⟨a1, b1, rfl, h1, a2, b2, rfl, h2, a3, b3, rfl, h3, a4, b4, rfl, h4, a5, b5, rfl, h5, e⟩ := (show Tys R [f1, f2, f3, f4, f5] cs from h)
  cases e
  exact ⟨a1, a2, a3, a4, a5, by simp, h1, h2, h3, h4, h5⟩
theorem ty100 {k : Nat} {y : AV} (h : TyV Tryz.prog (k + 2) 100 y) : ∃ x : Amount, y = encA x ∧ (-9223372036854775808 ≤ x.n ∧ x.n ≤ 9223372036854775807) := by
  obtain ⟨cs, rfl, hh⟩ := tyv_struct Tryz.underlying100 h
  obtain ⟨a1, a2, rfl, h1, h2⟩ := tys2 hh
  obtain ⟨s1, rfl, -⟩ := ty_string Tryz.underlying9 h1
  obtain ⟨s2, rfl, w2⟩ := ty_int Tryz.underlying2 h2
  have r2 := i64_range w2
  exact ⟨⟨s1, s2⟩, rfl, r2⟩
theorem ty28s {k : Nat} {y : List AV} (h : Ty Tryz.prog (k + 3) 28 y) : ∃ t : List Amount, y = [.sl .sh (t.map encA)] ∧ ∀ x ∈ t, -9223372036854775808 ≤ x.n ∧ x.n ≤ 9223372036854775807 := by
  obtain ⟨l, rfl, -, hl⟩ := ty_slice Tryz.underlying28 h
  obtain ⟨t, rfl, hs⟩ := map_of2 (S := fun x : Amount => -9223372036854775808 ≤ x.n ∧ x.n ≤ 9223372036854775807) (fun y hy => ty100 hy) l hl
  exact ⟨t, rfl, hs⟩
theorem ty64 {k : Nat} {y : AV} (h : TyV Tryz.prog (k + 2) 64 y) : ∃ x : Pair, y = encP x ∧ (True) := by
  obtain ⟨cs, rfl, hh⟩ := tyv_struct Tryz.underlying64 h
  obtain ⟨a1, a2, rfl, h1, h2⟩ := tys2 hh
  obtain ⟨s1, rfl, -⟩ := ty_string Tryz.underlying9 h1
  obtain ⟨s2, rfl, -⟩ := ty_string Tryz.underlying9 h2
  exact ⟨⟨s1, s2⟩, rfl, trivial⟩
theorem ty30s {k : Nat} {y : List AV} (h : Ty Tryz.prog (k + 3) 30 y) : ∃ t : List Pair, y = [.sl .sh (t.map encP)] ∧ ∀ x ∈ t, True := by
  obtain ⟨l, rfl, -, hl⟩ := ty_slice Tryz.underlying30 h
  obtain ⟨t, rfl, hs⟩ := map_of2 (S := fun x : Pair => True) (fun y hy => ty64 hy) l hl
  exact ⟨t, rfl, hs⟩
theorem ty150 {k : Nat} {y : AV} (h : TyV Tryz.prog (k + 2) 150 y) : ∃ x : Taint, y = encT x ∧ (True) := by
  obtain ⟨cs, rfl, hh⟩ := tyv_struct Tryz.underlying150 h
  obtain ⟨a1, a2, a3, rfl, h1, h2, h3⟩ := tys3 hh
  obtain ⟨s1, rfl, -⟩ := ty_string Tryz.underlying9 h1
  obtain ⟨s2, rfl, -⟩ := ty_string Tryz.underlying9 h2
  obtain ⟨s3, rfl⟩ := ty_bool Tryz.underlying4 h3
  exact ⟨⟨s1, s2, s3⟩, rfl, trivial⟩
theorem ty68s {k : Nat} {y : List AV} (h : Ty Tryz.prog (k + 3) 68 y) : ∃ t : List Taint, y = [.sl .sh (t.map encT)] ∧ ∀ x ∈ t, True := by
  obtain ⟨l, rfl, -, hl⟩ := ty_slice Tryz.underlying68 h
  obtain ⟨t, rfl, hs⟩ := map_of2 (S := fun x : Taint => True) (fun y hy => ty150 hy) l hl
  exact ⟨t, rfl, hs⟩
theorem ty70 {k : Nat} {y : AV} (h : TyV Tryz.prog (k + 4) 70 y) : ∃ x : Node, y = encN x ∧ (smallI x.cap) := by
  obtain ⟨cs, rfl, hh⟩ := tyv_struct Tryz.underlying70 h
  obtain ⟨a1, a2, a3, a4, a5, rfl, h1, h2, h3, h4, h5⟩ := tys5 hh
  obtain ⟨s1, rfl, -⟩ := ty_string Tryz.underlying9 h1
  obtain ⟨s2, rfl, w2⟩ := ty28s h2
  obtain ⟨s3, rfl, w3⟩ := ty30s h3
  obtain ⟨s4, rfl, w4⟩ := ty68s h4
  obtain ⟨s5, rfl⟩ := ty_bool Tryz.underlying4 h5
  exact ⟨⟨s1, s2, s3, s4, s5⟩, rfl, w2⟩
theorem ty89 {k : Nat} {y : AV} (h : TyV Tryz.prog (k + 5) 89 y) : ∃ t : List Node, y = .sl .sh (t.map encN) ∧ ∀ x ∈ t, smallI x.cap := by
  obtain ⟨l, rfl, -, hl⟩ := tyv_slice Tryz.underlying89 h
  obtain ⟨t, rfl, hs⟩ := map_of2 (S := fun x : Node => smallI x.cap) (fun y hy => ty70 hy) l hl
  exact ⟨t, rfl, hs⟩
end Go.Aa.T

set_option linter.unusedVariables false
set_option linter.unusedSimpArgs false
set_option maxRecDepth 100000
namespace Go.Aa.T
open Go.Aa Go.Proofs
theorem nodeRows_loop (l : List Node) (s : List UInt8) (hn : l.length ≤ 40) : ∀ (post : List Node) (i : Nat) (hd : l.drop i = post) (hpre : ∀ x ∈ l.take i, fewN x = true) (T : Env) (hT : Has T [(0, .sl .sh (l.map encN)), (1, .str s), (5, .int .i64 i)]),
    Goes cfg a8 k8_0 T Heap.nil (IsRet (.bool true)) := by
  intro post
  induction post with
  | nil =>
    intro i hd hpre T hT
    have hge := drop_ge hd
    have hf : ∀ x ∈ l, fewN x = true := by rwa [List.take_of_length_le hge] at hpre
    have h1 := ckNs_any l
    have h2 := ckNs_ref l
    generalize ckAll 32 ckN Node.name l = e at h1 h2
    have f1 := findN_any l s (by omega)
    have f2 := findN_ref l s (by omega)
    have ho : ∃ o : Option Node, findG Node.name l s = o ∧ fewN (o.getD noN) = true := by
      cases hh : findG Node.name l s with
      | none => exact ⟨none, rfl, rfl⟩
      | some x => exact ⟨some x, rfl, hf x (findG_mem hh)⟩
    obtain ⟨o, ho, hfo⟩ := ho
    rw [ho] at f1 f2
    have d := fewNd hfo
    have s1 := sameN_ref (o.getD noN) (o.getD noN) (by have := d.cap; omega) (by have := d.labels; omega) (by have := d.taints; omega)
    rw [(sameNB_iff _ _).2 rfl] at s1
    have s2 := ofN_any _ hfo
    cases o with
    | none =>
      have g1 : Gives cfg 44 [.sl .sh (l.map encN), .str s] (.tuple [.agg findNZ, .bool false]) := f1
      have g2 : Gives cfg 45 [.sl .sh (l.map encN), .str s] (.tuple [.agg findNZ, .bool false]) := f2
      exact goG 120 _  hT  (.len (show lenA false (AV.sl SK.sh (List.map encN l)) = some (AV.int IntKind.i64 (↑l.length : Int)) from len_map _) <| .no (show (decide ((↑i : Int) < (↑l.length : Int))) = false from decide_eq_false (show ¬ ((↑i : Int) < (↑l.length : Int)) from (by omega))) <| .callG ([AV.sl SK.sh (List.map encN l)]) (AV.sl SK.sh (List.map encN l)) (show Gives cfg (41 : FuncId) [AV.sl SK.sh (List.map encN l)] (rowS Heap.nil (List.map encN l)) from ofNs_any _ hn hf) ⟨rfl, rfl⟩ Res.p <| .callG ([AV.sl SK.sh (List.map encN l)]) (AV.int IntKind.i64 e) (show Gives cfg (42 : FuncId) [AV.sl SK.sh (List.map encN l)] (AV.int IntKind.i64 e) from h2) ⟨rfl, rfl⟩ ⟨rfl, rfl⟩ <| .callG ([AV.sl SK.sh (List.map encN l)]) (AV.int IntKind.i64 e) (show Gives cfg (43 : FuncId) [AV.sl SK.sh (List.map encN l)] (AV.int IntKind.i64 e) from h1) ⟨rfl, rfl⟩ ⟨rfl, rfl⟩ <| .no (show (e != e) = false from Bool.eq_false_iff.2 (show ¬ ((e != e) = true) from (by simp))) <| .split ((e != (0 : Int)) = true) (fun h1 => .yes (show (e != (0 : Int)) = true from h1) <| .fin ((ARes.ret (AV.bool true), { boxes := [], toks := [], loops := [] : Heap })) rfl) (fun h1 => .no (show (e != (0 : Int)) = false from Bool.eq_false_iff.2 (show ¬ ((e != (0 : Int)) = true) from h1)) <| .callG ([AV.sl SK.sh (List.map encN l), AV.str s]) (AV.tuple [AV.agg [AV.str [], AV.sl SK.sh [], AV.sl SK.sh [], AV.sl SK.sh [], AV.bool false], AV.bool false]) (show Gives cfg (44 : FuncId) [AV.sl SK.sh (List.map encN l), AV.str s] (AV.tuple [AV.agg findNZ, AV.bool false]) from g1) ⟨rfl, rfl⟩ ⟨rfl, rfl⟩ <| .callG ([AV.sl SK.sh (List.map encN l), AV.str s]) (AV.tuple [AV.agg [AV.str [], AV.sl SK.sh [], AV.sl SK.sh [], AV.sl SK.sh [], AV.bool false], AV.bool false]) (show Gives cfg (45 : FuncId) [AV.sl SK.sh (List.map encN l), AV.str s] (AV.tuple [AV.agg findNZ, AV.bool false]) from g2) ⟨rfl, rfl⟩ ⟨rfl, rfl⟩ <| .tt <| .callG ([AV.agg [AV.str [], AV.sl SK.sh [], AV.sl SK.sh [], AV.sl SK.sh [], AV.bool false]]) (AV.agg [AV.str [], AV.sl SK.sh [], AV.sl SK.sh [], AV.sl SK.sh [], AV.bool (none.getD noN).cordon]) (show Gives cfg (32 : FuncId) [encN (none.getD noN)] (encN (none.getD noN)) from s2) ⟨rfl, rfl⟩ ⟨rfl, rfl⟩ <| .callG ([AV.agg [AV.str [], AV.sl SK.sh [], AV.sl SK.sh [], AV.sl SK.sh [], AV.bool (none.getD noN).cordon], AV.agg [AV.str [], AV.sl SK.sh [], AV.sl SK.sh [], AV.sl SK.sh [], AV.bool false]]) (AV.bool true) (show Gives cfg (36 : FuncId) [encN (none.getD noN), encN (none.getD noN)] (AV.bool true) from s1) ⟨rfl, rfl⟩ ⟨rfl, rfl⟩ <| .fin ((ARes.ret (AV.bool true), { boxes := [[AV.str [], AV.sl SK.sh [], AV.sl SK.sh [], AV.sl SK.sh [], AV.bool false], [AV.str [], AV.sl SK.sh [], AV.sl SK.sh [], AV.sl SK.sh [], AV.bool false]], toks := [], loops := [] : Heap })) rfl)) (by kernel_rfl)
    | some n =>
      have g1 : Gives cfg 44 [.sl .sh (l.map encN), .str s] (.tuple [encN n, .bool true]) := f1
      have g2 : Gives cfg 45 [.sl .sh (l.map encN), .str s] (.tuple [encN n, .bool true]) := f2
      have s1' : Gives cfg 36 [encN n, encN n] (.bool true) := s1
      have s2' : Gives cfg 32 [encN n] (encN n) := s2
      exact goG 120 _  hT  (.len (show lenA false (AV.sl SK.sh (List.map encN l)) = some (AV.int IntKind.i64 (↑l.length : Int)) from len_map _) <| .no (show (decide ((↑i : Int) < (↑l.length : Int))) = false from decide_eq_false (show ¬ ((↑i : Int) < (↑l.length : Int)) from (by omega))) <| .callG ([AV.sl SK.sh (List.map encN l)]) (AV.sl SK.sh (List.map encN l)) (show Gives cfg (41 : FuncId) [AV.sl SK.sh (List.map encN l)] (rowS Heap.nil (List.map encN l)) from ofNs_any _ hn hf) ⟨rfl, rfl⟩ Res.p <| .callG ([AV.sl SK.sh (List.map encN l)]) (AV.int IntKind.i64 e) (show Gives cfg (42 : FuncId) [AV.sl SK.sh (List.map encN l)] (AV.int IntKind.i64 e) from h2) ⟨rfl, rfl⟩ ⟨rfl, rfl⟩ <| .callG ([AV.sl SK.sh (List.map encN l)]) (AV.int IntKind.i64 e) (show Gives cfg (43 : FuncId) [AV.sl SK.sh (List.map encN l)] (AV.int IntKind.i64 e) from h1) ⟨rfl, rfl⟩ ⟨rfl, rfl⟩ <| .no (show (e != e) = false from Bool.eq_false_iff.2 (show ¬ ((e != e) = true) from (by simp))) <| .split ((e != (0 : Int)) = true) (fun h1 => .yes (show (e != (0 : Int)) = true from h1) <| .fin ((ARes.ret (AV.bool true), { boxes := [], toks := [], loops := [] : Heap })) rfl) (fun h1 => .no (show (e != (0 : Int)) = false from Bool.eq_false_iff.2 (show ¬ ((e != (0 : Int)) = true) from h1)) <| .callG ([AV.sl SK.sh (List.map encN l), AV.str s]) (AV.tuple [AV.agg [AV.str n.name, AV.sl SK.sh (List.map encA n.cap), AV.sl SK.sh (List.map encP n.labels), AV.sl SK.sh (List.map encT n.taints), AV.bool n.cordon], AV.bool true]) (show Gives cfg (44 : FuncId) [AV.sl SK.sh (List.map encN l), AV.str s] (AV.tuple [encN n, AV.bool true]) from g1) ⟨rfl, rfl⟩ ⟨rfl, rfl⟩ <| .callG ([AV.sl SK.sh (List.map encN l), AV.str s]) (AV.tuple [AV.agg [AV.str n.name, AV.sl SK.sh (List.map encA n.cap), AV.sl SK.sh (List.map encP n.labels), AV.sl SK.sh (List.map encT n.taints), AV.bool n.cordon], AV.bool true]) (show Gives cfg (45 : FuncId) [AV.sl SK.sh (List.map encN l), AV.str s] (AV.tuple [encN n, AV.bool true]) from g2) ⟨rfl, rfl⟩ ⟨rfl, rfl⟩ <| .tt <| .callG ([AV.agg [AV.str n.name, AV.sl SK.sh (List.map encA n.cap), AV.sl SK.sh (List.map encP n.labels), AV.sl SK.sh (List.map encT n.taints), AV.bool n.cordon]]) (AV.agg [AV.str n.name, AV.sl SK.sh (List.map encA n.cap), AV.sl SK.sh (List.map encP n.labels), AV.sl SK.sh (List.map encT n.taints), AV.bool n.cordon]) (show Gives cfg (32 : FuncId) [encN n] (encN n) from s2') ⟨rfl, rfl⟩ ⟨rfl, rfl⟩ <| .callG ([AV.agg [AV.str n.name, AV.sl SK.sh (List.map encA n.cap), AV.sl SK.sh (List.map encP n.labels), AV.sl SK.sh (List.map encT n.taints), AV.bool n.cordon], AV.agg [AV.str n.name, AV.sl SK.sh (List.map encA n.cap), AV.sl SK.sh (List.map encP n.labels), AV.sl SK.sh (List.map encT n.taints), AV.bool n.cordon]]) (AV.bool true) (show Gives cfg (36 : FuncId) [encN n, encN n] (AV.bool true) from s1') ⟨rfl, rfl⟩ ⟨rfl, rfl⟩ <| .fin ((ARes.ret (AV.bool true), { boxes := [[AV.str n.name, AV.sl SK.sh (List.map encA n.cap), AV.sl SK.sh (List.map encP n.labels), AV.sl SK.sh (List.map encT n.taints), AV.bool n.cordon], [AV.str n.name, AV.sl SK.sh (List.map encA n.cap), AV.sl SK.sh (List.map encP n.labels), AV.sl SK.sh (List.map encT n.taints), AV.bool n.cordon]], toks := [], loops := [] : Heap })) rfl)) (by kernel_rfl)
  | cons x post ih =>
    intro i hd hpre T hT
    have hlt := drop_lt hd
    have hnx := drop_next hd
    by_cases hx : fewN x = true
    · have hpre2 : ∀ y ∈ l.take (i + 1), fewN y = true := by
        intro y hy
        rw [drop_take hd, List.mem_append] at hy
        rcases hy with hy | hy
        · exact hpre y hy
        · rw [List.mem_singleton.1 hy]; exact hx
      have ih' := ih (i + 1) hnx hpre2
      exact goG 60 _  hT  (.len (show lenA false (AV.sl SK.sh (List.map encN l)) = some (AV.int IntKind.i64 (↑l.length : Int)) from len_map _) <| .yes (show (decide ((↑i : Int) < (↑l.length : Int))) = true from decide_eq_true (show (↑i : Int) < (↑l.length : Int) from (by omega))) <| .idx (show idxA (5 : Nat) (AV.sl SK.sh (List.map encN l)) (AV.int IntKind.i64 (↑i : Int)) = some (AV.ref (encN x).cells) from idx_row hd (by rfl)) <| .callG ([AV.agg [AV.str x.name, AV.sl SK.sh (List.map encA x.cap), AV.sl SK.sh (List.map encP x.labels), AV.sl SK.sh (List.map encT x.taints), AV.bool x.cordon]]) (AV.bool (fewN x)) (show Gives cfg (31 : FuncId) [encN x] (AV.bool (fewN x)) from fewN_any _) ⟨rfl, rfl⟩ ⟨rfl, rfl⟩ <| .no (show (!fewN x) = false from by have hh : fewN x = true := (by simpa using hx); simp [hh]) <| .bin (show binA BinOp.add (AV.int IntKind.i64 (↑i : Int)) (AV.int IntKind.i64 (1 : Int)) = some (AV.int IntKind.i64 (↑(i + (1 : Nat)) : Int)) from inc_i (by omega)) <| .cutQ k8_0 [(0, AV.sl SK.sh (List.map encN l)), (1, AV.str s), (5, AV.int IntKind.i64 (↑(i + (1 : Nat)) : Int))] ({ boxes := [], toks := [], loops := [] : Heap }) (fun T hT => (ih' T hT))) (by kernel_rfl)
    · exact goG 60 _  hT  (.len (show lenA false (AV.sl SK.sh (List.map encN l)) = some (AV.int IntKind.i64 (↑l.length : Int)) from len_map _) <| .yes (show (decide ((↑i : Int) < (↑l.length : Int))) = true from decide_eq_true (show (↑i : Int) < (↑l.length : Int) from (by omega))) <| .idx (show idxA (5 : Nat) (AV.sl SK.sh (List.map encN l)) (AV.int IntKind.i64 (↑i : Int)) = some (AV.ref (encN x).cells) from idx_row hd (by rfl)) <| .callG ([AV.agg [AV.str x.name, AV.sl SK.sh (List.map encA x.cap), AV.sl SK.sh (List.map encP x.labels), AV.sl SK.sh (List.map encT x.taints), AV.bool x.cordon]]) (AV.bool (fewN x)) (show Gives cfg (31 : FuncId) [encN x] (AV.bool (fewN x)) from fewN_any _) ⟨rfl, rfl⟩ ⟨rfl, rfl⟩ <| .yes (show (!fewN x) = true from by have hh : ¬ (fewN x = true) := (by simpa using hx); simp [hh]) <| .fin ((ARes.ret (AV.bool true), { boxes := [], toks := [], loops := [] : Heap })) rfl) (by kernel_rfl)
theorem known30' : Gives cfg 30 [] (.bool true) := by
  obtain ⟨H, h⟩ := known_ret30
  exact Gives.of h
theorem nodeRows (l : List Node) (s : List UInt8) : Gives cfg 8 [.sl .sh (l.map encN), .str s] (.bool true) := by
  refine Gives.run (l8 _ _) ?_
  have h := fun hn => nodeRows_loop l s hn l 0 rfl (by simp)
  exact goG 60 []  trivial  (.callG ([]) (AV.bool true) (show Gives cfg (30 : FuncId) [] (AV.bool true) from known30') ⟨rfl, rfl⟩ ⟨rfl, rfl⟩ <| .ff <| .len (show lenA false (AV.sl SK.sh (List.map encN l)) = some (AV.int IntKind.i64 (↑l.length : Int)) from len_map _) <| .split ((40 : Int) < (↑l.length : Int)) (fun h1 => .yes (show (decide ((40 : Int) < (↑l.length : Int))) = true from decide_eq_true (show (40 : Int) < (↑l.length : Int) from h1)) <| .fin ((ARes.ret (AV.bool true), { boxes := [], toks := [], loops := [] : Heap })) rfl) (fun h1 => .no (show (decide ((40 : Int) < (↑l.length : Int))) = false from decide_eq_false (show ¬ ((40 : Int) < (↑l.length : Int)) from h1)) <| .cutQ k8_0 [(0, AV.sl SK.sh (List.map encN l)), (1, AV.str s), (5, AV.int IntKind.i64 (0 : Int))] ({ boxes := [], toks := [], loops := [] : Heap }) (fun T hT => (h (by omega) T hT)))) (by kernel_rfl)
end Go.Aa.T

set_option linter.unusedVariables false
set_option linter.unusedSimpArgs false
set_option maxRecDepth 100000
namespace Go.Aa.T
open Go.Aa Go.Proofs
theorem law8 (xs : List AV) (h : TyAll Tryz.prog 5 [89, 9] xs) (hz : SzAll Tryz.prog [89, 9] xs) : ∃ H', lim cfg (.fn 8) xs Heap.nil = some (.ret (.bool true), H') := by
  obtain ⟨x1, x2, rfl, h1, h2⟩ := tyall_2 h
  obtain ⟨l, rfl, -⟩ := ty89 (k := 0) h1
  obtain ⟨s, rfl, -⟩ := tyv_string Tryz.underlying9 h2
  exact (nodeRows l s).ret
end Go.Aa.T

set_option linter.unusedVariables false
set_option linter.unusedSimpArgs false
set_option maxRecDepth 100000
namespace Go.Aa.T
open Go.Aa Go.Proofs Go.RowKit Go.ChangeShapes Go.Proofs.YtppplbpilpjokaaGreatDoor
theorem star : "*" ++ "errors.errorString" = "*errors.errorString" := by decide
theorem rowES (u : TypeId) (h : Tryz.prog.typeName? 3 u = some "*errors.errorString") : u = 331 :=
  typeName_ptr_named (nm := "errors.errorString") (by rw [star]; kernel_rfl) (by kernel_rfl) (by decide) u (by rw [star]; exact h)
theorem var_heap {P : Program} {W : World} {n : String} {cs : Array Value} {g : Nat} (h : W.var? P n = some cs) (hg : P.globalNamed n = some g) : ∃ e m, W.heap[g]? = some (.cells cs e m) := by
  simp only [World.var?, hg, Option.bind_some] at h
  split at h
  · rename_i cs' e m hc
    cases h
    exact ⟨e, m, hc⟩
  · cases h
def laidL : List (String × DataW Unit) := Rows.podEdgesRow.laid
theorem pow_eq : (Rows.laid_internal_strconv_uint64pow10 : DataW Unit) = Lib.tabData .u64 Lib.pow10Tab := by kernel_rfl
theorem cellsES : Tryz.prog.cellsOf 333 = 1 := by kernel_rfl
theorem cellsS : Tryz.prog.cellsOf 9 = 1 := by kernel_rfl
theorem glob0Z {W : World} (h : laidMet Tryz.prog laidL W) : Glob0 Tryz.prog W := by
  have h2 := laidMet.tail (laidMet.tail h)
  have ht : Lib.TabIs Tryz.prog W "internal/strconv.uint64pow10" .u64 Lib.pow10Tab := by
    have h3 : laidMet Tryz.prog (("internal/strconv.uint64pow10", Rows.laid_internal_strconv_uint64pow10) :: _) W := h2
    rw [pow_eq] at h3
    exact Lib.tabIs_of_head (g := 1) (t := 303) (n := 20) (by kernel_rfl) (by kernel_rfl) Tryz.underlying303 Tryz.underlying282 (by kernel_rfl) (by kernel_rfl) h3
  have h4 := laidMet.tail (laidMet.tail h2)
  obtain ⟨a1, s1, hv1, -, -, -⟩ := laid_sentinel h4 (g := 5) (ti := 238) (tp := 331) (te := 333) (ts := 9) (by kernel_rfl) (by kernel_rfl) Tryz.underlying238 rowES Tryz.underlying331 Tryz.underlying333 rfl rfl Tryz.underlying9 cellsES cellsS
  have h5 := laidMet.tail h4
  obtain ⟨a2, s2, hv2, -, -, -⟩ := laid_sentinel h5 (g := 4) (ti := 238) (tp := 331) (te := 333) (ts := 9) (by kernel_rfl) (by kernel_rfl) Tryz.underlying238 rowES Tryz.underlying331 Tryz.underlying333 rfl rfl Tryz.underlying9 cellsES cellsS
  intro s hs g hg
  simp only [globSpec, List.mem_cons, List.not_mem_nil, or_false] at hs
  rcases hs with rfl | rfl | rfl
  · obtain ⟨e, m, hh⟩ := var_heap ht hg
    exact ⟨_, e, m, hh, rfl⟩
  · obtain ⟨e, m, hh⟩ := var_heap hv2 hg
    exact ⟨_, e, m, hh, _, _, rfl⟩
  · obtain ⟨e, m, hh⟩ := var_heap hv1 hg
    exact ⟨_, e, m, hh, _, _, rfl⟩
end Go.Aa.T
