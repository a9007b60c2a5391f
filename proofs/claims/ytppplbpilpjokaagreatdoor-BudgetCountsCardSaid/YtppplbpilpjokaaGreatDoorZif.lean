/-
  WHAT THE LAW LEANS ON, part 6 of 6: a machine of values and its soundness; the functions of the law upon it; what they come to.
-/
import Derived.Test.YtppplbpilpjokaaGreatDoorZie
import Derived.Test.YtppplbpilpjokaaGreatDoorRows
import Derived.Stop.LaidErr

set_option linter.unusedVariables false
set_option linter.unusedSimpArgs false
set_option maxRecDepth 100000
namespace Go.Aa.T
open Go.Aa Go.Proofs
def Counts (v : AV) (b : Bud) (c : Nat) (bs0 : List (List AV)) : Prop := ∀ (B : List (List AV)), (∃ ex, B = bs0 ++ ex) → B.all (·.all data0) = true →
    Does cfg (.call (.c (.func 21 [])) [.c (encB b), .c v]) ⟨B, [], []⟩ (.int .i64 (c : Nat)) ⟨B, [], []⟩
theorem counts_X (b : Bud) (l : List Pod) (kk : Nat) (bs0 : List (List AV)) (hk : bs0[kk]? = some (rowCells (l.map encPd))) (hn : l.length < 9223372036854775807) (hl : ∀ x ∈ l, x.labels.length < 9223372036854775807) (hb : b.sel.length < 9223372036854775807) : Counts (.msl kk 0 l.length 11) b (countB b l) bs0 := fun B hB hD => (count_X b l kk B (pre_at hB hk) hn hl hb hD).1
theorem does_data {g : FuncId} {xs : List AV} {v : AV} (h : Gives cfg g xs v) (zs : List AV) (hx : zs.map shutA = xs) (hd : xs.all isData = true) (h1 : shutA v = v) (h2 : isData v = true) (H : Heap) :
    Does cfg (.call (.c (.func g [])) (zs.map .c)) H v H ∧ Does cfg (.callM (.c (.func g [])) (zs.map .c)) H v H := by
  obtain ⟨H', h⟩ := h.ret
  constructor <;> intro T
  · have e : (zs.map Opd.c).map (fun x => shutA (ev T x)) = xs := by rw [List.map_map]; exact hx
    simp only [opStep, e]
    rw [show ev T (.c (.func g [])) = .func g [] from rfl]
    simp only [callV, hd, List.all_nil, Bool.and_self, if_true, List.append_nil, h, dataOut, h1, h2]
  · have e : (zs.map Opd.c).map (fun x => shutA (ev T x)) = xs := by rw [List.map_map]; exact hx
    simp only [opStep, e]
    rw [show ev T (.c (.func g [])) = .func g [] from rfl]
    simp only [callW, hd, List.all_nil, Bool.and_self, if_true, List.append_nil, h, h1, h2]
theorem does_XS {g : FuncId} {zs xs : List AV} {v : AV} {bs0 : List (List AV)} (h : ∃ r, lim cfg (.fn g) xs ⟨bs0, [], []⟩ = some r ∧ RetX v bs0 r) (hx : zs.map shutA = xs) (hd : xs.all isData = false) (hw : ∀ nb nt, within nb nt v = true) (hb : bs0.all (·.all data0) = true) :
    Does cfg (.callM (.c (.func g [])) (zs.map .c)) ⟨bs0, [], []⟩ v ⟨bs0, [], []⟩ := by
  obtain ⟨⟨a, b⟩, h, ⟨w, h1, h2⟩, ex, tk, h3⟩ := h
  simp only at h1 h3
  subst h1; subst h3
  have t := trunc_inX (ex := ex) (tk := tk) hw hb
  intro T
  have e : (zs.map Opd.c).map (fun x => shutA (ev T x)) = xs := by rw [List.map_map]; exact hx
  simp only [opStep, e]
  rw [show ev T (.c (.func g [])) = .func g [] from rfl]
  simp only [callW, hd, Bool.false_and, Bool.false_eq_true, if_false, List.append_nil, callE, h, h2]
  rw [show ([] : List Nat).length = 0 from rfl, t]
theorem br_X1 (a : AV) (kb : Nat) (bs0 : List (List AV)) (ex : List (List AV)) (tk : List Nat) (T : Env) (hT : Has T [(5, a), (8, .msl kb 0 1 3), (9, .int .i64 1), (10, .int .i64 1)]) :
    Goes cfg a28 k28_0 T ⟨bs0 ++ ex, tk, []⟩ (RetX (shutA a) bs0) := by
  exact goG 60 _  hT  (.ff <| .fin ((ARes.ret a, { boxes := bs0 ++ ex, toks := tk, loops := [] : Heap })) (by exact RetX.of rfl ⟨_, rfl⟩)) (by kernel_rfl)
theorem br_X0 (b : Bud) (kk n : Nat) (v : AV) (hv : v = .msl kk 0 n 11) (c kb : Nat) (bs0 : List (List AV)) (hkb : bs0[kb]? = some (encB b).cells) (hc : Counts v b c bs0) (hD : bs0.all (·.all data0) = true) (T : Env) (hT : Has T [(1, v), (5, .sl .full []), (8, .msl kb 0 1 3), (9, .int .i64 1), (10, .int .i64 0)]) :
    Goes cfg a28 k28_0 T ⟨bs0, [], []⟩ (RetX (.sl .sh (if (c : Int) < b.floor then [.str b.name] else [])) bs0) := by
  subst hv
  have hi : idxA 3 (.msl kb 0 1 3) (.int .i64 0) = some (.ptr kb 0) := rfl
  have lb := loadB (b := b) hkb
  have hc2 : ∀ (B : List (List AV)), (∃ ex, B = bs0 ++ ex) → B.all (·.all data0) = true → Does cfg (.call (.c (.func 21 [])) [.c (encB b), .c (.msl kk 0 n 11)]) ⟨B, [], []⟩ (.int .i64 (c : Nat)) ⟨B, [], []⟩ := hc
  have e1 := fun a ex tk T hT => br_X1 a kb bs0 ex tk T hT
  by_cases hq : (c : Int) < b.floor
  · rw [if_pos hq]
    exact goG 90 _  hT  (.tt <| .idx (show idxA (3 : Nat) (AV.msl kb (0 : Nat) (1 : Nat) (3 : Nat)) (AV.int IntKind.i64 (0 : Int)) = some (AV.ptr kb (0 : Nat)) from hi) <| .effY (show Does cfg (AOp.load true (3 : Nat) (Opd.c (AV.ptr kb (0 : Nat)))) { boxes := bs0, toks := [], loops := [] : Heap } (encB b) { boxes := bs0, toks := [], loops := [] : Heap } from lb _ (by exact ⟨[], by simp⟩)) <| .store (show storeA (3 : Nat) { boxes := bs0 ++ [[AV.str [], AV.sl SK.full [], AV.int IntKind.i64 (0 : Int)]], toks := [], loops := [] : Heap } (AV.ptr bs0.length (0 : Nat)) (AV.agg [AV.str b.name, AV.sl SK.sh (List.map encM b.sel), AV.int IntKind.i64 b.floor]) = some ({ boxes := bs0 ++ [[AV.str b.name, AV.sl SK.sh (List.map encM b.sel), AV.int IntKind.i64 b.floor]], toks := [], loops := [] : Heap }) from store_box2 (cs := [AV.str [], AV.sl SK.full [], AV.int IntKind.i64 (0 : Int)]) (cs' := [AV.str b.name, AV.sl SK.sh (List.map encM b.sel), AV.int IntKind.i64 b.floor]) (by simp) rfl (by simp [List.set_append])) <| .load (show loadA true (3 : Nat) { boxes := bs0 ++ [[AV.str b.name, AV.sl SK.sh (List.map encM b.sel), AV.int IntKind.i64 b.floor]], toks := [], loops := [] : Heap } (AV.ptr bs0.length (0 : Nat)) = some (AV.agg [AV.str b.name, AV.sl SK.sh (List.map encM b.sel), AV.int IntKind.i64 b.floor]) from load_box (cs := [AV.str b.name, AV.sl SK.sh (List.map encM b.sel), AV.int IntKind.i64 b.floor]) (by simp) rfl) <| .effC [AV.agg [AV.str b.name, AV.sl SK.sh (List.map encM b.sel), AV.int IntKind.i64 b.floor], AV.msl kk (0 : Nat) n (11 : Nat)] (show Does cfg (AOp.call (Opd.c (AV.func (21 : FuncId) [])) [Opd.c (encB b), Opd.c (AV.msl kk (0 : Nat) n (11 : Nat))]) { boxes := bs0 ++ [[AV.str b.name, AV.sl SK.sh (List.map encM b.sel), AV.int IntKind.i64 b.floor]], toks := [], loops := [] : Heap } (AV.int IntKind.i64 (↑c : Int)) { boxes := bs0 ++ [[AV.str b.name, AV.sl SK.sh (List.map encM b.sel), AV.int IntKind.i64 b.floor]], toks := [], loops := [] : Heap } from hc2 _ (by exact ⟨_, rfl⟩) (by exact dat_app hD rfl)) rfl <| .load (show loadA false (1 : Nat) { boxes := bs0 ++ [[AV.str b.name, AV.sl SK.sh (List.map encM b.sel), AV.int IntKind.i64 b.floor]], toks := [], loops := [] : Heap } (AV.ptr bs0.length (2 : Nat)) = some (AV.int IntKind.i64 b.floor) from load_box (cs := [AV.str b.name, AV.sl SK.sh (List.map encM b.sel), AV.int IntKind.i64 b.floor]) (by simp) rfl) <| .yes (show (decide ((↑c : Int) < b.floor)) = true from decide_eq_true (show (↑c : Int) < b.floor from (by exact hq))) <| .load (show loadA false (1 : Nat) { boxes := bs0 ++ [[AV.str b.name, AV.sl SK.sh (List.map encM b.sel), AV.int IntKind.i64 b.floor]], toks := [], loops := [] : Heap } (AV.ptr bs0.length (0 : Nat)) = some (AV.str b.name) from load_box (cs := [AV.str b.name, AV.sl SK.sh (List.map encM b.sel), AV.int IntKind.i64 b.floor]) (by simp) rfl) <| .append (show appendA (1 : Nat) (16 : Nat) { boxes := bs0 ++ [[AV.str b.name, AV.sl SK.sh (List.map encM b.sel), AV.int IntKind.i64 b.floor]], toks := [], loops := [] : Heap } (AV.sl SK.full []) (AV.sl SK.full [AV.str b.name]) = some ((AV.sl (SK.own (0 : Nat)) [AV.str b.name], { boxes := bs0 ++ [[AV.str b.name, AV.sl SK.sh (List.map encM b.sel), AV.int IntKind.i64 b.floor]], toks := [(1 : Nat)], loops := [] : Heap })) from rfl) <| .bin (show binA BinOp.add (AV.int IntKind.i64 (0 : Int)) (AV.int IntKind.i64 (1 : Int)) = some (AV.int IntKind.i64 ((0 : Int) + (1 : Int))) from inc_z (by omega)) <| .cutQ k28_0 [(5, AV.sl (SK.own (0 : Nat)) [AV.str b.name]), (8, AV.msl kb (0 : Nat) (1 : Nat) (3 : Nat)), (9, AV.int IntKind.i64 (1 : Int)), (10, AV.int IntKind.i64 ((0 : Int) + (1 : Int)))] ({ boxes := bs0 ++ [[AV.str b.name, AV.sl SK.sh (List.map encM b.sel), AV.int IntKind.i64 b.floor]], toks := [(1 : Nat)], loops := [] : Heap }) (fun T hT => (e1 (AV.sl (SK.own (0 : Nat)) [AV.str b.name]) ([[AV.str b.name, AV.sl SK.sh (List.map encM b.sel), AV.int IntKind.i64 b.floor]]) ([(1 : Nat)]) T hT))) (by kernel_rfl)
  · rw [if_neg hq]
    exact goG 90 _  hT  (.tt <| .idx (show idxA (3 : Nat) (AV.msl kb (0 : Nat) (1 : Nat) (3 : Nat)) (AV.int IntKind.i64 (0 : Int)) = some (AV.ptr kb (0 : Nat)) from hi) <| .effY (show Does cfg (AOp.load true (3 : Nat) (Opd.c (AV.ptr kb (0 : Nat)))) { boxes := bs0, toks := [], loops := [] : Heap } (encB b) { boxes := bs0, toks := [], loops := [] : Heap } from lb _ (by exact ⟨[], by simp⟩)) <| .store (show storeA (3 : Nat) { boxes := bs0 ++ [[AV.str [], AV.sl SK.full [], AV.int IntKind.i64 (0 : Int)]], toks := [], loops := [] : Heap } (AV.ptr bs0.length (0 : Nat)) (AV.agg [AV.str b.name, AV.sl SK.sh (List.map encM b.sel), AV.int IntKind.i64 b.floor]) = some ({ boxes := bs0 ++ [[AV.str b.name, AV.sl SK.sh (List.map encM b.sel), AV.int IntKind.i64 b.floor]], toks := [], loops := [] : Heap }) from store_box2 (cs := [AV.str [], AV.sl SK.full [], AV.int IntKind.i64 (0 : Int)]) (cs' := [AV.str b.name, AV.sl SK.sh (List.map encM b.sel), AV.int IntKind.i64 b.floor]) (by simp) rfl (by simp [List.set_append])) <| .load (show loadA true (3 : Nat) { boxes := bs0 ++ [[AV.str b.name, AV.sl SK.sh (List.map encM b.sel), AV.int IntKind.i64 b.floor]], toks := [], loops := [] : Heap } (AV.ptr bs0.length (0 : Nat)) = some (AV.agg [AV.str b.name, AV.sl SK.sh (List.map encM b.sel), AV.int IntKind.i64 b.floor]) from load_box (cs := [AV.str b.name, AV.sl SK.sh (List.map encM b.sel), AV.int IntKind.i64 b.floor]) (by simp) rfl) <| .effC [AV.agg [AV.str b.name, AV.sl SK.sh (List.map encM b.sel), AV.int IntKind.i64 b.floor], AV.msl kk (0 : Nat) n (11 : Nat)] (show Does cfg (AOp.call (Opd.c (AV.func (21 : FuncId) [])) [Opd.c (encB b), Opd.c (AV.msl kk (0 : Nat) n (11 : Nat))]) { boxes := bs0 ++ [[AV.str b.name, AV.sl SK.sh (List.map encM b.sel), AV.int IntKind.i64 b.floor]], toks := [], loops := [] : Heap } (AV.int IntKind.i64 (↑c : Int)) { boxes := bs0 ++ [[AV.str b.name, AV.sl SK.sh (List.map encM b.sel), AV.int IntKind.i64 b.floor]], toks := [], loops := [] : Heap } from hc2 _ (by exact ⟨_, rfl⟩) (by exact dat_app hD rfl)) rfl <| .load (show loadA false (1 : Nat) { boxes := bs0 ++ [[AV.str b.name, AV.sl SK.sh (List.map encM b.sel), AV.int IntKind.i64 b.floor]], toks := [], loops := [] : Heap } (AV.ptr bs0.length (2 : Nat)) = some (AV.int IntKind.i64 b.floor) from load_box (cs := [AV.str b.name, AV.sl SK.sh (List.map encM b.sel), AV.int IntKind.i64 b.floor]) (by simp) rfl) <| .no (show (decide ((↑c : Int) < b.floor)) = false from decide_eq_false (show ¬ ((↑c : Int) < b.floor) from (by exact hq))) <| .bin (show binA BinOp.add (AV.int IntKind.i64 (0 : Int)) (AV.int IntKind.i64 (1 : Int)) = some (AV.int IntKind.i64 ((0 : Int) + (1 : Int))) from inc_z (by omega)) <| .cutQ k28_0 [(5, AV.sl SK.full []), (8, AV.msl kb (0 : Nat) (1 : Nat) (3 : Nat)), (9, AV.int IntKind.i64 (1 : Int)), (10, AV.int IntKind.i64 ((0 : Int) + (1 : Int)))] ({ boxes := bs0 ++ [[AV.str b.name, AV.sl SK.sh (List.map encM b.sel), AV.int IntKind.i64 b.floor]], toks := [], loops := [] : Heap }) (fun T hT => (e1 (AV.sl SK.full []) ([[AV.str b.name, AV.sl SK.sh (List.map encM b.sel), AV.int IntKind.i64 b.floor]]) ([]) T hT))) (by kernel_rfl)
theorem br_X (b : Bud) (kk n : Nat) (c kb : Nat) (bs0 : List (List AV)) (hkb : bs0[kb]? = some (encB b).cells) (hc : Counts (.msl kk 0 n 11) b c bs0) (hD : bs0.all (·.all data0) = true) :
    Does cfg (.callM (.c (.func 28 [])) [.c (.msl kb 0 1 3), .c (.msl kk 0 n 11)]) ⟨bs0, [], []⟩ (.sl .sh (if (c : Int) < b.floor then [.str b.name] else [])) ⟨bs0, [], []⟩ := by
  have h := br_X0 b kk n _ rfl c kb bs0 hkb hc hD
  have key : Goes cfg a28 [.c c28] (initEnv [.msl kb 0 1 3, .msl kk 0 n 11]) ⟨bs0, [], []⟩ (RetX (.sl .sh (if (c : Int) < b.floor then [.str b.name] else [])) bs0) := by
    exact goG 90 []  trivial  (.len (show lenA false (AV.msl kb (0 : Nat) (1 : Nat) (3 : Nat)) = some (AV.int IntKind.i64 (↑(1 : Nat) : Int)) from rfl) <| .cutQ k28_0 [(1, AV.msl kk (0 : Nat) n (11 : Nat)), (5, AV.sl SK.full []), (8, AV.msl kb (0 : Nat) (1 : Nat) (3 : Nat)), (9, AV.int IntKind.i64 (↑(1 : Nat) : Int)), (10, AV.int IntKind.i64 (0 : Int))] ({ boxes := bs0, toks := [], loops := [] : Heap }) (fun T hT => (h T hT))) (by kernel_rfl)
  refine does_XS (zs := [.msl kb 0 1 3, .msl kk 0 n 11]) (xs := [.msl kb 0 1 3, .msl kk 0 n 11]) ?_ rfl rfl (fun _ _ => rfl) hD
  rw [l28]
  exact key
theorem al_X1 (kb : Nat) (bs0 : List (List AV)) (ex : List (List AV)) (T : Env) (hT : Has T [(20, .msl kb 0 1 3), (21, .int .i64 1), (22, .int .i64 1)]) :
    Goes cfg a25 k25_0 T ⟨bs0 ++ ex, [], []⟩ (RetX (.tuple [.str [], .bool true]) bs0) := by
  exact goG 60 _  hT  (.ff <| .fin ((ARes.ret (AV.tuple [AV.str [], AV.bool true]), { boxes := bs0 ++ ex, toks := [], loops := [] : Heap })) (by exact RetX.of rfl ⟨_, rfl⟩)) (by kernel_rfl)
theorem al_X0 (b : Bud) (kk n : Nat) (v : AV) (hv : v = .msl kk 0 n 11) (p : Pod) (c kb : Nat) (bs0 : List (List AV)) (hkb : bs0[kb]? = some (encB b).cells) (hc : Counts v b c bs0) (hp : Gives cfg 66 [encB b, encPd p] (.bool true)) (hD : bs0.all (·.all data0) = true) (T : Env) (hT : Has T [(1, v), (8, .ptr bs0.length 0), (20, .msl kb 0 1 3), (21, .int .i64 1), (22, .int .i64 0)]) :
    Goes cfg a25 k25_0 T ⟨bs0 ++ [(encPd p).cells], [], []⟩ (RetX (if (c : Int) ≤ b.floor then .tuple [.str b.name, .bool false] else .tuple [.str [], .bool true]) bs0) := by
  subst hv
  have hi : idxA 3 (.msl kb 0 1 3) (.int .i64 0) = some (.ptr kb 0) := rfl
  have lb := loadB (b := b) hkb
  have hc2 : ∀ (B : List (List AV)), (∃ ex, B = bs0 ++ ex) → B.all (·.all data0) = true → Does cfg (.call (.c (.func 21 [])) [.c (encB b), .c (.msl kk 0 n 11)]) ⟨B, [], []⟩ (.int .i64 (c : Nat)) ⟨B, [], []⟩ := hc
  have e1 := fun ex T hT => al_X1 kb bs0 ex T hT
  by_cases hq : (c : Int) ≤ b.floor
  · rw [if_pos hq]
    exact goG 120 _  hT  (.tt <| .idx (show idxA (3 : Nat) (AV.msl kb (0 : Nat) (1 : Nat) (3 : Nat)) (AV.int IntKind.i64 (0 : Int)) = some (AV.ptr kb (0 : Nat)) from hi) <| .effY (show Does cfg (AOp.load true (3 : Nat) (Opd.c (AV.ptr kb (0 : Nat)))) { boxes := bs0 ++ [[AV.str p.name, AV.str p.owner, AV.int IntKind.i64 p.prio, AV.sl SK.sh (List.map encA p.need), AV.sl SK.sh (List.map encP p.labels), AV.sl SK.sh (List.map encM p.sel), AV.sl SK.sh (List.map encL p.tols), AV.str p.key, AV.int IntKind.i64 p.most, AV.str p.node, AV.bool p.hold]], toks := [], loops := [] : Heap } (encB b) { boxes := bs0 ++ [[AV.str p.name, AV.str p.owner, AV.int IntKind.i64 p.prio, AV.sl SK.sh (List.map encA p.need), AV.sl SK.sh (List.map encP p.labels), AV.sl SK.sh (List.map encM p.sel), AV.sl SK.sh (List.map encL p.tols), AV.str p.key, AV.int IntKind.i64 p.most, AV.str p.node, AV.bool p.hold]], toks := [], loops := [] : Heap } from lb _ (by exact ⟨_, rfl⟩)) <| .store (show storeA (3 : Nat) { boxes := bs0 ++ [[AV.str p.name, AV.str p.owner, AV.int IntKind.i64 p.prio, AV.sl SK.sh (List.map encA p.need), AV.sl SK.sh (List.map encP p.labels), AV.sl SK.sh (List.map encM p.sel), AV.sl SK.sh (List.map encL p.tols), AV.str p.key, AV.int IntKind.i64 p.most, AV.str p.node, AV.bool p.hold]] ++ [[AV.str [], AV.sl SK.full [], AV.int IntKind.i64 (0 : Int)]], toks := [], loops := [] : Heap } (AV.ptr (bs0 ++ [[AV.str p.name, AV.str p.owner, AV.int IntKind.i64 p.prio, AV.sl SK.sh (List.map encA p.need), AV.sl SK.sh (List.map encP p.labels), AV.sl SK.sh (List.map encM p.sel), AV.sl SK.sh (List.map encL p.tols), AV.str p.key, AV.int IntKind.i64 p.most, AV.str p.node, AV.bool p.hold]]).length (0 : Nat)) (AV.agg [AV.str b.name, AV.sl SK.sh (List.map encM b.sel), AV.int IntKind.i64 b.floor]) = some ({ boxes := bs0 ++ [[AV.str p.name, AV.str p.owner, AV.int IntKind.i64 p.prio, AV.sl SK.sh (List.map encA p.need), AV.sl SK.sh (List.map encP p.labels), AV.sl SK.sh (List.map encM p.sel), AV.sl SK.sh (List.map encL p.tols), AV.str p.key, AV.int IntKind.i64 p.most, AV.str p.node, AV.bool p.hold], [AV.str b.name, AV.sl SK.sh (List.map encM b.sel), AV.int IntKind.i64 b.floor]], toks := [], loops := [] : Heap }) from store_box2 (cs := [AV.str [], AV.sl SK.full [], AV.int IntKind.i64 (0 : Int)]) (cs' := [AV.str b.name, AV.sl SK.sh (List.map encM b.sel), AV.int IntKind.i64 b.floor]) (by simp) rfl (by simp [List.set_append])) <| .load (show loadA true (3 : Nat) { boxes := bs0 ++ [[AV.str p.name, AV.str p.owner, AV.int IntKind.i64 p.prio, AV.sl SK.sh (List.map encA p.need), AV.sl SK.sh (List.map encP p.labels), AV.sl SK.sh (List.map encM p.sel), AV.sl SK.sh (List.map encL p.tols), AV.str p.key, AV.int IntKind.i64 p.most, AV.str p.node, AV.bool p.hold], [AV.str b.name, AV.sl SK.sh (List.map encM b.sel), AV.int IntKind.i64 b.floor]], toks := [], loops := [] : Heap } (AV.ptr (bs0 ++ [[AV.str p.name, AV.str p.owner, AV.int IntKind.i64 p.prio, AV.sl SK.sh (List.map encA p.need), AV.sl SK.sh (List.map encP p.labels), AV.sl SK.sh (List.map encM p.sel), AV.sl SK.sh (List.map encL p.tols), AV.str p.key, AV.int IntKind.i64 p.most, AV.str p.node, AV.bool p.hold]]).length (0 : Nat)) = some (AV.agg [AV.str b.name, AV.sl SK.sh (List.map encM b.sel), AV.int IntKind.i64 b.floor]) from load_box (cs := [AV.str b.name, AV.sl SK.sh (List.map encM b.sel), AV.int IntKind.i64 b.floor]) (by simp) rfl) <| .load (show loadA true (11 : Nat) { boxes := bs0 ++ [[AV.str p.name, AV.str p.owner, AV.int IntKind.i64 p.prio, AV.sl SK.sh (List.map encA p.need), AV.sl SK.sh (List.map encP p.labels), AV.sl SK.sh (List.map encM p.sel), AV.sl SK.sh (List.map encL p.tols), AV.str p.key, AV.int IntKind.i64 p.most, AV.str p.node, AV.bool p.hold], [AV.str b.name, AV.sl SK.sh (List.map encM b.sel), AV.int IntKind.i64 b.floor]], toks := [], loops := [] : Heap } (AV.ptr bs0.length (0 : Nat)) = some (AV.agg [AV.str p.name, AV.str p.owner, AV.int IntKind.i64 p.prio, AV.sl SK.sh (List.map encA p.need), AV.sl SK.sh (List.map encP p.labels), AV.sl SK.sh (List.map encM p.sel), AV.sl SK.sh (List.map encL p.tols), AV.str p.key, AV.int IntKind.i64 p.most, AV.str p.node, AV.bool p.hold]) from load_box (cs := [AV.str p.name, AV.str p.owner, AV.int IntKind.i64 p.prio, AV.sl SK.sh (List.map encA p.need), AV.sl SK.sh (List.map encP p.labels), AV.sl SK.sh (List.map encM p.sel), AV.sl SK.sh (List.map encL p.tols), AV.str p.key, AV.int IntKind.i64 p.most, AV.str p.node, AV.bool p.hold]) (by simp) rfl) <| .callG ([AV.agg [AV.str b.name, AV.sl SK.sh (List.map encM b.sel), AV.int IntKind.i64 b.floor], AV.agg [AV.str p.name, AV.str p.owner, AV.int IntKind.i64 p.prio, AV.sl SK.sh (List.map encA p.need), AV.sl SK.sh (List.map encP p.labels), AV.sl SK.sh (List.map encM p.sel), AV.sl SK.sh (List.map encL p.tols), AV.str p.key, AV.int IntKind.i64 p.most, AV.str p.node, AV.bool p.hold]]) (AV.bool true) (show Gives cfg (66 : FuncId) [encB b, encPd p] (AV.bool true) from hp) ⟨rfl, rfl⟩ ⟨rfl, rfl⟩ <| .tt <| .load (show loadA true (3 : Nat) { boxes := bs0 ++ [[AV.str p.name, AV.str p.owner, AV.int IntKind.i64 p.prio, AV.sl SK.sh (List.map encA p.need), AV.sl SK.sh (List.map encP p.labels), AV.sl SK.sh (List.map encM p.sel), AV.sl SK.sh (List.map encL p.tols), AV.str p.key, AV.int IntKind.i64 p.most, AV.str p.node, AV.bool p.hold], [AV.str b.name, AV.sl SK.sh (List.map encM b.sel), AV.int IntKind.i64 b.floor]], toks := [], loops := [] : Heap } (AV.ptr (bs0 ++ [[AV.str p.name, AV.str p.owner, AV.int IntKind.i64 p.prio, AV.sl SK.sh (List.map encA p.need), AV.sl SK.sh (List.map encP p.labels), AV.sl SK.sh (List.map encM p.sel), AV.sl SK.sh (List.map encL p.tols), AV.str p.key, AV.int IntKind.i64 p.most, AV.str p.node, AV.bool p.hold]]).length (0 : Nat)) = some (AV.agg [AV.str b.name, AV.sl SK.sh (List.map encM b.sel), AV.int IntKind.i64 b.floor]) from load_box (cs := [AV.str b.name, AV.sl SK.sh (List.map encM b.sel), AV.int IntKind.i64 b.floor]) (by simp) rfl) <| .effC [AV.agg [AV.str b.name, AV.sl SK.sh (List.map encM b.sel), AV.int IntKind.i64 b.floor], AV.msl kk (0 : Nat) n (11 : Nat)] (show Does cfg (AOp.call (Opd.c (AV.func (21 : FuncId) [])) [Opd.c (encB b), Opd.c (AV.msl kk (0 : Nat) n (11 : Nat))]) { boxes := bs0 ++ [[AV.str p.name, AV.str p.owner, AV.int IntKind.i64 p.prio, AV.sl SK.sh (List.map encA p.need), AV.sl SK.sh (List.map encP p.labels), AV.sl SK.sh (List.map encM p.sel), AV.sl SK.sh (List.map encL p.tols), AV.str p.key, AV.int IntKind.i64 p.most, AV.str p.node, AV.bool p.hold], [AV.str b.name, AV.sl SK.sh (List.map encM b.sel), AV.int IntKind.i64 b.floor]], toks := [], loops := [] : Heap } (AV.int IntKind.i64 (↑c : Int)) { boxes := bs0 ++ [[AV.str p.name, AV.str p.owner, AV.int IntKind.i64 p.prio, AV.sl SK.sh (List.map encA p.need), AV.sl SK.sh (List.map encP p.labels), AV.sl SK.sh (List.map encM p.sel), AV.sl SK.sh (List.map encL p.tols), AV.str p.key, AV.int IntKind.i64 p.most, AV.str p.node, AV.bool p.hold], [AV.str b.name, AV.sl SK.sh (List.map encM b.sel), AV.int IntKind.i64 b.floor]], toks := [], loops := [] : Heap } from hc2 _ (by exact ⟨_, rfl⟩) (by exact dat_app hD rfl)) rfl <| .load (show loadA false (1 : Nat) { boxes := bs0 ++ [[AV.str p.name, AV.str p.owner, AV.int IntKind.i64 p.prio, AV.sl SK.sh (List.map encA p.need), AV.sl SK.sh (List.map encP p.labels), AV.sl SK.sh (List.map encM p.sel), AV.sl SK.sh (List.map encL p.tols), AV.str p.key, AV.int IntKind.i64 p.most, AV.str p.node, AV.bool p.hold], [AV.str b.name, AV.sl SK.sh (List.map encM b.sel), AV.int IntKind.i64 b.floor]], toks := [], loops := [] : Heap } (AV.ptr (bs0 ++ [[AV.str p.name, AV.str p.owner, AV.int IntKind.i64 p.prio, AV.sl SK.sh (List.map encA p.need), AV.sl SK.sh (List.map encP p.labels), AV.sl SK.sh (List.map encM p.sel), AV.sl SK.sh (List.map encL p.tols), AV.str p.key, AV.int IntKind.i64 p.most, AV.str p.node, AV.bool p.hold]]).length (2 : Nat)) = some (AV.int IntKind.i64 b.floor) from load_box (cs := [AV.str b.name, AV.sl SK.sh (List.map encM b.sel), AV.int IntKind.i64 b.floor]) (by simp) rfl) <| .yes (show (decide ((↑c : Int) ≤ b.floor)) = true from decide_eq_true (show (↑c : Int) ≤ b.floor from (by exact hq))) <| .load (show loadA false (1 : Nat) { boxes := bs0 ++ [[AV.str p.name, AV.str p.owner, AV.int IntKind.i64 p.prio, AV.sl SK.sh (List.map encA p.need), AV.sl SK.sh (List.map encP p.labels), AV.sl SK.sh (List.map encM p.sel), AV.sl SK.sh (List.map encL p.tols), AV.str p.key, AV.int IntKind.i64 p.most, AV.str p.node, AV.bool p.hold], [AV.str b.name, AV.sl SK.sh (List.map encM b.sel), AV.int IntKind.i64 b.floor]], toks := [], loops := [] : Heap } (AV.ptr (bs0 ++ [[AV.str p.name, AV.str p.owner, AV.int IntKind.i64 p.prio, AV.sl SK.sh (List.map encA p.need), AV.sl SK.sh (List.map encP p.labels), AV.sl SK.sh (List.map encM p.sel), AV.sl SK.sh (List.map encL p.tols), AV.str p.key, AV.int IntKind.i64 p.most, AV.str p.node, AV.bool p.hold]]).length (0 : Nat)) = some (AV.str b.name) from load_box (cs := [AV.str b.name, AV.sl SK.sh (List.map encM b.sel), AV.int IntKind.i64 b.floor]) (by simp) rfl) <| .fin ((ARes.ret (AV.tuple [AV.str b.name, AV.bool false]), { boxes := bs0 ++ [[AV.str p.name, AV.str p.owner, AV.int IntKind.i64 p.prio, AV.sl SK.sh (List.map encA p.need), AV.sl SK.sh (List.map encP p.labels), AV.sl SK.sh (List.map encM p.sel), AV.sl SK.sh (List.map encL p.tols), AV.str p.key, AV.int IntKind.i64 p.most, AV.str p.node, AV.bool p.hold], [AV.str b.name, AV.sl SK.sh (List.map encM b.sel), AV.int IntKind.i64 b.floor]], toks := [], loops := [] : Heap })) (by exact RetX.of rfl ⟨_, rfl⟩)) (by kernel_rfl)
  · rw [if_neg hq]
    exact goG 120 _  hT  (.tt <| .idx (show idxA (3 : Nat) (AV.msl kb (0 : Nat) (1 : Nat) (3 : Nat)) (AV.int IntKind.i64 (0 : Int)) = some (AV.ptr kb (0 : Nat)) from hi) <| .effY (show Does cfg (AOp.load true (3 : Nat) (Opd.c (AV.ptr kb (0 : Nat)))) { boxes := bs0 ++ [[AV.str p.name, AV.str p.owner, AV.int IntKind.i64 p.prio, AV.sl SK.sh (List.map encA p.need), AV.sl SK.sh (List.map encP p.labels), AV.sl SK.sh (List.map encM p.sel), AV.sl SK.sh (List.map encL p.tols), AV.str p.key, AV.int IntKind.i64 p.most, AV.str p.node, AV.bool p.hold]], toks := [], loops := [] : Heap } (encB b) { boxes := bs0 ++ [[AV.str p.name, AV.str p.owner, AV.int IntKind.i64 p.prio, AV.sl SK.sh (List.map encA p.need), AV.sl SK.sh (List.map encP p.labels), AV.sl SK.sh (List.map encM p.sel), AV.sl SK.sh (List.map encL p.tols), AV.str p.key, AV.int IntKind.i64 p.most, AV.str p.node, AV.bool p.hold]], toks := [], loops := [] : Heap } from lb _ (by exact ⟨_, rfl⟩)) <| .store (show storeA (3 : Nat) { boxes := bs0 ++ [[AV.str p.name, AV.str p.owner, AV.int IntKind.i64 p.prio, AV.sl SK.sh (List.map encA p.need), AV.sl SK.sh (List.map encP p.labels), AV.sl SK.sh (List.map encM p.sel), AV.sl SK.sh (List.map encL p.tols), AV.str p.key, AV.int IntKind.i64 p.most, AV.str p.node, AV.bool p.hold]] ++ [[AV.str [], AV.sl SK.full [], AV.int IntKind.i64 (0 : Int)]], toks := [], loops := [] : Heap } (AV.ptr (bs0 ++ [[AV.str p.name, AV.str p.owner, AV.int IntKind.i64 p.prio, AV.sl SK.sh (List.map encA p.need), AV.sl SK.sh (List.map encP p.labels), AV.sl SK.sh (List.map encM p.sel), AV.sl SK.sh (List.map encL p.tols), AV.str p.key, AV.int IntKind.i64 p.most, AV.str p.node, AV.bool p.hold]]).length (0 : Nat)) (AV.agg [AV.str b.name, AV.sl SK.sh (List.map encM b.sel), AV.int IntKind.i64 b.floor]) = some ({ boxes := bs0 ++ [[AV.str p.name, AV.str p.owner, AV.int IntKind.i64 p.prio, AV.sl SK.sh (List.map encA p.need), AV.sl SK.sh (List.map encP p.labels), AV.sl SK.sh (List.map encM p.sel), AV.sl SK.sh (List.map encL p.tols), AV.str p.key, AV.int IntKind.i64 p.most, AV.str p.node, AV.bool p.hold], [AV.str b.name, AV.sl SK.sh (List.map encM b.sel), AV.int IntKind.i64 b.floor]], toks := [], loops := [] : Heap }) from store_box2 (cs := [AV.str [], AV.sl SK.full [], AV.int IntKind.i64 (0 : Int)]) (cs' := [AV.str b.name, AV.sl SK.sh (List.map encM b.sel), AV.int IntKind.i64 b.floor]) (by simp) rfl (by simp [List.set_append])) <| .load (show loadA true (3 : Nat) { boxes := bs0 ++ [[AV.str p.name, AV.str p.owner, AV.int IntKind.i64 p.prio, AV.sl SK.sh (List.map encA p.need), AV.sl SK.sh (List.map encP p.labels), AV.sl SK.sh (List.map encM p.sel), AV.sl SK.sh (List.map encL p.tols), AV.str p.key, AV.int IntKind.i64 p.most, AV.str p.node, AV.bool p.hold], [AV.str b.name, AV.sl SK.sh (List.map encM b.sel), AV.int IntKind.i64 b.floor]], toks := [], loops := [] : Heap } (AV.ptr (bs0 ++ [[AV.str p.name, AV.str p.owner, AV.int IntKind.i64 p.prio, AV.sl SK.sh (List.map encA p.need), AV.sl SK.sh (List.map encP p.labels), AV.sl SK.sh (List.map encM p.sel), AV.sl SK.sh (List.map encL p.tols), AV.str p.key, AV.int IntKind.i64 p.most, AV.str p.node, AV.bool p.hold]]).length (0 : Nat)) = some (AV.agg [AV.str b.name, AV.sl SK.sh (List.map encM b.sel), AV.int IntKind.i64 b.floor]) from load_box (cs := [AV.str b.name, AV.sl SK.sh (List.map encM b.sel), AV.int IntKind.i64 b.floor]) (by simp) rfl) <| .load (show loadA true (11 : Nat) { boxes := bs0 ++ [[AV.str p.name, AV.str p.owner, AV.int IntKind.i64 p.prio, AV.sl SK.sh (List.map encA p.need), AV.sl SK.sh (List.map encP p.labels), AV.sl SK.sh (List.map encM p.sel), AV.sl SK.sh (List.map encL p.tols), AV.str p.key, AV.int IntKind.i64 p.most, AV.str p.node, AV.bool p.hold], [AV.str b.name, AV.sl SK.sh (List.map encM b.sel), AV.int IntKind.i64 b.floor]], toks := [], loops := [] : Heap } (AV.ptr bs0.length (0 : Nat)) = some (AV.agg [AV.str p.name, AV.str p.owner, AV.int IntKind.i64 p.prio, AV.sl SK.sh (List.map encA p.need), AV.sl SK.sh (List.map encP p.labels), AV.sl SK.sh (List.map encM p.sel), AV.sl SK.sh (List.map encL p.tols), AV.str p.key, AV.int IntKind.i64 p.most, AV.str p.node, AV.bool p.hold]) from load_box (cs := [AV.str p.name, AV.str p.owner, AV.int IntKind.i64 p.prio, AV.sl SK.sh (List.map encA p.need), AV.sl SK.sh (List.map encP p.labels), AV.sl SK.sh (List.map encM p.sel), AV.sl SK.sh (List.map encL p.tols), AV.str p.key, AV.int IntKind.i64 p.most, AV.str p.node, AV.bool p.hold]) (by simp) rfl) <| .callG ([AV.agg [AV.str b.name, AV.sl SK.sh (List.map encM b.sel), AV.int IntKind.i64 b.floor], AV.agg [AV.str p.name, AV.str p.owner, AV.int IntKind.i64 p.prio, AV.sl SK.sh (List.map encA p.need), AV.sl SK.sh (List.map encP p.labels), AV.sl SK.sh (List.map encM p.sel), AV.sl SK.sh (List.map encL p.tols), AV.str p.key, AV.int IntKind.i64 p.most, AV.str p.node, AV.bool p.hold]]) (AV.bool true) (show Gives cfg (66 : FuncId) [encB b, encPd p] (AV.bool true) from hp) ⟨rfl, rfl⟩ ⟨rfl, rfl⟩ <| .tt <| .load (show loadA true (3 : Nat) { boxes := bs0 ++ [[AV.str p.name, AV.str p.owner, AV.int IntKind.i64 p.prio, AV.sl SK.sh (List.map encA p.need), AV.sl SK.sh (List.map encP p.labels), AV.sl SK.sh (List.map encM p.sel), AV.sl SK.sh (List.map encL p.tols), AV.str p.key, AV.int IntKind.i64 p.most, AV.str p.node, AV.bool p.hold], [AV.str b.name, AV.sl SK.sh (List.map encM b.sel), AV.int IntKind.i64 b.floor]], toks := [], loops := [] : Heap } (AV.ptr (bs0 ++ [[AV.str p.name, AV.str p.owner, AV.int IntKind.i64 p.prio, AV.sl SK.sh (List.map encA p.need), AV.sl SK.sh (List.map encP p.labels), AV.sl SK.sh (List.map encM p.sel), AV.sl SK.sh (List.map encL p.tols), AV.str p.key, AV.int IntKind.i64 p.most, AV.str p.node, AV.bool p.hold]]).length (0 : Nat)) = some (AV.agg [AV.str b.name, AV.sl SK.sh (List.map encM b.sel), AV.int IntKind.i64 b.floor]) from load_box (cs := [AV.str b.name, AV.sl SK.sh (List.map encM b.sel), AV.int IntKind.i64 b.floor]) (by simp) rfl) <| .effC [AV.agg [AV.str b.name, AV.sl SK.sh (List.map encM b.sel), AV.int IntKind.i64 b.floor], AV.msl kk (0 : Nat) n (11 : Nat)] (show Does cfg (AOp.call (Opd.c (AV.func (21 : FuncId) [])) [Opd.c (encB b), Opd.c (AV.msl kk (0 : Nat) n (11 : Nat))]) { boxes := bs0 ++ [[AV.str p.name, AV.str p.owner, AV.int IntKind.i64 p.prio, AV.sl SK.sh (List.map encA p.need), AV.sl SK.sh (List.map encP p.labels), AV.sl SK.sh (List.map encM p.sel), AV.sl SK.sh (List.map encL p.tols), AV.str p.key, AV.int IntKind.i64 p.most, AV.str p.node, AV.bool p.hold], [AV.str b.name, AV.sl SK.sh (List.map encM b.sel), AV.int IntKind.i64 b.floor]], toks := [], loops := [] : Heap } (AV.int IntKind.i64 (↑c : Int)) { boxes := bs0 ++ [[AV.str p.name, AV.str p.owner, AV.int IntKind.i64 p.prio, AV.sl SK.sh (List.map encA p.need), AV.sl SK.sh (List.map encP p.labels), AV.sl SK.sh (List.map encM p.sel), AV.sl SK.sh (List.map encL p.tols), AV.str p.key, AV.int IntKind.i64 p.most, AV.str p.node, AV.bool p.hold], [AV.str b.name, AV.sl SK.sh (List.map encM b.sel), AV.int IntKind.i64 b.floor]], toks := [], loops := [] : Heap } from hc2 _ (by exact ⟨_, rfl⟩) (by exact dat_app hD rfl)) rfl <| .load (show loadA false (1 : Nat) { boxes := bs0 ++ [[AV.str p.name, AV.str p.owner, AV.int IntKind.i64 p.prio, AV.sl SK.sh (List.map encA p.need), AV.sl SK.sh (List.map encP p.labels), AV.sl SK.sh (List.map encM p.sel), AV.sl SK.sh (List.map encL p.tols), AV.str p.key, AV.int IntKind.i64 p.most, AV.str p.node, AV.bool p.hold], [AV.str b.name, AV.sl SK.sh (List.map encM b.sel), AV.int IntKind.i64 b.floor]], toks := [], loops := [] : Heap } (AV.ptr (bs0 ++ [[AV.str p.name, AV.str p.owner, AV.int IntKind.i64 p.prio, AV.sl SK.sh (List.map encA p.need), AV.sl SK.sh (List.map encP p.labels), AV.sl SK.sh (List.map encM p.sel), AV.sl SK.sh (List.map encL p.tols), AV.str p.key, AV.int IntKind.i64 p.most, AV.str p.node, AV.bool p.hold]]).length (2 : Nat)) = some (AV.int IntKind.i64 b.floor) from load_box (cs := [AV.str b.name, AV.sl SK.sh (List.map encM b.sel), AV.int IntKind.i64 b.floor]) (by simp) rfl) <| .no (show (decide ((↑c : Int) ≤ b.floor)) = false from decide_eq_false (show ¬ ((↑c : Int) ≤ b.floor) from (by exact hq))) <| .bin (show binA BinOp.add (AV.int IntKind.i64 (0 : Int)) (AV.int IntKind.i64 (1 : Int)) = some (AV.int IntKind.i64 ((0 : Int) + (1 : Int))) from inc_z (by omega)) <| .cutQ k25_0 [(20, AV.msl kb (0 : Nat) (1 : Nat) (3 : Nat)), (21, AV.int IntKind.i64 (1 : Int)), (22, AV.int IntKind.i64 ((0 : Int) + (1 : Int)))] ({ boxes := bs0 ++ [[AV.str p.name, AV.str p.owner, AV.int IntKind.i64 p.prio, AV.sl SK.sh (List.map encA p.need), AV.sl SK.sh (List.map encP p.labels), AV.sl SK.sh (List.map encM p.sel), AV.sl SK.sh (List.map encL p.tols), AV.str p.key, AV.int IntKind.i64 p.most, AV.str p.node, AV.bool p.hold], [AV.str b.name, AV.sl SK.sh (List.map encM b.sel), AV.int IntKind.i64 b.floor]], toks := [], loops := [] : Heap }) (fun T hT => (e1 ([[AV.str p.name, AV.str p.owner, AV.int IntKind.i64 p.prio, AV.sl SK.sh (List.map encA p.need), AV.sl SK.sh (List.map encP p.labels), AV.sl SK.sh (List.map encM p.sel), AV.sl SK.sh (List.map encL p.tols), AV.str p.key, AV.int IntKind.i64 p.most, AV.str p.node, AV.bool p.hold], [AV.str b.name, AV.sl SK.sh (List.map encM b.sel), AV.int IntKind.i64 b.floor]]) T hT))) (by kernel_rfl)
theorem al_X (b : Bud) (l : List Pod) (p : Pod) (kk kb : Nat) (bs0 : List (List AV)) (hk : bs0[kk]? = some (rowCells (l.map encPd))) (hkb : bs0[kb]? = some (encB b).cells) (hn : l.length < 9223372036854775807) (hl : ∀ x ∈ l, x.labels.length < 9223372036854775807) (hb : b.sel.length < 9223372036854775807) (hf : findG Pod.name l p.name = some p) (hq : cntB b p = true) (hD : bs0.all (·.all data0) = true) :
    Does cfg (.callM (.c (.func 25 [])) [.c (.msl kb 0 1 3), .c (.msl kk 0 l.length 11), .c (.str p.name)]) ⟨bs0, [], []⟩ (if (countB b l : Int) ≤ b.floor then .tuple [.str b.name, .bool false] else .tuple [.str [], .bool true]) ⟨bs0, [], []⟩ := by
  have hc := counts_X b l kk bs0 hk hn hl hb
  have ff := find_X l p.name p kk bs0 hk hn hf hD
  have hp := cnt_any b p (hl p (findG_mem hf)) hb
  rw [hq] at hp
  have h := al_X0 b kk l.length _ rfl p (countB b l) kb bs0 hkb hc hp hD
  have key : Goes cfg a25 [.c c25] (initEnv [.msl kb 0 1 3, .msl kk 0 l.length 11, .str p.name]) ⟨bs0, [], []⟩ (RetX (if (countB b l : Int) ≤ b.floor then .tuple [.str b.name, .bool false] else .tuple [.str [], .bool true]) bs0) := by
    exact goG 120 []  trivial  (.effC [AV.msl kk (0 : Nat) l.length (11 : Nat), AV.str p.name] (show Does cfg (AOp.call (Opd.c (AV.func (48 : FuncId) [])) [Opd.c (AV.msl kk (0 : Nat) l.length (11 : Nat)), Opd.c (AV.str p.name)]) { boxes := bs0, toks := [], loops := [] : Heap } (AV.tuple [encPd p, AV.bool true]) { boxes := bs0, toks := [], loops := [] : Heap } from ff) rfl <| .store (show storeA (11 : Nat) { boxes := bs0 ++ [[AV.str [], AV.str [], AV.int IntKind.i64 (0 : Int), AV.sl SK.full [], AV.sl SK.full [], AV.sl SK.full [], AV.sl SK.full [], AV.str [], AV.int IntKind.i64 (0 : Int), AV.str [], AV.bool false]], toks := [], loops := [] : Heap } (AV.ptr bs0.length (0 : Nat)) (AV.agg [AV.str p.name, AV.str p.owner, AV.int IntKind.i64 p.prio, AV.sl SK.sh (List.map encA p.need), AV.sl SK.sh (List.map encP p.labels), AV.sl SK.sh (List.map encM p.sel), AV.sl SK.sh (List.map encL p.tols), AV.str p.key, AV.int IntKind.i64 p.most, AV.str p.node, AV.bool p.hold]) = some ({ boxes := bs0 ++ [[AV.str p.name, AV.str p.owner, AV.int IntKind.i64 p.prio, AV.sl SK.sh (List.map encA p.need), AV.sl SK.sh (List.map encP p.labels), AV.sl SK.sh (List.map encM p.sel), AV.sl SK.sh (List.map encL p.tols), AV.str p.key, AV.int IntKind.i64 p.most, AV.str p.node, AV.bool p.hold]], toks := [], loops := [] : Heap }) from store_box2 (cs := [AV.str [], AV.str [], AV.int IntKind.i64 (0 : Int), AV.sl SK.full [], AV.sl SK.full [], AV.sl SK.full [], AV.sl SK.full [], AV.str [], AV.int IntKind.i64 (0 : Int), AV.str [], AV.bool false]) (cs' := [AV.str p.name, AV.str p.owner, AV.int IntKind.i64 p.prio, AV.sl SK.sh (List.map encA p.need), AV.sl SK.sh (List.map encP p.labels), AV.sl SK.sh (List.map encM p.sel), AV.sl SK.sh (List.map encL p.tols), AV.str p.key, AV.int IntKind.i64 p.most, AV.str p.node, AV.bool p.hold]) (by simp) rfl (by simp [List.set_append])) <| .ff <| .len (show lenA false (AV.msl kb (0 : Nat) (1 : Nat) (3 : Nat)) = some (AV.int IntKind.i64 (↑(1 : Nat) : Int)) from rfl) <| .cutQ k25_0 [(1, AV.msl kk (0 : Nat) l.length (11 : Nat)), (8, AV.ptr bs0.length (0 : Nat)), (20, AV.msl kb (0 : Nat) (1 : Nat) (3 : Nat)), (21, AV.int IntKind.i64 (↑(1 : Nat) : Int)), (22, AV.int IntKind.i64 (0 : Int))] ({ boxes := bs0 ++ [[AV.str p.name, AV.str p.owner, AV.int IntKind.i64 p.prio, AV.sl SK.sh (List.map encA p.need), AV.sl SK.sh (List.map encP p.labels), AV.sl SK.sh (List.map encM p.sel), AV.sl SK.sh (List.map encL p.tols), AV.str p.key, AV.int IntKind.i64 p.most, AV.str p.node, AV.bool p.hold]], toks := [], loops := [] : Heap }) (fun T hT => (h T hT))) (by kernel_rfl)
  refine (does_X (xs := [.msl kb 0 1 3, .msl kk 0 l.length 11, .str p.name]) ?_ rfl rfl (fun _ _ => by split <;> rfl) hD).2
  rw [l25]
  exact key
end Go.Aa.T

set_option linter.unusedVariables false
set_option linter.unusedSimpArgs false
set_option maxRecDepth 100000
namespace Go.Aa.T
open Go.Aa Go.Proofs
theorem cell_at {es i d : Nat} {l : List AV} {x : AV} (h : l.all (elOk es) = true) (hx : l[i]? = some x) (hd : d < es) : (rowCells l)[i * es + d]? = x.cells[d]? ∧ i * es + d + 1 ≤ (rowCells l).length := by
  obtain ⟨h1, h2⟩ := cells_at h hx
  refine ⟨?_, by omega⟩
  rw [← h1, List.getElem?_take_of_lt hd, List.getElem?_drop]
theorem cells_set1 {es i d : Nat} {l : List AV} {x v s : AV} (h : l.all (elOk es) = true) (hx : l[i]? = some x) (hv : elOk es v = true) (hd : d < es) (hc : v.cells = x.cells.set d s) : (rowCells l).set (i * es + d) s = rowCells (l.set i v) := by
  have hi : i < l.length := by
    rcases Nat.lt_or_ge i l.length with h | h
    · exact h
    · rw [List.getElem?_eq_none h] at hx; cases hx
  obtain ⟨h1, h2⟩ := cells_at h hx
  have hcl := (el_cells hv).1
  rw [← cells_set h hv hi, paste_spec _ _ _ (by rw [hcl]; omega), hcl, hc, ← h1]
  generalize hw : rowCells l = w at *
  apply List.ext_getElem?
  intro q
  simp only [List.getElem?_set, List.getElem?_append, List.length_take, List.length_append, List.length_set, List.length_drop, List.getElem?_take, List.getElem?_drop]
  have b1 : min (i * es) w.length = i * es := by omega
  have b2 : min es (w.length - i * es) = es := by omega
  have b3 : i * es + d < w.length := by omega
  simp only [b1, b2]
  by_cases a1 : q < i * es
  · have a3 : ¬ i * es + d = q := by omega
    have a2 : q < i * es + es := by omega
    rw [if_neg a3, if_pos a2, if_pos a1, if_pos a1]
  · by_cases a2 : q < i * es + es
    · by_cases a3 : i * es + d = q
      · have a4 : d = q - i * es := by omega
        rw [if_pos a3, if_pos b3, if_pos a2, if_neg a1, if_pos a4, if_pos hd]
      · have a4 : ¬ d = q - i * es := by omega
        have a5 : q - i * es < es := by omega
        rw [if_neg a3, if_pos a2, if_neg a1, if_neg a4, if_pos a5]
        congr 1; omega
    · have a3 : ¬ i * es + d = q := by omega
      rw [if_neg a3, if_neg a2]
      congr 1; omega
theorem load1X {es i d kk : Nat} {l : List AV} {bs : List (List AV)} {x y : AV} (hk : bs[kk]? = some (rowCells l)) (h : l.all (elOk es) = true) (hx : l[i]? = some x) (hd : d < es) (hy : x.cells[d]? = some y) :
    Does cfg (.load false 1 (.c (.ptr kk (0 + i * es + d)))) ⟨bs, [], []⟩ y ⟨bs, [], []⟩ := fun T => by
  obtain ⟨h1, h2⟩ := cell_at h hx hd
  have : loadA false 1 ⟨bs, [], []⟩ (.ptr kk (0 + i * es + d)) = some y := by
    simp only [loadA, hk, Nat.zero_add]
    rw [if_pos h2]
    simp only [Bool.false_eq_true, if_false, if_true]
    rw [h1, hy]
  simp only [opStep, ev, this]
theorem store1X {es i d kk : Nat} {l : List AV} {bs : List (List AV)} {x v s : AV} (hk : bs[kk]? = some (rowCells l)) (h : l.all (elOk es) = true) (hx : l[i]? = some x) (hv : elOk es v = true) (hd : d < es) (hc : v.cells = x.cells.set d s) (hs : cellsN 1 s = true ∧ s.cells = [s] ∧ cellOk s = true) :
    Does cfg (.store 1 (.c (.ptr kk (0 + i * es + d))) (.c s)) ⟨bs, [], []⟩ .undef ⟨bs.set kk (rowCells (l.set i v)), [], []⟩ := fun T => by
  obtain ⟨h1, h2⟩ := cell_at h hx hd
  have : storeA 1 ⟨bs, [], []⟩ (.ptr kk (0 + i * es + d)) s = some ⟨bs.set kk (rowCells (l.set i v)), [], []⟩ := by
    simp only [storeA, hk, Nat.zero_add]
    rw [if_pos ⟨h2, hs.1, by rw [hs.2.1]; simp [hs.2.2], by decide⟩, hs.2.1]
    simp only [paste]
    rw [cells_set1 h hx hv hd hc]
  simp only [opStep, ev, this]
theorem growX {es b kk : Nat} {l : List AV} {v : AV} {sk : SK} {bs : List (List AV)} (hk : bs[kk]? = some (rowCells l)) (hl : l ≠ []) (h : l.all (elOk es) = true) (hd : dataOk l = true) (hv : elOk es v = true) (hvd : dataOk [v] = true) (hb : (l.length + 1) * b ≤ 140737488355328) :
    Does cfg (.appendM es b (.c (.msl kk 0 l.length es)) (.c (.sl sk [v]))) ⟨bs, [], []⟩ (.msl bs.length 0 (l.length + 1) es) ⟨bs.set kk [] ++ [rowCells (l ++ [v])], [], []⟩ := fun T => by
  have : appendMA es b ⟨bs, [], []⟩ (.msl kk 0 l.length es) (.sl sk [v]) = some (.msl bs.length 0 (l.length + 1) es, ⟨bs.set kk [] ++ [rowCells (l ++ [v])], [], []⟩) := by
    simp only [appendMA, hk]
    rw [if_pos ⟨trivial, trivial, by cases l with | nil => exact absurd rfl hl | cons => simp, (el_len h).1, cells_data hd, hb, by simp only [lenOk, List.all_cons, List.all_nil, Bool.and_true]; exact (el_cells hv).2, hvd⟩]
    simp [rowCells, List.flatMap_append]
  simp only [opStep, ev, this]
def lC (i : Nat) : List UInt8 := [UInt8.ofNat (97 + i)]
def nmC (i : Nat) : List UInt8 := [112] ++ lC i
def pdC (i : Nat) (nd : List UInt8) : Pod := ⟨nmC i, [], 0, [], [⟨[97, 112, 112], [119, 101, 98]⟩], [], [], [], 0, nd, false⟩
def bdC (f : Nat) : Bud := ⟨[98], [⟨1, [97, 112, 112], [119, 101, 98]⟩], f⟩
def ndC (k a g j : Nat) : List UInt8 := if j < a ∨ k ≤ j + g then [] else [110]
def podsC (k a g : Nat) : List Pod := (List.range k).map fun j => pdC j (ndC k a g j)
def podsI (a i : Nat) : List Pod := (List.range i).map fun j => pdC j (if j < a then [] else [110])
theorem cnt_pdC (f i : Nat) (nd : List UInt8) : cntB (bdC f) (pdC i nd) = !(nd == []) := by
  have : matchB [⟨[97, 112, 112], [119, 101, 98]⟩] [⟨1, [97, 112, 112], [119, 101, 98]⟩] = true := by kernel_rfl
  simp only [cntB, bdC, pdC, this, Bool.and_true, Bool.not_false]
theorem tab_count : ∀ k, k < 20 → ∀ a, a < 5 → ∀ g, g < 20 → (List.range k).countP (fun j => !(ndC k a g j == [])) = k - min k a - g := fun k hk a ha g hg => by
  have h1 := List.map_inj_left.1 (show (List.range 20).map (fun k => (List.range 5).map fun a => (List.range 20).map fun g => (List.range k).countP (fun j => !(ndC k a g j == []))) = (List.range 20).map (fun k => (List.range 5).map fun a => (List.range 20).map fun g => k - min k a - g) by kernel_rfl) k (List.mem_range.2 hk)
  have h2 := List.map_inj_left.1 h1 a (List.mem_range.2 ha)
  exact List.map_inj_left.1 h2 g (List.mem_range.2 hg)
theorem count_podsC {k a g f : Nat} (hk : k < 20) (ha : a < 5) (hg : g < 20) : countB (bdC f) (podsC k a g) = k - min k a - g := by
  rw [← tab_count k hk a ha g hg]
  simp only [countB, podsC, List.countP_map]
  exact List.countP_congr fun j _ => by simp only [Function.comp, cnt_pdC]
theorem tab_find : ∀ k, k < 20 → ∀ i, i < k → (List.range k).find? (fun j => nmC j == nmC i) = some i := fun k hk i hi => by
  have h1 := List.map_inj_left.1 (show (List.range 20).map (fun k => (List.range k).map fun i => (List.range k).find? (fun j => nmC j == nmC i)) = (List.range 20).map (fun k => (List.range k).map fun i => some i) by kernel_rfl) k (List.mem_range.2 hk)
  exact List.map_inj_left.1 h1 i (List.mem_range.2 hi)
theorem find_podsC {k a g i : Nat} (hk : k < 20) (hi : i < k) : findG Pod.name (podsC k a g) (nmC i) = some (pdC i (ndC k a g i)) := by
  have h := tab_find k hk i hi
  simp only [findG, podsC, List.find?_map]
  rw [show ((fun x => Pod.name x == nmC i) ∘ fun j => pdC j (ndC k a g j)) = fun j => nmC j == nmC i from rfl, h]
  rfl
theorem podsC_at {k a g i : Nat} (hi : i < k) : (podsC k a g)[i]? = some (pdC i (ndC k a g i)) := by simp [podsC, hi]
theorem podsC_len (k a g : Nat) : (podsC k a g).length = k := by simp [podsC]
theorem podsC_set {k a g i : Nat} (hi : i + g + 1 = k) : (podsC k a g).set i (pdC i []) = podsC k a (g + 1) := by
  apply List.ext_getElem
  · simp [podsC]
  · intro j h1 h2
    simp only [podsC, List.length_map, List.length_range] at h2
    rw [List.getElem_set]
    by_cases e : i = j
    · subst e
      rw [if_pos rfl]
      simp only [podsC, List.getElem_map, List.getElem_range, ndC]
      rw [if_pos (by omega)]
    · rw [if_neg e]
      simp only [podsC, List.getElem_map, List.getElem_range, ndC]
      congr 1
      by_cases c : j < a ∨ k ≤ j + g
      · rw [if_pos c, if_pos (by omega)]
      · rw [if_neg c, if_neg (by omega)]
theorem podsC_0 (k a : Nat) : podsC k a 0 = podsI a k := by
  simp only [podsC, podsI]
  refine List.map_congr_left fun j hj => ?_
  have := List.mem_range.1 hj
  simp only [ndC]
  congr 1
  by_cases c : j < a
  · rw [if_pos (by omega), if_pos c]
  · rw [if_neg (by omega), if_neg c]
theorem podsI_succ (a i : Nat) : podsI a (i + 1) = podsI a i ++ [pdC i (if i < a then [] else [110])] := by simp [podsI, List.range_succ]
theorem podsI_len (a i : Nat) : (podsI a i).length = i := by simp [podsI]
theorem podsC_lab {k a g : Nat} : ∀ x ∈ podsC k a g, x.labels.length < 9223372036854775807 := fun x hx => by
  obtain ⟨j, _, rfl⟩ := List.mem_map.1 hx
  show 1 < 9223372036854775807
  omega
theorem encPd_data (l : List Pod) : dataOk (l.map encPd) = true := dataOk_map fun _ => rfl
theorem bdC_sel (f : Nat) : (bdC f).sel.length < 9223372036854775807 := by show 1 < 9223372036854775807; omega
theorem cnv1 : ∀ i, i < 40 → convA (.int .u8) (.int .i64 (97 + ((i : Nat) : Int))) = some (.int .u8 (97 + ((i : Nat) : Int))) := fin40 (by kernel_rfl)
theorem cnv2 : ∀ i, i < 40 → convA .bytes (.sl .full [.int .u8 (97 + ((i : Nat) : Int))]) = some (.str (lC i)) := fin40 (by kernel_rfl)
end Go.Aa.T

set_option linter.unusedVariables false
set_option linter.unusedSimpArgs false
set_option maxRecDepth 100000
namespace Go.Aa.T
open Go.Aa Go.Proofs
theorem all_set {p : List AV → Bool} {l : List (List AV)} {k : Nat} {x : List AV} (h : l.all p = true) (hx : p x = true) : (l.set k x).all p = true := List.all_eq_true.2 fun y hy => by
  rcases List.mem_or_eq_of_mem_set hy with h' | rfl
  · exact List.all_eq_true.1 h y h'
  · exact hx
def StR (a i : Nat) (s : AV) (B : List (List AV)) : Prop := B.all (·.all data0) = true ∧ ((i = 0 ∧ s = .sl .full []) ∨ (0 < i ∧ ∃ kk, s = .msl kk 0 i 11 ∧ B[kk]? = some (rowCells ((podsI a i).map encPd))))
theorem bc_app {a i : Nat} {s : AV} {B : List (List AV)} (h : StR a i s B) (hi : i < 20) (nd : List UInt8) (hnd : nd = if i < a then [] else [110]) (pc : List AV) (hp : pc.all data0 = true) :
    ∃ s' B', Does cfg (.appendM 11 184 (.c s) (.c (.sl .full [encPd (pdC i nd)]))) ⟨B ++ [pc], [], []⟩ s' ⟨B', [], []⟩ ∧ StR a (i + 1) s' B' := by
  subst hnd
  obtain ⟨hD, h⟩ := h
  have hD2 : (B ++ [pc]).all (·.all data0) = true := dat_app hD (by simp [hp])
  generalize hv : pdC i (if i < a then [] else [110]) = v
  have hrow : podsI a (i + 1) = podsI a i ++ [v] := by rw [podsI_succ, hv]
  rcases h with ⟨rfl, rfl⟩ | ⟨h0, kk, rfl, hk⟩
  · refine ⟨.msl (B ++ [pc]).length 0 1 11, (B ++ [pc]) ++ [rowCells [encPd v]], fun T => ?_, dat_app hD2 rfl, .inr ⟨by omega, _, rfl, ?_⟩⟩
    · simp only [opStep, ev, appendMA]
      rw [if_pos ⟨trivial, trivial, (by show 1 * 184 ≤ 140737488355328; decide), rfl, rfl⟩]
      rfl
    · rw [hrow, List.getElem?_append_right (Nat.le_refl _), Nat.sub_self]
      rfl
  · have hk2 : (B ++ [pc])[kk]? = some (rowCells ((podsI a i).map encPd)) := pre_at ⟨[pc], rfl⟩ hk
    have g := growX (es := 11) (b := 184) (v := encPd v) (sk := .full) hk2 (by intro e; have := congrArg List.length e; simp [podsI_len] at this; omega) (encPd_el _) (encPd_data _) rfl rfl (by rw [List.length_map, podsI_len]; omega)
    rw [List.length_map, podsI_len] at g
    refine ⟨_, _, g, dat_app (all_set hD2 rfl) ?_, .inr ⟨by omega, _, rfl, ?_⟩⟩
    · rw [← List.map_singleton (f := encPd), ← List.map_append, ← hrow]
      simp [cells_data (encPd_data _)]
    · rw [List.getElem?_append_right (by simp), hrow]
      simp
def pcC (i : Nat) (nd : List UInt8) : List AV := [.str (nmC i), .str [], .int .i64 0, .sl .full [], .sl .full [.agg [.str [97, 112, 112], .str [119, 101, 98]]], .sl .full [], .sl .full [], .str [], .int .i64 0, .str nd, .bool false]
theorem bc_loop {k f away a : Nat} {R : ARes × Heap → Prop} (hk : k < 20) (ha : away % 5 = a) (hfin : ∀ (T : Env) (s : AV) (B : List (List AV)), StR a k s B → Has T [(2, .int .u8 away), (7, .int .i64 k), (8, .int .i64 f), (9, s), (10, .int .i64 k)] → Goes cfg a5 k5_0 T ⟨B, [], []⟩ R) : ∀ (d i : Nat), i + d = k → ∀ (T : Env) (s : AV) (B : List (List AV)), StR a i s B → Has T [(2, .int .u8 away), (7, .int .i64 k), (8, .int .i64 f), (9, s), (10, .int .i64 i)] → Goes cfg a5 k5_0 T ⟨B, [], []⟩ R := by
  intro d
  induction d with
  | zero =>
    intro i hi T s B hs hT
    have : i = k := by omega
    subst this
    exact hfin T s B hs hT
  | succ d ih =>
    intro i hi T s B hs hT
    have hlt : i < k := by omega
    have h3 := cnv1 i (by omega)
    have h4 := cnv2 i (by omega)
    have hadd : binA .add (.str [112]) (.str (lC i)) = some (.str (nmC i)) := str_add (by simp [lC])
    have rm : binA .rem (.int .u8 (away : Int)) (.int .u8 5) = some (.int .u8 (a : Int)) := by rw [← ha]; exact rem_nat (by decide)
    have ha5 : a < 5 := by omega
    have cv : convA (.int .i64) (.int .u8 (a : Int)) = some (.int .i64 (a : Int)) := conv_i64 (by omega)
    by_cases hia : i < a
    · obtain ⟨s', B', ap, hs'⟩ := bc_app hs (by omega) [] (by rw [if_pos hia]) (pcC i []) rfl
      have ap2 : Does cfg (.appendM 11 184 (.c s) (.c (.sl .full [(.agg [.str (nmC i), .str [], .int .i64 0, .sl .sh [], .sl .sh [.agg [.str [97, 112, 112], .str [119, 101, 98]]], .sl .sh [], .sl .sh [], .str [], .int .i64 0, .str [], .bool false])]))) ⟨B ++ [pcC i []], [], []⟩ s' ⟨B', [], []⟩ := ap
      have ih' := ih (i + 1) (by omega)
      have ih2 : ∀ T, Has T [(2, .int .u8 away), (7, .int .i64 k), (8, .int .i64 f), (9, s'), (10, .int .i64 ((i + 1 : Nat) : Int))] → Goes cfg a5 k5_0 T ⟨B', [], []⟩ R := fun T hT => ih' T s' B' hs' hT
      clear ih ih' hfin hs hs'
      clear ap
      simp only [pcC] at ap2
      generalize nmC i = nm at *
      generalize lC i = lc at *
      exact goG 90 _  hT  (.yes (show (decide ((↑i : Int) < (↑k : Int))) = true from decide_eq_true (show (↑i : Int) < (↑k : Int) from (by omega))) <| .bin (show binA BinOp.add (AV.int IntKind.i64 (97 : Int)) (AV.int IntKind.i64 (↑i : Int)) = some (AV.int IntKind.i64 ((97 : Int) + (↑i : Int))) from addI (by omega) (by omega)) <| .conv (show convA (CV.int IntKind.u8) (AV.int IntKind.i64 ((97 : Int) + (↑i : Int))) = some (AV.int IntKind.u8 ((97 : Int) + (↑i : Int))) from h3) <| .conv (show convA CV.bytes (AV.sl SK.full [AV.int IntKind.u8 ((97 : Int) + (↑i : Int))]) = some (AV.str lc) from h4) <| .bin (show binA BinOp.add (AV.str [(112 : UInt8)]) (AV.str lc) = some (AV.str nm) from hadd) <| .store (show storeA (11 : Nat) { boxes := B ++ [[AV.str [], AV.str [], AV.int IntKind.i64 (0 : Int), AV.sl SK.full [], AV.sl SK.full [], AV.sl SK.full [], AV.sl SK.full [], AV.str [], AV.int IntKind.i64 (0 : Int), AV.str [], AV.bool false]], toks := [], loops := [] : Heap } (AV.ptr B.length (0 : Nat)) (AV.agg [AV.str nm, AV.str [], AV.int IntKind.i64 (0 : Int), AV.sl SK.full [], AV.sl SK.full [AV.agg [AV.str [(97 : UInt8), (112 : UInt8), (112 : UInt8)], AV.str [(119 : UInt8), (101 : UInt8), (98 : UInt8)]]], AV.sl SK.full [], AV.sl SK.full [], AV.str [], AV.int IntKind.i64 (0 : Int), AV.str [(110 : UInt8)], AV.bool false]) = some ({ boxes := B ++ [[AV.str nm, AV.str [], AV.int IntKind.i64 (0 : Int), AV.sl SK.full [], AV.sl SK.full [AV.agg [AV.str [(97 : UInt8), (112 : UInt8), (112 : UInt8)], AV.str [(119 : UInt8), (101 : UInt8), (98 : UInt8)]]], AV.sl SK.full [], AV.sl SK.full [], AV.str [], AV.int IntKind.i64 (0 : Int), AV.str [(110 : UInt8)], AV.bool false]], toks := [], loops := [] : Heap }) from store_box2 (cs := [AV.str [], AV.str [], AV.int IntKind.i64 (0 : Int), AV.sl SK.full [], AV.sl SK.full [], AV.sl SK.full [], AV.sl SK.full [], AV.str [], AV.int IntKind.i64 (0 : Int), AV.str [], AV.bool false]) (cs' := [AV.str nm, AV.str [], AV.int IntKind.i64 (0 : Int), AV.sl SK.full [], AV.sl SK.full [AV.agg [AV.str [(97 : UInt8), (112 : UInt8), (112 : UInt8)], AV.str [(119 : UInt8), (101 : UInt8), (98 : UInt8)]]], AV.sl SK.full [], AV.sl SK.full [], AV.str [], AV.int IntKind.i64 (0 : Int), AV.str [(110 : UInt8)], AV.bool false]) (by simp) rfl (by simp [List.set_append])) <| .bin (show binA BinOp.rem (AV.int IntKind.u8 (↑away : Int)) (AV.int IntKind.u8 (5 : Int)) = some (AV.int IntKind.u8 (↑a : Int)) from rm) <| .conv (show convA (CV.int IntKind.i64) (AV.int IntKind.u8 (↑a : Int)) = some (AV.int IntKind.i64 (↑a : Int)) from cv) <| .yes (show (decide ((↑i : Int) < (↑a : Int))) = true from decide_eq_true (show (↑i : Int) < (↑a : Int) from (by omega))) <| .store (show storeA (1 : Nat) { boxes := B ++ [[AV.str nm, AV.str [], AV.int IntKind.i64 (0 : Int), AV.sl SK.full [], AV.sl SK.full [AV.agg [AV.str [(97 : UInt8), (112 : UInt8), (112 : UInt8)], AV.str [(119 : UInt8), (101 : UInt8), (98 : UInt8)]]], AV.sl SK.full [], AV.sl SK.full [], AV.str [], AV.int IntKind.i64 (0 : Int), AV.str [(110 : UInt8)], AV.bool false]], toks := [], loops := [] : Heap } (AV.ptr B.length (9 : Nat)) (AV.str []) = some ({ boxes := B ++ [[AV.str nm, AV.str [], AV.int IntKind.i64 (0 : Int), AV.sl SK.full [], AV.sl SK.full [AV.agg [AV.str [(97 : UInt8), (112 : UInt8), (112 : UInt8)], AV.str [(119 : UInt8), (101 : UInt8), (98 : UInt8)]]], AV.sl SK.full [], AV.sl SK.full [], AV.str [], AV.int IntKind.i64 (0 : Int), AV.str [], AV.bool false]], toks := [], loops := [] : Heap }) from store_box2 (cs := [AV.str nm, AV.str [], AV.int IntKind.i64 (0 : Int), AV.sl SK.full [], AV.sl SK.full [AV.agg [AV.str [(97 : UInt8), (112 : UInt8), (112 : UInt8)], AV.str [(119 : UInt8), (101 : UInt8), (98 : UInt8)]]], AV.sl SK.full [], AV.sl SK.full [], AV.str [], AV.int IntKind.i64 (0 : Int), AV.str [(110 : UInt8)], AV.bool false]) (cs' := [AV.str nm, AV.str [], AV.int IntKind.i64 (0 : Int), AV.sl SK.full [], AV.sl SK.full [AV.agg [AV.str [(97 : UInt8), (112 : UInt8), (112 : UInt8)], AV.str [(119 : UInt8), (101 : UInt8), (98 : UInt8)]]], AV.sl SK.full [], AV.sl SK.full [], AV.str [], AV.int IntKind.i64 (0 : Int), AV.str [], AV.bool false]) (by simp) rfl (by simp [List.set_append])) <| .load (show loadA true (11 : Nat) { boxes := B ++ [[AV.str nm, AV.str [], AV.int IntKind.i64 (0 : Int), AV.sl SK.full [], AV.sl SK.full [AV.agg [AV.str [(97 : UInt8), (112 : UInt8), (112 : UInt8)], AV.str [(119 : UInt8), (101 : UInt8), (98 : UInt8)]]], AV.sl SK.full [], AV.sl SK.full [], AV.str [], AV.int IntKind.i64 (0 : Int), AV.str [], AV.bool false]], toks := [], loops := [] : Heap } (AV.ptr B.length (0 : Nat)) = some (AV.agg [AV.str nm, AV.str [], AV.int IntKind.i64 (0 : Int), AV.sl SK.full [], AV.sl SK.full [AV.agg [AV.str [(97 : UInt8), (112 : UInt8), (112 : UInt8)], AV.str [(119 : UInt8), (101 : UInt8), (98 : UInt8)]]], AV.sl SK.full [], AV.sl SK.full [], AV.str [], AV.int IntKind.i64 (0 : Int), AV.str [], AV.bool false]) from load_box (cs := [AV.str nm, AV.str [], AV.int IntKind.i64 (0 : Int), AV.sl SK.full [], AV.sl SK.full [AV.agg [AV.str [(97 : UInt8), (112 : UInt8), (112 : UInt8)], AV.str [(119 : UInt8), (101 : UInt8), (98 : UInt8)]]], AV.sl SK.full [], AV.sl SK.full [], AV.str [], AV.int IntKind.i64 (0 : Int), AV.str [], AV.bool false]) (by simp) rfl) <| .effY (show Does cfg (AOp.appendM (11 : Nat) (184 : Nat) (Opd.c s) (Opd.c (AV.sl SK.full [AV.agg [AV.str nm, AV.str [], AV.int IntKind.i64 (0 : Int), AV.sl SK.sh [], AV.sl SK.sh [AV.agg [AV.str [(97 : UInt8), (112 : UInt8), (112 : UInt8)], AV.str [(119 : UInt8), (101 : UInt8), (98 : UInt8)]]], AV.sl SK.sh [], AV.sl SK.sh [], AV.str [], AV.int IntKind.i64 (0 : Int), AV.str [], AV.bool false]]))) { boxes := B ++ [[AV.str nm, AV.str [], AV.int IntKind.i64 (0 : Int), AV.sl SK.full [], AV.sl SK.full [AV.agg [AV.str [(97 : UInt8), (112 : UInt8), (112 : UInt8)], AV.str [(119 : UInt8), (101 : UInt8), (98 : UInt8)]]], AV.sl SK.full [], AV.sl SK.full [], AV.str [], AV.int IntKind.i64 (0 : Int), AV.str [], AV.bool false]], toks := [], loops := [] : Heap } s' { boxes := B', toks := [], loops := [] : Heap } from ap2) <| .bin (show binA BinOp.add (AV.int IntKind.i64 (↑i : Int)) (AV.int IntKind.i64 (1 : Int)) = some (AV.int IntKind.i64 (↑(i + (1 : Nat)) : Int)) from inc_i (by omega)) <| .cutQ k5_0 [(2, AV.int IntKind.u8 (↑away : Int)), (7, AV.int IntKind.i64 (↑k : Int)), (8, AV.int IntKind.i64 (↑f : Int)), (9, s'), (10, AV.int IntKind.i64 (↑(i + (1 : Nat)) : Int))] ({ boxes := B', toks := [], loops := [] : Heap }) (fun T hT => (ih2 T hT))) (by kernel_rfl)
    · obtain ⟨s', B', ap, hs'⟩ := bc_app hs (by omega) [110] (by rw [if_neg hia]) (pcC i [110]) rfl
      have ap2 : Does cfg (.appendM 11 184 (.c s) (.c (.sl .full [(.agg [.str (nmC i), .str [], .int .i64 0, .sl .sh [], .sl .sh [.agg [.str [97, 112, 112], .str [119, 101, 98]]], .sl .sh [], .sl .sh [], .str [], .int .i64 0, .str [110], .bool false])]))) ⟨B ++ [pcC i [110]], [], []⟩ s' ⟨B', [], []⟩ := ap
      have ih' := ih (i + 1) (by omega)
      have ih2 : ∀ T, Has T [(2, .int .u8 away), (7, .int .i64 k), (8, .int .i64 f), (9, s'), (10, .int .i64 ((i + 1 : Nat) : Int))] → Goes cfg a5 k5_0 T ⟨B', [], []⟩ R := fun T hT => ih' T s' B' hs' hT
      clear ih ih' hfin hs hs'
      clear ap
      simp only [pcC] at ap2
      generalize nmC i = nm at *
      generalize lC i = lc at *
      exact goG 90 _  hT  (.yes (show (decide ((↑i : Int) < (↑k : Int))) = true from decide_eq_true (show (↑i : Int) < (↑k : Int) from (by omega))) <| .bin (show binA BinOp.add (AV.int IntKind.i64 (97 : Int)) (AV.int IntKind.i64 (↑i : Int)) = some (AV.int IntKind.i64 ((97 : Int) + (↑i : Int))) from addI (by omega) (by omega)) <| .conv (show convA (CV.int IntKind.u8) (AV.int IntKind.i64 ((97 : Int) + (↑i : Int))) = some (AV.int IntKind.u8 ((97 : Int) + (↑i : Int))) from h3) <| .conv (show convA CV.bytes (AV.sl SK.full [AV.int IntKind.u8 ((97 : Int) + (↑i : Int))]) = some (AV.str lc) from h4) <| .bin (show binA BinOp.add (AV.str [(112 : UInt8)]) (AV.str lc) = some (AV.str nm) from hadd) <| .store (show storeA (11 : Nat) { boxes := B ++ [[AV.str [], AV.str [], AV.int IntKind.i64 (0 : Int), AV.sl SK.full [], AV.sl SK.full [], AV.sl SK.full [], AV.sl SK.full [], AV.str [], AV.int IntKind.i64 (0 : Int), AV.str [], AV.bool false]], toks := [], loops := [] : Heap } (AV.ptr B.length (0 : Nat)) (AV.agg [AV.str nm, AV.str [], AV.int IntKind.i64 (0 : Int), AV.sl SK.full [], AV.sl SK.full [AV.agg [AV.str [(97 : UInt8), (112 : UInt8), (112 : UInt8)], AV.str [(119 : UInt8), (101 : UInt8), (98 : UInt8)]]], AV.sl SK.full [], AV.sl SK.full [], AV.str [], AV.int IntKind.i64 (0 : Int), AV.str [(110 : UInt8)], AV.bool false]) = some ({ boxes := B ++ [[AV.str nm, AV.str [], AV.int IntKind.i64 (0 : Int), AV.sl SK.full [], AV.sl SK.full [AV.agg [AV.str [(97 : UInt8), (112 : UInt8), (112 : UInt8)], AV.str [(119 : UInt8), (101 : UInt8), (98 : UInt8)]]], AV.sl SK.full [], AV.sl SK.full [], AV.str [], AV.int IntKind.i64 (0 : Int), AV.str [(110 : UInt8)], AV.bool false]], toks := [], loops := [] : Heap }) from store_box2 (cs := [AV.str [], AV.str [], AV.int IntKind.i64 (0 : Int), AV.sl SK.full [], AV.sl SK.full [], AV.sl SK.full [], AV.sl SK.full [], AV.str [], AV.int IntKind.i64 (0 : Int), AV.str [], AV.bool false]) (cs' := [AV.str nm, AV.str [], AV.int IntKind.i64 (0 : Int), AV.sl SK.full [], AV.sl SK.full [AV.agg [AV.str [(97 : UInt8), (112 : UInt8), (112 : UInt8)], AV.str [(119 : UInt8), (101 : UInt8), (98 : UInt8)]]], AV.sl SK.full [], AV.sl SK.full [], AV.str [], AV.int IntKind.i64 (0 : Int), AV.str [(110 : UInt8)], AV.bool false]) (by simp) rfl (by simp [List.set_append])) <| .bin (show binA BinOp.rem (AV.int IntKind.u8 (↑away : Int)) (AV.int IntKind.u8 (5 : Int)) = some (AV.int IntKind.u8 (↑a : Int)) from rm) <| .conv (show convA (CV.int IntKind.i64) (AV.int IntKind.u8 (↑a : Int)) = some (AV.int IntKind.i64 (↑a : Int)) from cv) <| .no (show (decide ((↑i : Int) < (↑a : Int))) = false from decide_eq_false (show ¬ ((↑i : Int) < (↑a : Int)) from (by omega))) <| .load (show loadA true (11 : Nat) { boxes := B ++ [[AV.str nm, AV.str [], AV.int IntKind.i64 (0 : Int), AV.sl SK.full [], AV.sl SK.full [AV.agg [AV.str [(97 : UInt8), (112 : UInt8), (112 : UInt8)], AV.str [(119 : UInt8), (101 : UInt8), (98 : UInt8)]]], AV.sl SK.full [], AV.sl SK.full [], AV.str [], AV.int IntKind.i64 (0 : Int), AV.str [(110 : UInt8)], AV.bool false]], toks := [], loops := [] : Heap } (AV.ptr B.length (0 : Nat)) = some (AV.agg [AV.str nm, AV.str [], AV.int IntKind.i64 (0 : Int), AV.sl SK.full [], AV.sl SK.full [AV.agg [AV.str [(97 : UInt8), (112 : UInt8), (112 : UInt8)], AV.str [(119 : UInt8), (101 : UInt8), (98 : UInt8)]]], AV.sl SK.full [], AV.sl SK.full [], AV.str [], AV.int IntKind.i64 (0 : Int), AV.str [(110 : UInt8)], AV.bool false]) from load_box (cs := [AV.str nm, AV.str [], AV.int IntKind.i64 (0 : Int), AV.sl SK.full [], AV.sl SK.full [AV.agg [AV.str [(97 : UInt8), (112 : UInt8), (112 : UInt8)], AV.str [(119 : UInt8), (101 : UInt8), (98 : UInt8)]]], AV.sl SK.full [], AV.sl SK.full [], AV.str [], AV.int IntKind.i64 (0 : Int), AV.str [(110 : UInt8)], AV.bool false]) (by simp) rfl) <| .effY (show Does cfg (AOp.appendM (11 : Nat) (184 : Nat) (Opd.c s) (Opd.c (AV.sl SK.full [AV.agg [AV.str nm, AV.str [], AV.int IntKind.i64 (0 : Int), AV.sl SK.sh [], AV.sl SK.sh [AV.agg [AV.str [(97 : UInt8), (112 : UInt8), (112 : UInt8)], AV.str [(119 : UInt8), (101 : UInt8), (98 : UInt8)]]], AV.sl SK.sh [], AV.sl SK.sh [], AV.str [], AV.int IntKind.i64 (0 : Int), AV.str [(110 : UInt8)], AV.bool false]]))) { boxes := B ++ [[AV.str nm, AV.str [], AV.int IntKind.i64 (0 : Int), AV.sl SK.full [], AV.sl SK.full [AV.agg [AV.str [(97 : UInt8), (112 : UInt8), (112 : UInt8)], AV.str [(119 : UInt8), (101 : UInt8), (98 : UInt8)]]], AV.sl SK.full [], AV.sl SK.full [], AV.str [], AV.int IntKind.i64 (0 : Int), AV.str [(110 : UInt8)], AV.bool false]], toks := [], loops := [] : Heap } s' { boxes := B', toks := [], loops := [] : Heap } from ap2) <| .bin (show binA BinOp.add (AV.int IntKind.i64 (↑i : Int)) (AV.int IntKind.i64 (1 : Int)) = some (AV.int IntKind.i64 (↑(i + (1 : Nat)) : Int)) from inc_i (by omega)) <| .cutQ k5_0 [(2, AV.int IntKind.u8 (↑away : Int)), (7, AV.int IntKind.i64 (↑k : Int)), (8, AV.int IntKind.i64 (↑f : Int)), (9, s'), (10, AV.int IntKind.i64 (↑(i + (1 : Nat)) : Int))] ({ boxes := B', toks := [], loops := [] : Heap }) (fun T hT => (ih2 T hT))) (by kernel_rfl)

def dI : Nat → AV
  | 0 => .int .i64 (-1)
  | m + 1 => .int .i64 m
theorem dI_sub {m : Nat} (h : m < 100) : binA .sub (.int .i64 (m : Int)) (.int .i64 1) = some (dI m) := by
  cases m with
  | zero => rfl
  | succ m => exact dec_i (by omega)
structure StL (k a f g kk kb : Nat) (B : List (List AV)) : Prop where
  dat : B.all (·.all data0) = true
  row : B[kk]? = some (rowCells ((podsC k a g).map encPd))
  bud : B[kb]? = some (encB (bdC f)).cells
  ne : kk ≠ kb
theorem stL_count {k a f g kk kb : Nat} {B : List (List AV)} (h : StL k a f g kk kb B) (hk : k < 20) (ha : a < 5) (hg : g < 20) :
    Does cfg (.callM (.c (.func 21 [])) [.c (encB (bdC f)), .c (.msl kk 0 k 11)]) ⟨B, [], []⟩ (.int .i64 ((k - min k a - g : Nat) : Int)) ⟨B, [], []⟩ := by
  have := (count_X (bdC f) (podsC k a g) kk B h.row (by rw [podsC_len]; omega) podsC_lab (bdC_sel f) h.dat).2
  rw [podsC_len, count_podsC hk ha hg] at this
  exact this
theorem stL_out {k a f g kk kb i : Nat} {B : List (List AV)} (h : StL k a f g kk kb B) (hi : i + g + 1 = k) (ha : a ≤ i) :
    ∃ B', Does cfg (.store 1 (.c (.ptr kk (0 + i * 11 + 9))) (.c (.str []))) ⟨B, [], []⟩ .undef ⟨B', [], []⟩ ∧ StL k a f (g + 1) kk kb B' := by
  have hx : ((podsC k a g).map encPd)[i]? = some (encPd (pdC i [110])) := by
    rw [List.getElem?_map, podsC_at (by omega)]
    simp only [ndC]
    rw [if_neg (by omega)]
    rfl
  refine ⟨_, store1X (es := 11) (d := 9) (v := encPd (pdC i [])) h.row (encPd_el _) hx rfl (by decide) rfl ⟨rfl, rfl, rfl⟩, ?_, ?_, ?_, h.ne⟩
  · refine all_set h.dat ?_
    rw [← List.map_set, podsC_set hi]
    exact cells_data (encPd_data _)
  · rw [List.getElem?_set_self (by
      rcases Nat.lt_or_ge kk B.length with h' | h'
      · exact h'
      · have := h.row; rw [List.getElem?_eq_none h'] at this; cases this), ← List.map_set, podsC_set hi]
  · rw [List.getElem?_set_ne h.ne]; exact h.bud
theorem bc_end {on f g kb : Nat} {s : AV} {B : List (List AV)} (ho : on < 100) (hf : f < 24) (hb : B[kb]? = some (encB (bdC f)).cells) (hg : g = on - f) (ct : Does cfg (.callM (.c (.func 21 [])) [.c (encB (bdC f)), .c s]) ⟨B, [], []⟩ (.int .i64 ((on - g : Nat) : Int)) ⟨B, [], []⟩) (T : Env) (hT : Has T [(8, .int .i64 f), (9, s), (12, .msl kb 0 1 3), (13, .int .i64 (on : Int)), (14, .int .i64 g), (15, dI 0)]) : Goes cfg a5 k5_1 T ⟨B, [], []⟩ (IsRet (.bool true)) := by
  have i0 : idxA 3 (.msl kb 0 1 3) (.int .i64 0) = some (.ptr kb 0) := rfl
  have lb := loadB (b := bdC f) hb B ⟨[], by simp⟩
  have s1 : binA .sub (.int .i64 (on : Int)) (.int .i64 f) = some (.int .i64 ((on : Int) - f)) := subI (by omega) (by omega)
  have mx : mmA true (.int .i64 0) (.int .i64 ((on : Int) - f)) = some (.int .i64 g) := by
    have : (if ((on : Int) - f) > 0 then ((on : Int) - f) else 0) = (g : Int) := by split <;> omega
    simp only [mmA, if_true, this]
  have s2 : binA .sub (.int .i64 (on : Int)) (.int .i64 g) = some (.int .i64 ((on - g : Nat) : Int)) := by
    rw [subI (by omega) (by omega)]; congr 2; omega
  generalize encB (bdC f) = eb at *
  have hT' : Has T [(8, .int .i64 f), (9, s), (12, .msl kb 0 1 3), (13, .int .i64 (on : Int)), (14, .int .i64 g), (15, .int .i64 (-1))] := hT
  exact goG 90 _  hT'  (.ff <| .bin (show binA BinOp.sub (AV.int IntKind.i64 (↑on : Int)) (AV.int IntKind.i64 (↑f : Int)) = some (AV.int IntKind.i64 ((↑on : Int) - (↑f : Int))) from s1) <| .split (((↑g : Int) == if true = true then if (↑on : Int) - (↑f : Int) > (0 : Int) then (↑on : Int) - (↑f : Int) else (0 : Int) else if (↑on : Int) - (↑f : Int) < (0 : Int) then (↑on : Int) - (↑f : Int) else (0 : Int)) = true) (fun h1 => .yes (show ((↑g : Int) == if true = true then if (↑on : Int) - (↑f : Int) > (0 : Int) then (↑on : Int) - (↑f : Int) else (0 : Int) else if (↑on : Int) - (↑f : Int) < (0 : Int) then (↑on : Int) - (↑f : Int) else (0 : Int)) = true from h1) <| .idx (show idxA (3 : Nat) (AV.msl kb (0 : Nat) (1 : Nat) (3 : Nat)) (AV.int IntKind.i64 (0 : Int)) = some (AV.ptr kb (0 : Nat)) from i0) <| .effY (show Does cfg (AOp.load true (3 : Nat) (Opd.c (AV.ptr kb (0 : Nat)))) { boxes := B, toks := [], loops := [] : Heap } eb { boxes := B, toks := [], loops := [] : Heap } from lb) <| .effY (show Does cfg (AOp.callM (Opd.c (AV.func (21 : FuncId) [])) [Opd.c eb, Opd.c s]) { boxes := B, toks := [], loops := [] : Heap } (AV.int IntKind.i64 (↑(on - g) : Int)) { boxes := B, toks := [], loops := [] : Heap } from ct) <| .bin (show binA BinOp.sub (AV.int IntKind.i64 (↑on : Int)) (AV.int IntKind.i64 (↑g : Int)) = some (AV.int IntKind.i64 (↑(on - g) : Int)) from s2) <| .fin ((ARes.ret (AV.bool ((↑(on - g) : Int) == (↑(on - g) : Int))), { boxes := B, toks := [], loops := [] : Heap })) (by simp only [IsRet, beq_self_eq_true])) (fun h1 => .no (show ((↑g : Int) == if true = true then if (↑on : Int) - (↑f : Int) > (0 : Int) then (↑on : Int) - (↑f : Int) else (0 : Int) else if (↑on : Int) - (↑f : Int) < (0 : Int) then (↑on : Int) - (↑f : Int) else (0 : Int)) = false from Bool.eq_false_iff.2 (show ¬ (((↑g : Int) == if true = true then if (↑on : Int) - (↑f : Int) > (0 : Int) then (↑on : Int) - (↑f : Int) else (0 : Int) else if (↑on : Int) - (↑f : Int) < (0 : Int) then (↑on : Int) - (↑f : Int) else (0 : Int)) = true) from h1)) <| .fin ((ARes.ret (AV.bool false), { boxes := B, toks := [], loops := [] : Heap })) (by exact absurd (by rw [beq_iff_eq, if_pos rfl]; split <;> omega) h1))) (by kernel_rfl)
theorem bc_loop2 {k f a kk kb : Nat} (hk : k < 20) (ha : a < 5) (hf : f < 24) : ∀ (m : Nat), m ≤ k → ∀ (g : Nat) (T : Env) (B : List (List AV)), StL k a f g kk kb B → g = min (k - max m (min k a)) (k - min k a - f) → Has T [(8, .int .i64 f), (9, .msl kk 0 k 11), (12, .msl kb 0 1 3), (13, .int .i64 ((k - min k a : Nat) : Int)), (14, .int .i64 g), (15, dI m)] → Goes cfg a5 k5_1 T ⟨B, [], []⟩ (IsRet (.bool true)) := by
  intro m
  induction m with
  | zero =>
    intro hm g T B hs hg hT
    exact bc_end (by omega) hf hs.bud (by omega) (stL_count hs hk ha (by omega)) T hT
  | succ m ih =>
    intro hm g T B hs hg hT
    have hi : idxA 11 (.msl kk 0 k 11) (.int .i64 (m : Nat)) = some (.ptr kk (0 + m * 11)) := idx_msl (by omega)
    have hx : ((podsC k a g).map encPd)[m]? = some (encPd (pdC m (ndC k a g m))) := by rw [List.getElem?_map, podsC_at (by omega)]; rfl
    have l9 : Does cfg (.load false 1 (.c (.ptr kk (0 + m * 11 + 9)))) ⟨B, [], []⟩ (.str (ndC k a g m)) ⟨B, [], []⟩ := load1X hs.row (encPd_el _) hx (by decide) rfl
    have sb : binA .sub (.int .i64 (m : Int)) (.int .i64 1) = some (dI m) := dI_sub (by omega)
    by_cases hma : m < a
    · have e : ndC k a g m = [] := by simp only [ndC]; rw [if_pos (.inl hma)]
      rw [e] at l9
      have ih' := fun T => ih (by omega) g T B hs (by omega)
      clear ih
      have hT' : Has T [(8, .int .i64 f), (9, .msl kk 0 k 11), (12, .msl kb 0 1 3), (13, .int .i64 ((k - min k a : Nat) : Int)), (14, .int .i64 g), (15, .int .i64 (m : Int))] := hT
      generalize dI m = dm at *
      generalize k - min k a = on at *
      exact goG 90 _  hT'  (.tt <| .idx (show idxA (11 : Nat) (AV.msl kk (0 : Nat) k (11 : Nat)) (AV.int IntKind.i64 (↑m : Int)) = some (AV.ptr kk ((0 : Nat) + m * (11 : Nat))) from hi) <| .effY (show Does cfg (AOp.load false (1 : Nat) (Opd.c (AV.ptr kk ((0 : Nat) + m * (11 : Nat) + (9 : Nat))))) { boxes := B, toks := [], loops := [] : Heap } (AV.str []) { boxes := B, toks := [], loops := [] : Heap } from l9) <| .tt <| .bin (show binA BinOp.sub (AV.int IntKind.i64 (↑m : Int)) (AV.int IntKind.i64 (1 : Int)) = some (dm) from sb) <| .cutQ k5_1 [(8, AV.int IntKind.i64 (↑f : Int)), (9, AV.msl kk (0 : Nat) k (11 : Nat)), (12, AV.msl kb (0 : Nat) (1 : Nat) (3 : Nat)), (13, AV.int IntKind.i64 (↑on : Int)), (14, AV.int IntKind.i64 (↑g : Int)), (15, dm)] ({ boxes := B, toks := [], loops := [] : Heap }) (fun T hT => (ih' T hT))) (by kernel_rfl)
    · have e : ndC k a g m = [110] := by simp only [ndC]; rw [if_neg (by omega)]
      rw [e] at l9
      have l0 : Does cfg (.load false 1 (.c (.ptr kk (0 + m * 11)))) ⟨B, [], []⟩ (.str (nmC m)) ⟨B, [], []⟩ := load1X (d := 0) hs.row (encPd_el _) hx (by decide) rfl
      have hfind := find_podsC (k := k) (a := a) (g := g) (i := m) hk (by omega)
      have al0 := al_X (bdC f) (podsC k a g) (pdC m (ndC k a g m)) kk kb B hs.row hs.bud (by rw [podsC_len]; omega) podsC_lab (bdC_sel f) hfind (by rw [cnt_pdC, e]; rfl) hs.dat
      rw [podsC_len, count_podsC hk ha (by omega)] at al0
      have al : Does cfg (.callM (.c (.func 25 [])) [.c (.msl kb 0 1 3), .c (.msl kk 0 k 11), .c (.str (nmC m))]) ⟨B, [], []⟩ (if ((k - min k a - g : Nat) : Int) ≤ (f : Int) then .tuple [.str [98], .bool false] else .tuple [.str [], .bool true]) ⟨B, [], []⟩ := al0
      clear al0
      have hT' : Has T [(8, .int .i64 f), (9, .msl kk 0 k 11), (12, .msl kb 0 1 3), (13, .int .i64 ((k - min k a : Nat) : Int)), (14, .int .i64 g), (15, .int .i64 (m : Int))] := hT
      by_cases hc : ((k - min k a - g : Nat) : Int) ≤ (f : Int)
      · rw [if_pos hc] at al
        have ih' := fun T => ih (by omega) g T B hs (by omega)
        clear ih
        generalize dI m = dm at *
        generalize nmC m = nm at *
        generalize k - min k a = on at *
        exact goG 90 _  hT'  (.tt <| .idx (show idxA (11 : Nat) (AV.msl kk (0 : Nat) k (11 : Nat)) (AV.int IntKind.i64 (↑m : Int)) = some (AV.ptr kk ((0 : Nat) + m * (11 : Nat))) from hi) <| .effY (show Does cfg (AOp.load false (1 : Nat) (Opd.c (AV.ptr kk ((0 : Nat) + m * (11 : Nat) + (9 : Nat))))) { boxes := B, toks := [], loops := [] : Heap } (AV.str [(110 : UInt8)]) { boxes := B, toks := [], loops := [] : Heap } from l9) <| .ff <| .idx (show idxA (11 : Nat) (AV.msl kk (0 : Nat) k (11 : Nat)) (AV.int IntKind.i64 (↑m : Int)) = some (AV.ptr kk ((0 : Nat) + m * (11 : Nat))) from hi) <| .effY (show Does cfg (AOp.load false (1 : Nat) (Opd.c (AV.ptr kk ((0 : Nat) + m * (11 : Nat))))) { boxes := B, toks := [], loops := [] : Heap } (AV.str nm) { boxes := B, toks := [], loops := [] : Heap } from l0) <| .effCM [AV.msl kb (0 : Nat) (1 : Nat) (3 : Nat), AV.msl kk (0 : Nat) k (11 : Nat), AV.str nm] (show Does cfg (AOp.callM (Opd.c (AV.func (25 : FuncId) [])) [Opd.c (AV.msl kb (0 : Nat) (1 : Nat) (3 : Nat)), Opd.c (AV.msl kk (0 : Nat) k (11 : Nat)), Opd.c (AV.str nm)]) { boxes := B, toks := [], loops := [] : Heap } (AV.tuple [AV.str [(98 : UInt8)], AV.bool false]) { boxes := B, toks := [], loops := [] : Heap } from al) rfl <| .ff <| .bin (show binA BinOp.sub (AV.int IntKind.i64 (↑m : Int)) (AV.int IntKind.i64 (1 : Int)) = some (dm) from sb) <| .cutQ k5_1 [(8, AV.int IntKind.i64 (↑f : Int)), (9, AV.msl kk (0 : Nat) k (11 : Nat)), (12, AV.msl kb (0 : Nat) (1 : Nat) (3 : Nat)), (13, AV.int IntKind.i64 (↑on : Int)), (14, AV.int IntKind.i64 (↑g : Int)), (15, dm)] ({ boxes := B, toks := [], loops := [] : Heap }) (fun T hT => (ih' T hT))) (by kernel_rfl)
      · rw [if_neg hc] at al
        obtain ⟨B', so, hs'⟩ := stL_out (i := m) hs (by omega) (by omega)
        have ih' := fun T => ih (by omega) (g + 1) T B' hs' (by omega)
        clear ih
        generalize dI m = dm at *
        generalize nmC m = nm at *
        generalize k - min k a = on at *
        exact goG 90 _  hT'  (.tt <| .idx (show idxA (11 : Nat) (AV.msl kk (0 : Nat) k (11 : Nat)) (AV.int IntKind.i64 (↑m : Int)) = some (AV.ptr kk ((0 : Nat) + m * (11 : Nat))) from hi) <| .effY (show Does cfg (AOp.load false (1 : Nat) (Opd.c (AV.ptr kk ((0 : Nat) + m * (11 : Nat) + (9 : Nat))))) { boxes := B, toks := [], loops := [] : Heap } (AV.str [(110 : UInt8)]) { boxes := B, toks := [], loops := [] : Heap } from l9) <| .ff <| .idx (show idxA (11 : Nat) (AV.msl kk (0 : Nat) k (11 : Nat)) (AV.int IntKind.i64 (↑m : Int)) = some (AV.ptr kk ((0 : Nat) + m * (11 : Nat))) from hi) <| .effY (show Does cfg (AOp.load false (1 : Nat) (Opd.c (AV.ptr kk ((0 : Nat) + m * (11 : Nat))))) { boxes := B, toks := [], loops := [] : Heap } (AV.str nm) { boxes := B, toks := [], loops := [] : Heap } from l0) <| .effCM [AV.msl kb (0 : Nat) (1 : Nat) (3 : Nat), AV.msl kk (0 : Nat) k (11 : Nat), AV.str nm] (show Does cfg (AOp.callM (Opd.c (AV.func (25 : FuncId) [])) [Opd.c (AV.msl kb (0 : Nat) (1 : Nat) (3 : Nat)), Opd.c (AV.msl kk (0 : Nat) k (11 : Nat)), Opd.c (AV.str nm)]) { boxes := B, toks := [], loops := [] : Heap } (AV.tuple [AV.str [], AV.bool true]) { boxes := B, toks := [], loops := [] : Heap } from al) rfl <| .tt <| .idx (show idxA (11 : Nat) (AV.msl kk (0 : Nat) k (11 : Nat)) (AV.int IntKind.i64 (↑m : Int)) = some (AV.ptr kk ((0 : Nat) + m * (11 : Nat))) from hi) <| .effY (show Does cfg (AOp.store (1 : Nat) (Opd.c (AV.ptr kk ((0 : Nat) + m * (11 : Nat) + (9 : Nat)))) (Opd.c (AV.str []))) { boxes := B, toks := [], loops := [] : Heap } AV.undef { boxes := B', toks := [], loops := [] : Heap } from so) <| .bin (show binA BinOp.add (AV.int IntKind.i64 (↑g : Int)) (AV.int IntKind.i64 (1 : Int)) = some (AV.int IntKind.i64 (↑(g + (1 : Nat)) : Int)) from inc_i (by omega)) <| .bin (show binA BinOp.sub (AV.int IntKind.i64 (↑m : Int)) (AV.int IntKind.i64 (1 : Int)) = some (dm) from sb) <| .cutQ k5_1 [(8, AV.int IntKind.i64 (↑f : Int)), (9, AV.msl kk (0 : Nat) k (11 : Nat)), (12, AV.msl kb (0 : Nat) (1 : Nat) (3 : Nat)), (13, AV.int IntKind.i64 (↑on : Int)), (14, AV.int IntKind.i64 (↑(g + (1 : Nat)) : Int)), (15, dm)] ({ boxes := B', toks := [], loops := [] : Heap }) (fun T hT => (ih' T hT))) (by kernel_rfl)

theorem bc_tail {k f away a : Nat} {s : AV} {B B1 : List (List AV)} (hk : k < 20) (ha : away % 5 = a) (hf : f < 24) (hB : B1 = B ++ [(encB (bdC f)).cells])
    (ct : Does cfg (.callM (.c (.func 21 [])) [.c (encB (bdC f)), .c s]) ⟨B1, [], []⟩ (.int .i64 ((k - min k a : Nat) : Int)) ⟨B1, [], []⟩)
    (br : Does cfg (.callM (.c (.func 28 [])) [.c (.msl B.length 0 1 3), .c s]) ⟨B1, [], []⟩ (.sl .sh (if ((k - min k a : Nat) : Int) < (f : Int) then [.str [98]] else [])) ⟨B1, [], []⟩)
    (l2 : ∀ T, Has T [(8, .int .i64 f), (9, s), (12, .msl B.length 0 1 3), (13, .int .i64 ((k - min k a : Nat) : Int)), (14, .int .i64 0), (15, dI k)] → Goes cfg a5 k5_1 T ⟨B1, [], []⟩ (IsRet (.bool true)))
    (T : Env) (hT : Has T [(2, .int .u8 away), (7, .int .i64 k), (8, .int .i64 f), (9, s), (10, .int .i64 k)]) : Goes cfg a5 k5_0 T ⟨B, [], []⟩ (IsRet (.bool true)) := by
  subst hB
  have rm : binA .rem (.int .u8 (away : Int)) (.int .u8 5) = some (.int .u8 (a : Int)) := by rw [← ha]; exact rem_nat (by decide)
  have ha5 : a < 5 := by omega
  have cv : convA (.int .i64) (.int .u8 (a : Int)) = some (.int .i64 (a : Int)) := conv_i64 (by omega)
  have s0 : binA .sub (.int .i64 (k : Int)) (.int .i64 (if false = true then if (a : Int) > (k : Int) then (a : Int) else (k : Int) else if (a : Int) < (k : Int) then (a : Int) else (k : Int))) = some (.int .i64 ((k - min k a : Nat) : Int)) := by
    have : (if (a : Int) < (k : Int) then (a : Int) else (k : Int)) = ((min k a : Nat) : Int) := by split <;> omega
    rw [if_neg (by decide), this, subI (by omega) (by omega)]; congr 2; omega
  have sb : binA .sub (.int .i64 (k : Int)) (.int .i64 1) = some (dI k) := dI_sub (by omega)
  generalize dI k = dk at *
  generalize k - min k a = on at *
  by_cases hof : (on : Int) < (f : Int)
  · rw [if_pos hof] at br
    exact goG 120 _  hT  (.no (show (decide ((↑k : Int) < (↑k : Int))) = false from decide_eq_false (show ¬ ((↑k : Int) < (↑k : Int)) from (by omega))) <| .bin (show binA BinOp.rem (AV.int IntKind.u8 (↑away : Int)) (AV.int IntKind.u8 (5 : Int)) = some (AV.int IntKind.u8 (↑a : Int)) from rm) <| .conv (show convA (CV.int IntKind.i64) (AV.int IntKind.u8 (↑a : Int)) = some (AV.int IntKind.i64 (↑a : Int)) from cv) <| .bin (show binA BinOp.sub (AV.int IntKind.i64 (↑k : Int)) (AV.int IntKind.i64 (if false = true then if (↑a : Int) > (↑k : Int) then (↑a : Int) else (↑k : Int) else if (↑a : Int) < (↑k : Int) then (↑a : Int) else (↑k : Int))) = some (AV.int IntKind.i64 (↑on : Int)) from s0) <| .idx (show idxA (3 : Nat) (AV.msl B.length (0 : Nat) (1 : Nat) (3 : Nat)) (AV.int IntKind.i64 (0 : Int)) = some (AV.ptr B.length (0 : Nat)) from rfl) <| .load (show loadA true (3 : Nat) { boxes := B ++ [[AV.str [(98 : UInt8)], AV.sl SK.sh [AV.agg [AV.int IntKind.i64 (1 : Int), AV.str [(97 : UInt8), (112 : UInt8), (112 : UInt8)], AV.str [(119 : UInt8), (101 : UInt8), (98 : UInt8)]]], AV.int IntKind.i64 (↑f : Int)]], toks := [], loops := [] : Heap } (AV.ptr B.length (0 : Nat)) = some (AV.agg [AV.str [(98 : UInt8)], AV.sl SK.sh [AV.agg [AV.int IntKind.i64 (1 : Int), AV.str [(97 : UInt8), (112 : UInt8), (112 : UInt8)], AV.str [(119 : UInt8), (101 : UInt8), (98 : UInt8)]]], AV.int IntKind.i64 (↑f : Int)]) from load_box (cs := [AV.str [(98 : UInt8)], AV.sl SK.sh [AV.agg [AV.int IntKind.i64 (1 : Int), AV.str [(97 : UInt8), (112 : UInt8), (112 : UInt8)], AV.str [(119 : UInt8), (101 : UInt8), (98 : UInt8)]]], AV.int IntKind.i64 (↑f : Int)]) (by simp) rfl) <| .effY (show Does cfg (AOp.callM (Opd.c (AV.func (21 : FuncId) [])) [Opd.c (encB (bdC f)), Opd.c s]) { boxes := B ++ [(encB (bdC f)).cells], toks := [], loops := [] : Heap } (AV.int IntKind.i64 (↑on : Int)) { boxes := B ++ [(encB (bdC f)).cells], toks := [], loops := [] : Heap } from ct) <| .split (((↑on : Int) != (↑on : Int)) = true) (fun h1 => .yes (show ((↑on : Int) != (↑on : Int)) = true from h1) <| .tt <| .fin ((ARes.ret (AV.bool false), { boxes := B ++ [[AV.str [(98 : UInt8)], AV.sl SK.sh [AV.agg [AV.int IntKind.i64 { op := (1 : Int), key := [(97 : UInt8), (112 : UInt8), (112 : UInt8)], val := [(119 : UInt8), (101 : UInt8), (98 : UInt8)] : Term }.op, AV.str [(97 : UInt8), (112 : UInt8), (112 : UInt8)], AV.str [(119 : UInt8), (101 : UInt8), (98 : UInt8)]]], AV.int IntKind.i64 (bdC f).floor]], toks := [], loops := [] : Heap })) (by exact absurd h1 (by simp))) (fun h1 => .no (show ((↑on : Int) != (↑on : Int)) = false from Bool.eq_false_iff.2 (show ¬ (((↑on : Int) != (↑on : Int)) = true) from h1)) <| .effCM [AV.msl B.length (0 : Nat) (1 : Nat) (3 : Nat), s] (show Does cfg (AOp.callM (Opd.c (AV.func (28 : FuncId) [])) [Opd.c (AV.msl B.length (0 : Nat) (1 : Nat) (3 : Nat)), Opd.c s]) { boxes := B ++ [(encB (bdC f)).cells], toks := [], loops := [] : Heap } (AV.sl SK.sh [AV.str [(98 : UInt8)]]) { boxes := B ++ [(encB (bdC f)).cells], toks := [], loops := [] : Heap } from br) rfl <| .len (show lenA false (AV.sl SK.sh [AV.str [(98 : UInt8)]]) = some (AV.int IntKind.i64 (↑[AV.str [(98 : UInt8)]].length : Int)) from len_sl _ _) <| .split ((if true = true then !((↑[AV.str [(98 : UInt8)]].length : Int) == (1 : Int)) == decide ((↑on : Int) < (↑f : Int)) else ((↑[AV.str [(98 : UInt8)]].length : Int) == (1 : Int)) == decide ((↑on : Int) < (↑f : Int))) = true) (fun h2 => .yes (show (if true = true then !((↑[AV.str [(98 : UInt8)]].length : Int) == (1 : Int)) == decide ((↑on : Int) < (↑f : Int)) else ((↑[AV.str [(98 : UInt8)]].length : Int) == (1 : Int)) == decide ((↑on : Int) < (↑f : Int))) = true from h2) <| .fin ((ARes.ret (AV.bool false), { boxes := B ++ [[AV.str [(98 : UInt8)], AV.sl SK.sh [AV.agg [AV.int IntKind.i64 { op := (1 : Int), key := [(97 : UInt8), (112 : UInt8), (112 : UInt8)], val := [(119 : UInt8), (101 : UInt8), (98 : UInt8)] : Term }.op, AV.str [(97 : UInt8), (112 : UInt8), (112 : UInt8)], AV.str [(119 : UInt8), (101 : UInt8), (98 : UInt8)]]], AV.int IntKind.i64 (bdC f).floor]], toks := [], loops := [] : Heap })) (by exact absurd h2 (by simp [hof]))) (fun h2 => .no (show (if true = true then !((↑[AV.str [(98 : UInt8)]].length : Int) == (1 : Int)) == decide ((↑on : Int) < (↑f : Int)) else ((↑[AV.str [(98 : UInt8)]].length : Int) == (1 : Int)) == decide ((↑on : Int) < (↑f : Int))) = false from Bool.eq_false_iff.2 (show ¬ ((if true = true then !((↑[AV.str [(98 : UInt8)]].length : Int) == (1 : Int)) == decide ((↑on : Int) < (↑f : Int)) else ((↑[AV.str [(98 : UInt8)]].length : Int) == (1 : Int)) == decide ((↑on : Int) < (↑f : Int))) = true) from h2)) <| .bin (show binA BinOp.sub (AV.int IntKind.i64 (↑k : Int)) (AV.int IntKind.i64 (1 : Int)) = some (dk) from sb) <| .cutQ k5_1 [(8, AV.int IntKind.i64 (↑f : Int)), (9, s), (12, AV.msl B.length (0 : Nat) (1 : Nat) (3 : Nat)), (13, AV.int IntKind.i64 (↑on : Int)), (14, AV.int IntKind.i64 (0 : Int)), (15, dk)] ({ boxes := B ++ [[AV.str [(98 : UInt8)], AV.sl SK.sh [AV.agg [AV.int IntKind.i64 { op := (1 : Int), key := [(97 : UInt8), (112 : UInt8), (112 : UInt8)], val := [(119 : UInt8), (101 : UInt8), (98 : UInt8)] : Term }.op, AV.str [(97 : UInt8), (112 : UInt8), (112 : UInt8)], AV.str [(119 : UInt8), (101 : UInt8), (98 : UInt8)]]], AV.int IntKind.i64 (bdC f).floor]], toks := [], loops := [] : Heap }) (fun T hT => (l2 T hT))))) (by kernel_rfl)
  · obtain ⟨e, he, hel⟩ : ∃ e : List AV, e = [] ∧ e.length = 0 := ⟨[], rfl, rfl⟩
    rw [if_neg hof] at br
    have br : Does cfg (.callM (.c (.func 28 [])) [.c (.msl B.length 0 1 3), .c s]) ⟨B ++ [(encB (bdC f)).cells], [], []⟩ (.sl .sh e) ⟨B ++ [(encB (bdC f)).cells], [], []⟩ := by rw [he]; exact br
    clear he
    exact goG 120 _  hT  (.no (show (decide ((↑k : Int) < (↑k : Int))) = false from decide_eq_false (show ¬ ((↑k : Int) < (↑k : Int)) from (by omega))) <| .bin (show binA BinOp.rem (AV.int IntKind.u8 (↑away : Int)) (AV.int IntKind.u8 (5 : Int)) = some (AV.int IntKind.u8 (↑a : Int)) from rm) <| .conv (show convA (CV.int IntKind.i64) (AV.int IntKind.u8 (↑a : Int)) = some (AV.int IntKind.i64 (↑a : Int)) from cv) <| .bin (show binA BinOp.sub (AV.int IntKind.i64 (↑k : Int)) (AV.int IntKind.i64 (if false = true then if (↑a : Int) > (↑k : Int) then (↑a : Int) else (↑k : Int) else if (↑a : Int) < (↑k : Int) then (↑a : Int) else (↑k : Int))) = some (AV.int IntKind.i64 (↑on : Int)) from s0) <| .idx (show idxA (3 : Nat) (AV.msl B.length (0 : Nat) (1 : Nat) (3 : Nat)) (AV.int IntKind.i64 (0 : Int)) = some (AV.ptr B.length (0 : Nat)) from rfl) <| .load (show loadA true (3 : Nat) { boxes := B ++ [[AV.str [(98 : UInt8)], AV.sl SK.sh [AV.agg [AV.int IntKind.i64 (1 : Int), AV.str [(97 : UInt8), (112 : UInt8), (112 : UInt8)], AV.str [(119 : UInt8), (101 : UInt8), (98 : UInt8)]]], AV.int IntKind.i64 (↑f : Int)]], toks := [], loops := [] : Heap } (AV.ptr B.length (0 : Nat)) = some (AV.agg [AV.str [(98 : UInt8)], AV.sl SK.sh [AV.agg [AV.int IntKind.i64 (1 : Int), AV.str [(97 : UInt8), (112 : UInt8), (112 : UInt8)], AV.str [(119 : UInt8), (101 : UInt8), (98 : UInt8)]]], AV.int IntKind.i64 (↑f : Int)]) from load_box (cs := [AV.str [(98 : UInt8)], AV.sl SK.sh [AV.agg [AV.int IntKind.i64 (1 : Int), AV.str [(97 : UInt8), (112 : UInt8), (112 : UInt8)], AV.str [(119 : UInt8), (101 : UInt8), (98 : UInt8)]]], AV.int IntKind.i64 (↑f : Int)]) (by simp) rfl) <| .effY (show Does cfg (AOp.callM (Opd.c (AV.func (21 : FuncId) [])) [Opd.c (encB (bdC f)), Opd.c s]) { boxes := B ++ [(encB (bdC f)).cells], toks := [], loops := [] : Heap } (AV.int IntKind.i64 (↑on : Int)) { boxes := B ++ [(encB (bdC f)).cells], toks := [], loops := [] : Heap } from ct) <| .split (((↑on : Int) != (↑on : Int)) = true) (fun h1 => .yes (show ((↑on : Int) != (↑on : Int)) = true from h1) <| .tt <| .fin ((ARes.ret (AV.bool false), { boxes := B ++ [[AV.str [(98 : UInt8)], AV.sl SK.sh [AV.agg [AV.int IntKind.i64 { op := (1 : Int), key := [(97 : UInt8), (112 : UInt8), (112 : UInt8)], val := [(119 : UInt8), (101 : UInt8), (98 : UInt8)] : Term }.op, AV.str [(97 : UInt8), (112 : UInt8), (112 : UInt8)], AV.str [(119 : UInt8), (101 : UInt8), (98 : UInt8)]]], AV.int IntKind.i64 (bdC f).floor]], toks := [], loops := [] : Heap })) (by exact absurd h1 (by simp))) (fun h1 => .no (show ((↑on : Int) != (↑on : Int)) = false from Bool.eq_false_iff.2 (show ¬ (((↑on : Int) != (↑on : Int)) = true) from h1)) <| .effCM [AV.msl B.length (0 : Nat) (1 : Nat) (3 : Nat), s] (show Does cfg (AOp.callM (Opd.c (AV.func (28 : FuncId) [])) [Opd.c (AV.msl B.length (0 : Nat) (1 : Nat) (3 : Nat)), Opd.c s]) { boxes := B ++ [(encB (bdC f)).cells], toks := [], loops := [] : Heap } (AV.sl SK.sh e) { boxes := B ++ [(encB (bdC f)).cells], toks := [], loops := [] : Heap } from br) rfl <| .len (show lenA false (AV.sl SK.sh e) = some (AV.int IntKind.i64 (↑e.length : Int)) from len_sl _ _) <| .split ((if true = true then !((↑e.length : Int) == (1 : Int)) == decide ((↑on : Int) < (↑f : Int)) else ((↑e.length : Int) == (1 : Int)) == decide ((↑on : Int) < (↑f : Int))) = true) (fun h2 => .yes (show (if true = true then !((↑e.length : Int) == (1 : Int)) == decide ((↑on : Int) < (↑f : Int)) else ((↑e.length : Int) == (1 : Int)) == decide ((↑on : Int) < (↑f : Int))) = true from h2) <| .fin ((ARes.ret (AV.bool false), { boxes := B ++ [[AV.str [(98 : UInt8)], AV.sl SK.sh [AV.agg [AV.int IntKind.i64 { op := (1 : Int), key := [(97 : UInt8), (112 : UInt8), (112 : UInt8)], val := [(119 : UInt8), (101 : UInt8), (98 : UInt8)] : Term }.op, AV.str [(97 : UInt8), (112 : UInt8), (112 : UInt8)], AV.str [(119 : UInt8), (101 : UInt8), (98 : UInt8)]]], AV.int IntKind.i64 (bdC f).floor]], toks := [], loops := [] : Heap })) (by exact absurd h2 (by simp [hof, hel]))) (fun h2 => .no (show (if true = true then !((↑e.length : Int) == (1 : Int)) == decide ((↑on : Int) < (↑f : Int)) else ((↑e.length : Int) == (1 : Int)) == decide ((↑on : Int) < (↑f : Int))) = false from Bool.eq_false_iff.2 (show ¬ ((if true = true then !((↑e.length : Int) == (1 : Int)) == decide ((↑on : Int) < (↑f : Int)) else ((↑e.length : Int) == (1 : Int)) == decide ((↑on : Int) < (↑f : Int))) = true) from h2)) <| .bin (show binA BinOp.sub (AV.int IntKind.i64 (↑k : Int)) (AV.int IntKind.i64 (1 : Int)) = some (dk) from sb) <| .cutQ k5_1 [(8, AV.int IntKind.i64 (↑f : Int)), (9, s), (12, AV.msl B.length (0 : Nat) (1 : Nat) (3 : Nat)), (13, AV.int IntKind.i64 (↑on : Int)), (14, AV.int IntKind.i64 (0 : Int)), (15, dk)] ({ boxes := B ++ [[AV.str [(98 : UInt8)], AV.sl SK.sh [AV.agg [AV.int IntKind.i64 { op := (1 : Int), key := [(97 : UInt8), (112 : UInt8), (112 : UInt8)], val := [(119 : UInt8), (101 : UInt8), (98 : UInt8)] : Term }.op, AV.str [(97 : UInt8), (112 : UInt8), (112 : UInt8)], AV.str [(119 : UInt8), (101 : UInt8), (98 : UInt8)]]], AV.int IntKind.i64 (bdC f).floor]], toks := [], loops := [] : Heap }) (fun T hT => (l2 T hT))))) (by kernel_rfl)
theorem br_N0 (b : Bud) (hb : b.sel.length < 9223372036854775807) (kb : Nat) (bs0 : List (List AV)) (hkb : bs0[kb]? = some (encB b).cells) (T : Env) (hT : Has T [(1, .sl .sh []), (5, .sl .full []), (8, .msl kb 0 1 3), (9, .int .i64 1), (10, .int .i64 0)]) :
    Goes cfg a28 k28_0 T ⟨bs0, [], []⟩ (RetX (.sl .sh (if ((0 : Nat) : Int) < b.floor then [.str b.name] else [])) bs0) := by
  have hi : idxA 3 (.msl kb 0 1 3) (.int .i64 0) = some (.ptr kb 0) := rfl
  have lb := loadB (b := b) hkb
  have hc : Gives cfg 21 [encB b, .sl .sh []] (.int .i64 ((0 : Nat) : Int)) := count_any b [] (by simp) (fun x hx => by simp at hx) hb
  have e1 := fun a ex tk T hT => br_X1 a kb bs0 ex tk T hT
  by_cases hq : ((0 : Nat) : Int) < b.floor
  · rw [if_pos hq]
    exact goG 90 _  hT  (.tt <| .idx (show idxA (3 : Nat) (AV.msl kb (0 : Nat) (1 : Nat) (3 : Nat)) (AV.int IntKind.i64 (0 : Int)) = some (AV.ptr kb (0 : Nat)) from hi) <| .effY (show Does cfg (AOp.load true (3 : Nat) (Opd.c (AV.ptr kb (0 : Nat)))) { boxes := bs0, toks := [], loops := [] : Heap } (encB b) { boxes := bs0, toks := [], loops := [] : Heap } from lb _ (by exact ⟨[], by simp⟩)) <| .store (show storeA (3 : Nat) { boxes := bs0 ++ [[AV.str [], AV.sl SK.full [], AV.int IntKind.i64 (0 : Int)]], toks := [], loops := [] : Heap } (AV.ptr bs0.length (0 : Nat)) (AV.agg [AV.str b.name, AV.sl SK.sh (List.map encM b.sel), AV.int IntKind.i64 b.floor]) = some ({ boxes := bs0 ++ [[AV.str b.name, AV.sl SK.sh (List.map encM b.sel), AV.int IntKind.i64 b.floor]], toks := [], loops := [] : Heap }) from store_box2 (cs := [AV.str [], AV.sl SK.full [], AV.int IntKind.i64 (0 : Int)]) (cs' := [AV.str b.name, AV.sl SK.sh (List.map encM b.sel), AV.int IntKind.i64 b.floor]) (by simp) rfl (by simp [List.set_append])) <| .load (show loadA true (3 : Nat) { boxes := bs0 ++ [[AV.str b.name, AV.sl SK.sh (List.map encM b.sel), AV.int IntKind.i64 b.floor]], toks := [], loops := [] : Heap } (AV.ptr bs0.length (0 : Nat)) = some (AV.agg [AV.str b.name, AV.sl SK.sh (List.map encM b.sel), AV.int IntKind.i64 b.floor]) from load_box (cs := [AV.str b.name, AV.sl SK.sh (List.map encM b.sel), AV.int IntKind.i64 b.floor]) (by simp) rfl) <| .callG ([AV.agg [AV.str b.name, AV.sl SK.sh (List.map encM b.sel), AV.int IntKind.i64 b.floor], AV.sl SK.sh []]) (AV.int IntKind.i64 (↑(0 : Nat) : Int)) (show Gives cfg (21 : FuncId) [encB b, AV.sl SK.sh []] (AV.int IntKind.i64 (↑(0 : Nat) : Int)) from hc) ⟨rfl, rfl⟩ ⟨rfl, rfl⟩ <| .load (show loadA false (1 : Nat) { boxes := bs0 ++ [[AV.str b.name, AV.sl SK.sh (List.map encM b.sel), AV.int IntKind.i64 b.floor]], toks := [], loops := [] : Heap } (AV.ptr bs0.length (2 : Nat)) = some (AV.int IntKind.i64 b.floor) from load_box (cs := [AV.str b.name, AV.sl SK.sh (List.map encM b.sel), AV.int IntKind.i64 b.floor]) (by simp) rfl) <| .yes (show (decide ((↑(0 : Nat) : Int) < b.floor)) = true from decide_eq_true (show (↑(0 : Nat) : Int) < b.floor from (by exact hq))) <| .load (show loadA false (1 : Nat) { boxes := bs0 ++ [[AV.str b.name, AV.sl SK.sh (List.map encM b.sel), AV.int IntKind.i64 b.floor]], toks := [], loops := [] : Heap } (AV.ptr bs0.length (0 : Nat)) = some (AV.str b.name) from load_box (cs := [AV.str b.name, AV.sl SK.sh (List.map encM b.sel), AV.int IntKind.i64 b.floor]) (by simp) rfl) <| .append (show appendA (1 : Nat) (16 : Nat) { boxes := bs0 ++ [[AV.str b.name, AV.sl SK.sh (List.map encM b.sel), AV.int IntKind.i64 b.floor]], toks := [], loops := [] : Heap } (AV.sl SK.full []) (AV.sl SK.full [AV.str b.name]) = some ((AV.sl (SK.own (0 : Nat)) [AV.str b.name], { boxes := bs0 ++ [[AV.str b.name, AV.sl SK.sh (List.map encM b.sel), AV.int IntKind.i64 b.floor]], toks := [(1 : Nat)], loops := [] : Heap })) from rfl) <| .bin (show binA BinOp.add (AV.int IntKind.i64 (0 : Int)) (AV.int IntKind.i64 (1 : Int)) = some (AV.int IntKind.i64 ((0 : Int) + (1 : Int))) from inc_z (by omega)) <| .cutQ k28_0 [(5, AV.sl (SK.own (0 : Nat)) [AV.str b.name]), (8, AV.msl kb (0 : Nat) (1 : Nat) (3 : Nat)), (9, AV.int IntKind.i64 (1 : Int)), (10, AV.int IntKind.i64 ((0 : Int) + (1 : Int)))] ({ boxes := bs0 ++ [[AV.str b.name, AV.sl SK.sh (List.map encM b.sel), AV.int IntKind.i64 b.floor]], toks := [(1 : Nat)], loops := [] : Heap }) (fun T hT => (e1 (AV.sl (SK.own (0 : Nat)) [AV.str b.name]) ([[AV.str b.name, AV.sl SK.sh (List.map encM b.sel), AV.int IntKind.i64 b.floor]]) ([(1 : Nat)]) T hT))) (by kernel_rfl)
  · rw [if_neg hq]
    exact goG 90 _  hT  (.tt <| .idx (show idxA (3 : Nat) (AV.msl kb (0 : Nat) (1 : Nat) (3 : Nat)) (AV.int IntKind.i64 (0 : Int)) = some (AV.ptr kb (0 : Nat)) from hi) <| .effY (show Does cfg (AOp.load true (3 : Nat) (Opd.c (AV.ptr kb (0 : Nat)))) { boxes := bs0, toks := [], loops := [] : Heap } (encB b) { boxes := bs0, toks := [], loops := [] : Heap } from lb _ (by exact ⟨[], by simp⟩)) <| .store (show storeA (3 : Nat) { boxes := bs0 ++ [[AV.str [], AV.sl SK.full [], AV.int IntKind.i64 (0 : Int)]], toks := [], loops := [] : Heap } (AV.ptr bs0.length (0 : Nat)) (AV.agg [AV.str b.name, AV.sl SK.sh (List.map encM b.sel), AV.int IntKind.i64 b.floor]) = some ({ boxes := bs0 ++ [[AV.str b.name, AV.sl SK.sh (List.map encM b.sel), AV.int IntKind.i64 b.floor]], toks := [], loops := [] : Heap }) from store_box2 (cs := [AV.str [], AV.sl SK.full [], AV.int IntKind.i64 (0 : Int)]) (cs' := [AV.str b.name, AV.sl SK.sh (List.map encM b.sel), AV.int IntKind.i64 b.floor]) (by simp) rfl (by simp [List.set_append])) <| .load (show loadA true (3 : Nat) { boxes := bs0 ++ [[AV.str b.name, AV.sl SK.sh (List.map encM b.sel), AV.int IntKind.i64 b.floor]], toks := [], loops := [] : Heap } (AV.ptr bs0.length (0 : Nat)) = some (AV.agg [AV.str b.name, AV.sl SK.sh (List.map encM b.sel), AV.int IntKind.i64 b.floor]) from load_box (cs := [AV.str b.name, AV.sl SK.sh (List.map encM b.sel), AV.int IntKind.i64 b.floor]) (by simp) rfl) <| .callG ([AV.agg [AV.str b.name, AV.sl SK.sh (List.map encM b.sel), AV.int IntKind.i64 b.floor], AV.sl SK.sh []]) (AV.int IntKind.i64 (↑(0 : Nat) : Int)) (show Gives cfg (21 : FuncId) [encB b, AV.sl SK.sh []] (AV.int IntKind.i64 (↑(0 : Nat) : Int)) from hc) ⟨rfl, rfl⟩ ⟨rfl, rfl⟩ <| .load (show loadA false (1 : Nat) { boxes := bs0 ++ [[AV.str b.name, AV.sl SK.sh (List.map encM b.sel), AV.int IntKind.i64 b.floor]], toks := [], loops := [] : Heap } (AV.ptr bs0.length (2 : Nat)) = some (AV.int IntKind.i64 b.floor) from load_box (cs := [AV.str b.name, AV.sl SK.sh (List.map encM b.sel), AV.int IntKind.i64 b.floor]) (by simp) rfl) <| .no (show (decide ((↑(0 : Nat) : Int) < b.floor)) = false from decide_eq_false (show ¬ ((↑(0 : Nat) : Int) < b.floor) from (by exact hq))) <| .bin (show binA BinOp.add (AV.int IntKind.i64 (0 : Int)) (AV.int IntKind.i64 (1 : Int)) = some (AV.int IntKind.i64 ((0 : Int) + (1 : Int))) from inc_z (by omega)) <| .cutQ k28_0 [(5, AV.sl SK.full []), (8, AV.msl kb (0 : Nat) (1 : Nat) (3 : Nat)), (9, AV.int IntKind.i64 (1 : Int)), (10, AV.int IntKind.i64 ((0 : Int) + (1 : Int)))] ({ boxes := bs0 ++ [[AV.str b.name, AV.sl SK.sh (List.map encM b.sel), AV.int IntKind.i64 b.floor]], toks := [], loops := [] : Heap }) (fun T hT => (e1 (AV.sl SK.full []) ([[AV.str b.name, AV.sl SK.sh (List.map encM b.sel), AV.int IntKind.i64 b.floor]]) ([]) T hT))) (by kernel_rfl)
theorem br_N (b : Bud) (hb : b.sel.length < 9223372036854775807) (kb : Nat) (bs0 : List (List AV)) (hkb : bs0[kb]? = some (encB b).cells) (hD : bs0.all (·.all data0) = true) :
    Does cfg (.callM (.c (.func 28 [])) [.c (.msl kb 0 1 3), .c (.sl .full [])]) ⟨bs0, [], []⟩ (.sl .sh (if ((0 : Nat) : Int) < b.floor then [.str b.name] else [])) ⟨bs0, [], []⟩ := by
  have h := br_N0 b hb kb bs0 hkb
  have key : Goes cfg a28 [.c c28] (initEnv [.msl kb 0 1 3, .sl .sh []]) ⟨bs0, [], []⟩ (RetX (.sl .sh (if ((0 : Nat) : Int) < b.floor then [.str b.name] else [])) bs0) := by
    exact goG 90 []  trivial  (.len (show lenA false (AV.msl kb (0 : Nat) (1 : Nat) (3 : Nat)) = some (AV.int IntKind.i64 (↑(1 : Nat) : Int)) from rfl) <| .cutQ k28_0 [(1, AV.sl SK.sh []), (5, AV.sl SK.full []), (8, AV.msl kb (0 : Nat) (1 : Nat) (3 : Nat)), (9, AV.int IntKind.i64 (↑(1 : Nat) : Int)), (10, AV.int IntKind.i64 (0 : Int))] ({ boxes := bs0, toks := [], loops := [] : Heap }) (fun T hT => (h T hT))) (by kernel_rfl)
  refine does_XS (zs := [.msl kb 0 1 3, .sl .full []]) (xs := [.msl kb 0 1 3, .sl .sh []]) ?_ rfl rfl (fun _ _ => rfl) hD
  rw [l28]
  exact key
theorem bc_fin {k f away a : Nat} (hk : k < 20) (ha : away % 5 = a) (hf : f < 24) (T : Env) (s : AV) (B : List (List AV)) (hs : StR a k s B) (hT : Has T [(2, .int .u8 away), (7, .int .i64 k), (8, .int .i64 f), (9, s), (10, .int .i64 k)]) : Goes cfg a5 k5_0 T ⟨B, [], []⟩ (IsRet (.bool true)) := by
  obtain ⟨hD, hs⟩ := hs
  have ha5 : a < 5 := by omega
  have hD1 : (B ++ [(encB (bdC f)).cells]).all (·.all data0) = true := dat_app hD rfl
  have hb1 : (B ++ [(encB (bdC f)).cells])[B.length]? = some (encB (bdC f)).cells := by simp
  rcases hs with ⟨rfl, rfl⟩ | ⟨h0, kk, rfl, hkk⟩
  · have e0 : 0 - min 0 a = 0 := by omega
    have ct : Does cfg (.callM (.c (.func 21 [])) [.c (encB (bdC f)), .c (.sl .full [])]) ⟨B ++ [(encB (bdC f)).cells], [], []⟩ (.int .i64 ((0 : Nat) : Int)) ⟨B ++ [(encB (bdC f)).cells], [], []⟩ :=
      (does_data (count_any (bdC f) [] (by simp) (fun x hx => by simp at hx) (bdC_sel f)) [encB (bdC f), .sl .full []] rfl rfl rfl rfl _).2
    exact bc_tail (k := 0) hk ha hf rfl (by rw [e0]; exact ct) (by rw [e0]; exact br_N (bdC f) (bdC_sel f) B.length _ hb1 hD1) (fun T hT => by
      rw [e0] at hT
      exact bc_end (on := 0) (g := 0) (by omega) hf hb1 (by omega) ct T hT) T hT
  · have hne : kk ≠ B.length := by
      intro e
      rw [e, List.getElem?_eq_none (Nat.le_refl _)] at hkk
      cases hkk
    have st : StL k a f 0 kk B.length (B ++ [(encB (bdC f)).cells]) := ⟨hD1, by rw [podsC_0]; exact pre_at ⟨_, rfl⟩ hkk, hb1, hne⟩
    have ct := stL_count st hk ha5 (by omega)
    have br := br_X (bdC f) kk (podsC k a 0).length (countB (bdC f) (podsC k a 0)) B.length _ hb1 (counts_X (bdC f) (podsC k a 0) kk _ st.row (by rw [podsC_len]; omega) podsC_lab (bdC_sel f)) hD1
    rw [podsC_len, count_podsC hk ha5 (by omega)] at br
    exact bc_tail hk ha hf rfl ct br (fun T hT => bc_loop2 hk ha5 hf k (Nat.le_refl _) 0 T _ st (by omega) hT) T hT
theorem budgetCounts (n f away : Nat) (hn : n < 256) (hf : f < 256) (ha : away < 256) : Gives cfg 5 [.int .u8 n, .int .u8 f, .int .u8 away] (.bool true) := by
  refine Gives.run (l5 _ _) ?_
  have hk : n % 20 < 20 := Nat.mod_lt _ (by decide)
  have hf2 : f % 24 < 24 := Nat.mod_lt _ (by decide)
  have h := bc_loop (k := n % 20) (f := f % 24) (away := away) (a := away % 5) (R := IsRet (.bool true)) hk rfl (fun T s B hs hT => bc_fin hk rfl hf2 T s B hs hT) (n % 20) 0 (by omega)
  have h' := fun T => h T (.sl .full []) [] ⟨rfl, .inl ⟨rfl, rfl⟩⟩
  have r1 : binA .rem (.int .u8 (n : Int)) (.int .u8 20) = some (.int .u8 ((n % 20 : Nat) : Int)) := rem_nat (by decide)
  have r2 : binA .rem (.int .u8 (f : Int)) (.int .u8 24) = some (.int .u8 ((f % 24 : Nat) : Int)) := rem_nat (by decide)
  have c1 : convA (.int .i64) (.int .u8 ((n % 20 : Nat) : Int)) = some (.int .i64 ((n % 20 : Nat) : Int)) := conv_i64 (by omega)
  have c2 : convA (.int .i64) (.int .u8 ((f % 24 : Nat) : Int)) = some (.int .i64 ((f % 24 : Nat) : Int)) := conv_i64 (by omega)
  have kn : Does cfg (.callM (.c (.func 13 [])) []) Heap.nil (.bool true) Heap.nil := (does_data known13' [] rfl rfl rfl rfl _).2
  clear h
  generalize n % 20 = k at *
  generalize f % 24 = g at *
  exact goG 60 []  trivial  (.effY (show Does cfg (AOp.callM (Opd.c (AV.func (13 : FuncId) [])) []) Heap.nil (AV.bool true) Heap.nil from kn) <| .ff <| .bin (show binA BinOp.rem (AV.int IntKind.u8 (↑n : Int)) (AV.int IntKind.u8 (20 : Int)) = some (AV.int IntKind.u8 (↑k : Int)) from r1) <| .conv (show convA (CV.int IntKind.i64) (AV.int IntKind.u8 (↑k : Int)) = some (AV.int IntKind.i64 (↑k : Int)) from c1) <| .bin (show binA BinOp.rem (AV.int IntKind.u8 (↑f : Int)) (AV.int IntKind.u8 (24 : Int)) = some (AV.int IntKind.u8 (↑g : Int)) from r2) <| .conv (show convA (CV.int IntKind.i64) (AV.int IntKind.u8 (↑g : Int)) = some (AV.int IntKind.i64 (↑g : Int)) from c2) <| .cutQ k5_0 [(2, AV.int IntKind.u8 (↑away : Int)), (7, AV.int IntKind.i64 (↑k : Int)), (8, AV.int IntKind.i64 (↑g : Int)), (9, AV.sl SK.full []), (10, AV.int IntKind.i64 (0 : Int))] ({ boxes := [], toks := [], loops := [] : Heap }) (fun T hT => (h' T hT))) (by kernel_rfl)
end Go.Aa.T

set_option linter.unusedVariables false
set_option linter.unusedSimpArgs false
set_option maxRecDepth 100000
namespace Go.Aa.T
open Go.Aa Go.Proofs
theorem tyU8c {k : Nat} {x : AV} (hx : TyV Tryz.prog (k + 1) 5 x) : ∃ n : Nat, n < 256 ∧ x = .int .u8 (n : Int) := by
  obtain ⟨m, rfl, hm⟩ := tyv_int Tryz.underlying5 hx
  have h' : IntKind.u8.min ≤ m ∧ m ≤ IntKind.u8.max := by simpa [Lit.wf, IntKind.has] using hm
  have e1 : IntKind.u8.min = 0 := rfl
  have e2 : IntKind.u8.max = 255 := rfl
  exact ⟨m.toNat, by omega, by congr 1; omega⟩
theorem law5 (xs : List AV) (h : TyAll Tryz.prog 5 [5, 5, 5] xs) (hz : SzAll Tryz.prog [5, 5, 5] xs) : ∃ H', lim cfg (.fn 5) xs Heap.nil = some (.ret (.bool true), H') := by
  obtain ⟨x1, x2, x3, rfl, h1, h2, h3⟩ := tyall_3 h
  obtain ⟨n, hn, rfl⟩ := tyU8c h1
  obtain ⟨f, hf, rfl⟩ := tyU8c h2
  obtain ⟨w, hw, rfl⟩ := tyU8c h3
  exact (budgetCounts n f w hn hf hw).ret
end Go.Aa.T

set_option linter.unusedVariables false
set_option linter.unusedSimpArgs false
set_option maxRecDepth 100000
namespace Go.Aa.T
open Go.Aa Go.Proofs Go.RowKit Go.ChangeShapes Go.Proofs.YtppplbpilpjokaaGreatDoor
theorem star : "*" ++ "errors.errorString" = "*errors.errorString" := by decide
theorem rowES (u : TypeId) (h : Tryz.prog.typeName? 3 u = some "*errors.errorString") : u = 331 :=
  typeName_ptr_named (nm := "errors.errorString") (by rw [star]; kernel_rfl) (by kernel_rfl) (by decide) u (by rw [star]; exact h)
theorem var_heap {P : Program} {W : World} {n : String} {cs : Array Value} {g : Nat} (h : W.var? P n = some cs) (hg : P.globalNamed n = some g) : ∃ e m, W.heap[g]? = some (.cells cs e m) := by
  simp only [World.var?, hg, Option.bind_some] at h
  split at h
  · rename_i cs' e m hc
    cases h
    exact ⟨e, m, hc⟩
  · cases h
def laidL : List (String × DataW Unit) := Rows.podEdgesRow.laid
theorem pow_eq : (Rows.laid_internal_strconv_uint64pow10 : DataW Unit) = Lib.tabData .u64 Lib.pow10Tab := by kernel_rfl
theorem cellsES : Tryz.prog.cellsOf 333 = 1 := by kernel_rfl
theorem cellsS : Tryz.prog.cellsOf 9 = 1 := by kernel_rfl
theorem glob0Z {W : World} (h : laidMet Tryz.prog laidL W) : Glob0 Tryz.prog W := by
  have h2 := laidMet.tail (laidMet.tail h)
  have ht : Lib.TabIs Tryz.prog W "internal/strconv.uint64pow10" .u64 Lib.pow10Tab := by
    have h3 : laidMet Tryz.prog (("internal/strconv.uint64pow10", Rows.laid_internal_strconv_uint64pow10) :: _) W := h2
    rw [pow_eq] at h3
    exact Lib.tabIs_of_head (g := 1) (t := 303) (n := 20) (by kernel_rfl) (by kernel_rfl) Tryz.underlying303 Tryz.underlying282 (by kernel_rfl) (by kernel_rfl) h3
  have h4 := laidMet.tail (laidMet.tail h2)
  obtain ⟨a1, s1, hv1, -, -, -⟩ := laid_sentinel h4 (g := 5) (ti := 238) (tp := 331) (te := 333) (ts := 9) (by kernel_rfl) (by kernel_rfl) Tryz.underlying238 rowES Tryz.underlying331 Tryz.underlying333 rfl rfl Tryz.underlying9 cellsES cellsS
  have h5 := laidMet.tail h4
  obtain ⟨a2, s2, hv2, -, -, -⟩ := laid_sentinel h5 (g := 4) (ti := 238) (tp := 331) (te := 333) (ts := 9) (by kernel_rfl) (by kernel_rfl) Tryz.underlying238 rowES Tryz.underlying331 Tryz.underlying333 rfl rfl Tryz.underlying9 cellsES cellsS
  intro s hs g hg
  simp only [globSpec, List.mem_cons, List.not_mem_nil, or_false] at hs
  rcases hs with rfl | rfl | rfl
  · obtain ⟨e, m, hh⟩ := var_heap ht hg
    exact ⟨_, e, m, hh, rfl⟩
  · obtain ⟨e, m, hh⟩ := var_heap hv2 hg
    exact ⟨_, e, m, hh, _, _, rfl⟩
  · obtain ⟨e, m, hh⟩ := var_heap hv1 hg
    exact ⟨_, e, m, hh, _, _, rfl⟩
end Go.Aa.T
