/-
  WHAT THE LAW LEANS ON, part 6 of 6: a machine of values and its soundness; the functions of the law upon it; what they come to.
-/
import Derived.Test.YtmlipdlbeddijaaDoorQce

set_option linter.unusedVariables false
set_option linter.unusedSimpArgs false
set_option maxRecDepth 100000
namespace Go.Aa.T
open Go.Aa Go.Proofs
def stopV (e : Int) : AV := .iface 159 (.agg [.int .i64 e])
theorem stop_ok : Gives cfg 76 [.int .i64 0] (.tuple []) := by
  refine Gives.run (l76 _ _) ?_
  exact goG 60 []  trivial  (.ff <| .fin ((ARes.ret (AV.tuple []), { boxes := [], toks := [], loops := [] : Heap })) rfl) (by kernel_rfl)
theorem stop_pan {e : Int} (h : ¬ e = 0) : Pans cfg 76 [.int .i64 e] (stopV e) := by
  refine Pans.run (l76 _ _) ?_
  exact goG 60 [] trivial (.op (.bin .neq (.c (.int .i64 e)) (.c (.int .i64 0))) (.bool true) (pure_step (fun _ => neqT (k := .i64) h) fun _ _ _ => rfl) <| .tt <| .panicI 159 (.agg [.int .i64 e]) Heap.nil rfl) (by kernel_rfl)
def collect {X : Type} (pf : List UInt8 → Option X) (acc : List X) (p : List UInt8) : Option (List X) := if p = [] then none else (pf p).map fun x => acc ++ [x]
def parsed {X : Type} (pf : List UInt8 → Option X) (ck : List X → Int) (s : List UInt8) : List X × Int :=
  if s = [45] then ([], 0) else match foldE (collect pf) [] (parts 44 s) with
  | none => ([], 2)
  | some l => if ck l = 0 then (l, 0) else ([], ck l)
def skF {X : Type} : List X → SK
  | [] => .full
  | _ :: _ => .own 0
instance {X : Type} (l : List X) (xs : List AV) : Shut (.sl (skF l) xs) (.sl .sh xs) := ⟨by cases l <;> exact ⟨rfl, rfl⟩⟩
section
variable {X : Type} (enc : X → AV)
def tkR (acc : List X) : List Nat := (rowH Heap.nil (acc.map enc)).toks
theorem tk_nil : tkR enc [] = [] := rfl
theorem tk_cons (x : X) (l : List X) : tkR enc (x :: l) = [l.length + 1] := by simp [tkR, rowH, Heap.nil]
def rowF (l : List X) : AV := .sl (skF l) (l.map enc)
instance (l : List X) : Shut (rowF enc l) (.sl .sh (l.map enc)) := ⟨by cases l <;> exact ⟨rfl, rfl⟩⟩
theorem rowF_eq (l : List X) : rowF enc l = rowS Heap.nil (l.map enc) := by cases l <;> rfl
theorem row_append_T {x : X} {es bytes : Nat} {bs : List (List AV)} {ls : List LRec} {ys : List X} (h : ((ys.map enc).length + 1) * bytes ≤ 140737488355328) (hl : lenOk es (ys.map enc) = true) (hv : cellsN es (enc x) = true) (hd : dataOk [enc x] = true) :
    appendA es bytes ⟨bs, tkR enc ys, ls⟩ (rowF enc ys) (.sl .full [enc x]) = some (rowF enc (ys ++ [x]), ⟨bs, tkR enc (ys ++ [x]), ls⟩) := by
  rw [rowF_eq, rowF_eq]
  have hh := row_append_map (f := enc) (x := x) (H := Heap.nil) h hl hv hd
  cases ys with
  | nil =>
    simp only [rowS, rowH, List.map_nil, List.nil_append, List.map_cons, tkR, Heap.nil] at hh ⊢
    simp only [appendA] at hh ⊢
    split at hh
    · rename_i hc; rw [if_pos hc]; rfl
    · cases hh
  | cons y ys =>
    simp only [rowS, rowH, List.cons_append, List.map_cons, tkR, Heap.nil] at hh ⊢
    simp only [appendA] at hh ⊢
    split at hh
    · rename_i hc
      rw [if_pos hc]
      split at hh
      · rename_i hc2
        rw [if_pos hc2]
        simp only [Option.some.injEq, Prod.mk.injEq, Heap.mk.injEq, true_and, and_true] at hh ⊢
        exact hh
      · cases hh
    · cases hh
end

section
variable (s0 : List UInt8)
def oTaint0 (_ : List Taint) : List AV := [.str s0]
def oTaint1 (_ : List Taint) : List AV := [.func 73 []]
def oTaint2 (_ : List Taint) : List AV := [.func 20 []]
def oTaint3 (acc : List Taint) : List AV := [rowF encT acc]
theorem trTaint (rc : LRec) (h1 : rc.nb = 7) (h2 : rc.nt = 0) (acc : List Taint) (rest : List UInt8) (n : Nat) (hn : n ≤ 1) (h0 : n = 1 → acc ≠ []) (v : AV) (hv : within 7 n v = true) :
    trunc 7 n v ⟨[oTaint0 s0 acc, oTaint1 acc, oTaint2 acc, oTaint3 acc, [.str rest], [.str [44]], [.int .i64 0]], tkR encT acc, [rc]⟩ = ⟨[oTaint0 s0 acc, oTaint1 acc, oTaint2 acc, oTaint3 acc, [.str rest], [.str [44]], [.int .i64 0]], tkR encT acc, [rc]⟩ := by
  have hb : ∀ (b : Bool) (l : List (List AV)), l.length = 7 → (if b = true then l.take 7 else l) = l := fun b l hl => by
    split
    · exact List.take_of_length_le (by omega)
    · rfl
  unfold trunc
  simp only
  rw [hb _ _ rfl]
  simp only [Heap.mk.injEq, true_and, and_true]
  cases acc with
  | nil => simp [tk_nil]
  | cons x l =>
    rw [tk_cons]
    rcases Nat.lt_or_ge n 1 with h | h
    · have : n = 0 := by omega
      subst this
      have hf : (([oTaint0 s0 (x :: l), oTaint1 (x :: l), oTaint2 (x :: l), oTaint3 (x :: l), [.str rest], [.str [44]], [.int .i64 0]] : List (List AV)).all fun x_1 => x_1.all (in2 ([oTaint0 s0 (x :: l), oTaint1 (x :: l), oTaint2 (x :: l), oTaint3 (x :: l), [.str rest], [.str [44]], [.int .i64 0]] : List (List AV)).length 0)) = false := rfl
      rw [hf]
      simp
    · have : n = 1 := by omega
      subst this
      split <;> rfl
theorem ylTaint (pf : List UInt8 → Option Taint) (rc : LRec) (T0 : Env) (hA : rc.A = a102) (hT0 : rc.T = T0) (hps : rc.ps = [7]) (has : rc.assign = ra102_0) (hbd : rc.body = rb102_0) (hbu : rc.busy = false) (h1 : rc.nb = 7) (h2 : rc.nt = 0) (hT : Has T0 [(1, .ptr 3 0), (2, .ptr 1 0)])
    (hp : ∀ p x, p.length ≤ 1000 → pf p = some x → Gives cfg 73 [.str p] (encT x)) (acc : List Taint) (p rest : List UInt8) (acc' : List Taint) (hl : p.length ≤ 1000) (hacc : acc.length ≤ 100000) (hf : collect pf acc p = some acc') :
    Does cfg (.call (.c (.yield 0)) [.c (.str p)]) (hS (oTaint0 s0) oTaint1 oTaint2 oTaint3 (tkR encT) rc acc rest) (.bool true) (hS (oTaint0 s0) oTaint1 oTaint2 oTaint3 (tkR encT) rc acc' rest) := by
  unfold collect at hf
  split at hf
  · cases hf
  rename_i hne
  simp only [Option.map_eq_some_iff] at hf
  obtain ⟨x, hx, rfl⟩ := hf
  have hg := hp p x hl hx
  have key : Goes cfg roundA [.c rb102_0] (upd (psetA T0 [7] [.str p]) 4 (.str p)) (hB (oTaint0 s0) oTaint1 oTaint2 oTaint3 (tkR encT) rc acc rest) (fun r => r = (.ret (.tuple []), hB (oTaint0 s0) oTaint1 oTaint2 oTaint3 (tkR encT) rc (acc ++ [x]) rest)) := by
    have hT' : Has (upd (psetA T0 [7] [.str p]) 4 (.str p)) [(1, .ptr 3 0), (2, .ptr 1 0), (4, .str p)] := ⟨hT.1, hT.2.1, rfl, trivial⟩
    exact goG 60 _  hT'  (.no (show (p == []) = false from Bool.eq_false_iff.2 (show ¬ ((p == []) = true) from (by simpa using hne))) <| .callG ([AV.str p]) (AV.agg [AV.str x.key, AV.str x.val, AV.bool x.hard]) (show Gives cfg (73 : FuncId) [AV.str p] (encT x) from hg) ⟨rfl, rfl⟩ ⟨rfl, rfl⟩ <| .append (show appendA (3 : Nat) (40 : Nat) { boxes := [[AV.str s0], [AV.func (73 : Nat) []], [AV.func (20 : Nat) []], [AV.sl (skF acc) (List.map encT acc)], [AV.str rest], [AV.str [(44 : UInt8)]], [AV.int IntKind.i64 (0 : Int)]], toks := tkR encT acc, loops := [{ A := rc.A, T := rc.T, ps := rc.ps, assign := rc.assign, body := rc.body, busy := true, nb := rc.nb, nt := rc.nt, nl := rc.nl : LRec }] : Heap } (AV.sl (skF acc) (List.map encT acc)) (AV.sl SK.full [AV.agg [AV.str x.key, AV.str x.val, AV.bool x.hard]]) = some ((rowF encT (acc ++ [x]), { boxes := [[AV.str s0], [AV.func (73 : Nat) []], [AV.func (20 : Nat) []], [AV.sl (skF acc) (List.map encT acc)], [AV.str rest], [AV.str [(44 : UInt8)]], [AV.int IntKind.i64 (0 : Int)]], toks := tkR encT (acc ++ [x]), loops := [{ A := rc.A, T := rc.T, ps := rc.ps, assign := rc.assign, body := rc.body, busy := true, nb := rc.nb, nt := rc.nt, nl := rc.nl : LRec }] : Heap })) from row_append_T _ (by simp; omega) (by exact lenT) (by rfl) (by rfl)) <| .fin ((ARes.ret (AV.tuple []), { boxes := [[AV.str s0], [AV.func (73 : Nat) []], [AV.func (20 : Nat) []], [AV.sl (skF (acc ++ [x])) (List.map encT (acc ++ [x]))], [AV.str rest], [AV.str [(44 : UInt8)]], [AV.int IntKind.i64 (0 : Int)]], toks := tkR encT (acc ++ [x]), loops := [{ A := rc.A, T := rc.T, ps := rc.ps, assign := rc.assign, body := rc.body, busy := true, nb := rc.nb, nt := rc.nt, nl := rc.nl : LRec }] : Heap })) rfl) (by kernel_rfl)
  obtain ⟨r, hr, rfl⟩ := key
  have hrun : runL cfg roundA [.c rc.assign, .beg 0, .c rc.body] (psetA rc.T rc.ps [.str p]) (hS (oTaint0 s0) oTaint1 oTaint2 oTaint3 (tkR encT) rc acc rest) = some (.ret (.tuple []), hB (oTaint0 s0) oTaint1 oTaint2 oTaint3 (tkR encT) rc (acc ++ [x]) rest) := by
    rw [hT0, hps, has, hbd]
    rw [show (ra102_0 : ACode) = .region [⟨some 4, .mov (.t 7), none, []⟩] false from rfl, runL_assign, runL_beg (r := rc) rfl hbu]
    exact hr
  have h3 := yl_ret (cfg := cfg) (l := 0) (args := [.str p]) (r := rc) (r' := { rc with busy := true }) rfl (by rw [hps]; rfl) hrun rfl
  have e1 : ({ ({ rc with busy := true } : LRec) with busy := false } : LRec) = rc := by cases rc; simp only at hbu; subst hbu; rfl
  have h4 := does_yield h3 rfl
  refine Eq.mp ?_ h4
  congr 1
  show trunc 7 (tkR encT acc).length (.bool true) ⟨[oTaint0 s0 (acc ++ [x]), oTaint1 (acc ++ [x]), oTaint2 (acc ++ [x]), oTaint3 (acc ++ [x]), [.str rest], [.str [44]], [.int .i64 0]], tkR encT (acc ++ [x]), [{ ({ rc with busy := true } : LRec) with busy := false }]⟩ = _
  rw [e1]
  refine trTaint s0 rc h1 h2 _ rest _ ?_ (fun _ => by simp) _ rfl
  cases acc with
  | nil => simp [tk_nil]
  | cons y l => simp [tk_cons]
theorem ynTaint (pf : List UInt8 → Option Taint) (rc : LRec) (T0 : Env) (hA : rc.A = a102) (hT0 : rc.T = T0) (hps : rc.ps = [7]) (has : rc.assign = ra102_0) (hbd : rc.body = rb102_0) (hbu : rc.busy = false) (h1 : rc.nb = 7) (h2 : rc.nt = 0) (hT : Has T0 [(1, .ptr 3 0), (2, .ptr 1 0)])
    (hp : ∀ p, p.length ≤ 1000 → p ≠ [] → pf p = none → Pans cfg 73 [.str p] (stopV 2)) (acc : List Taint) (p rest : List UInt8) (hl : p.length ≤ 1000) (hf : collect pf acc p = none) :
    DoesP cfg (.call (.c (.yield 0)) [.c (.str p)]) (hS (oTaint0 s0) oTaint1 oTaint2 oTaint3 (tkR encT) rc acc rest) (stopV 2) (hB (oTaint0 s0) oTaint1 oTaint2 oTaint3 (tkR encT) rc acc rest) := by
  have key : Goes cfg roundA [.c rb102_0] (upd (psetA T0 [7] [.str p]) 4 (.str p)) (hB (oTaint0 s0) oTaint1 oTaint2 oTaint3 (tkR encT) rc acc rest) (fun r => r = (.pan (stopV 2), hB (oTaint0 s0) oTaint1 oTaint2 oTaint3 (tkR encT) rc acc rest)) := by
    have hT' : Has (upd (psetA T0 [7] [.str p]) 4 (.str p)) [(1, .ptr 3 0), (2, .ptr 1 0), (4, .str p)] := ⟨hT.1, hT.2.1, rfl, trivial⟩
    by_cases hne : p = []
    · subst hne
      have hs : Pans cfg 76 [.int .i64 2] (stopV 2) := stop_pan (by decide)
      exact goG 60 _  hT'  (.tt <| .callP ([AV.int IntKind.i64 (2 : Int)]) ({ boxes := [[AV.str s0], [AV.func (73 : Nat) []], [AV.func (20 : Nat) []], [AV.sl (skF acc) (List.map encT acc)], [AV.str rest], [AV.str [(44 : UInt8)]], [AV.int IntKind.i64 (0 : Int)]], toks := tkR encT acc, loops := [{ A := rc.A, T := rc.T, ps := rc.ps, assign := rc.assign, body := rc.body, busy := true, nb := rc.nb, nt := rc.nt, nl := rc.nl : LRec }] : Heap }) (show Pans cfg (76 : FuncId) [AV.int IntKind.i64 (2 : Int)] (stopV (2 : Int)) from hs) ⟨rfl, rfl⟩ rfl rfl) (by kernel_rfl)
    · have hx : pf p = none := by
        unfold collect at hf
        rw [if_neg hne] at hf
        simpa using hf
      have hg := hp p hl hne hx
      exact goG 60 _  hT'  (.no (show (p == []) = false from Bool.eq_false_iff.2 (show ¬ ((p == []) = true) from (by simpa using hne))) <| .callP ([AV.str p]) ({ boxes := [[AV.str s0], [AV.func (73 : Nat) []], [AV.func (20 : Nat) []], [AV.sl (skF acc) (List.map encT acc)], [AV.str rest], [AV.str [(44 : UInt8)]], [AV.int IntKind.i64 (0 : Int)]], toks := tkR encT acc, loops := [{ A := rc.A, T := rc.T, ps := rc.ps, assign := rc.assign, body := rc.body, busy := true, nb := rc.nb, nt := rc.nt, nl := rc.nl : LRec }] : Heap }) (show Pans cfg (73 : FuncId) [AV.str p] (stopV (2 : Int)) from hg) ⟨rfl, rfl⟩ rfl rfl) (by kernel_rfl)
  obtain ⟨r, hr, rfl⟩ := key
  have hrun : runL cfg roundA [.c rc.assign, .beg 0, .c rc.body] (psetA rc.T rc.ps [.str p]) (hS (oTaint0 s0) oTaint1 oTaint2 oTaint3 (tkR encT) rc acc rest) = some (.pan (stopV 2), hB (oTaint0 s0) oTaint1 oTaint2 oTaint3 (tkR encT) rc acc rest) := by
    rw [hT0, hps, has, hbd]
    rw [show (ra102_0 : ACode) = .region [⟨some 4, .mov (.t 7), none, []⟩] false from rfl, runL_assign, runL_beg (r := rc) rfl hbu]
    exact hr
  have h3 := yl_pan (cfg := cfg) (l := 0) (args := [.str p]) (r := rc) rfl (by rw [hps]; rfl) hrun
  have h4 := does_yieldP h3 rfl
  refine Eq.mp ?_ h4
  congr 1
  refine trTaint s0 { rc with busy := true } h1 h2 _ rest _ ?_ (fun h => ?_) _ rfl
  · show (tkR encT acc).length ≤ 1
    cases acc with
    | nil => simp [tk_nil]
    | cons y l => simp [tk_cons]
  · rintro rfl
    change (tkR encT []).length = 1 at h
    simp [tk_nil] at h
theorem inTaint (acc : List Taint) (rest : List UInt8) : ([oTaint0 s0 acc, oTaint1 acc, oTaint2 acc, oTaint3 acc, [.str rest], [.str [44]], [.int .i64 0]] : List (List AV)).all (fun b => b.all (in2 7 (tkR encT acc).length)) = true := by
  cases acc with
  | nil => rfl
  | cons x l => rw [tk_cons]; rfl
theorem rgTaint (pf : List UInt8 → Option Taint) (hp : ∀ p x, p.length ≤ 1000 → pf p = some x → Gives cfg 73 [.str p] (encT x)) (hpn : ∀ p, p.length ≤ 1000 → p ≠ [] → pf p = none → Pans cfg 73 [.str p] (stopV 2))
    (s : List UInt8) (hl : s.length ≤ 1000) (T : Env) (hT : Has T [(0, .ptr 0 0), (1, .ptr 3 0), (2, .ptr 1 0), (3, .ptr 2 0), (6, .func 136 [.ptr 5 0, .ptr 4 0, .ptr 6 0])]) :
    (∀ l, foldE (collect pf) [] (parts 44 s) = some l → ∃ last, runL cfg a102 kr102_0 T ⟨[oTaint0 s0 [], oTaint1 [], oTaint2 [], oTaint3 [], [.str s], [.str [44]], [.int .i64 0]], [], []⟩ = runL cfg a102 kr102_0.tail T ⟨[oTaint0 s0 l, oTaint1 l, oTaint2 l, oTaint3 l, [.str last], [.str [44]], [.int .i64 0]], tkR encT l, []⟩) ∧
    (foldE (collect pf) [] (parts 44 s) = none → ∃ H', runL cfg a102 kr102_0 T ⟨[oTaint0 s0 [], oTaint1 [], oTaint2 [], oTaint3 [], [.str s], [.str [44]], [.int .i64 0]], [], []⟩ = some (.pan (stopV 2), H')) := by
  let rc : LRec := ⟨a102, T, [7], ra102_0, rb102_0, false, 7, 0, 0⟩
  have hT12 : Has T [(1, .ptr 3 0), (2, .ptr 1 0)] := ⟨hT.2.1, hT.2.2.1, trivial⟩
  obtain ⟨r, hr, hs⟩ := seq_call (oTaint0 s0) oTaint1 oTaint2 oTaint3 (tkR encT) rc (stopV 2) (fun acc m => acc.length + m ≤ 2000) (collect pf)
    (fun a x a' m h hc => by
      unfold collect at hc
      split at hc
      · cases hc
      · simp only [Option.map_eq_some_iff] at hc
        obtain ⟨y, -, rfl⟩ := hc
        simp only [List.length_append, List.length_cons, List.length_nil]
        omega)
    (fun a p rest a' h1 h2 h3 => ylTaint s0 pf rc T rfl rfl rfl rfl rfl rfl rfl rfl hT12 hp a p rest a' h1 (by omega) h3)
    (fun a p rest h1 h2 h3 => ynTaint s0 pf rc T rfl rfl rfl rfl rfl rfl rfl rfl hT12 hpn a p rest h1 h3)
    s hl [] (by simp; omega)
  have hfv : ev T (.t 6) = .func 136 [.ptr 5 0, .ptr 4 0, .ptr 6 0] := hT.2.2.2.2.1
  have hcall : callV (lim cfg) (.func 136 [.ptr 5 0, .ptr 4 0, .ptr 6 0]) [.yield 0] (hS (oTaint0 s0) oTaint1 oTaint2 oTaint3 (tkR encT) rc [] s) = callE (lim cfg) 136 [.yield 0, .ptr 5 0, .ptr 4 0, .ptr 6 0] (hS (oTaint0 s0) oTaint1 oTaint2 oTaint3 (tkR encT) rc [] s) := by
    rw [callV_func]; rfl
  constructor
  · intro l hf
    simp only [SeqR, hf] at hs
    obtain ⟨last, rfl⟩ := hs
    refine ⟨last, ?_⟩
    have h1 : callV (lim cfg) (.func 136 [.ptr 5 0, .ptr 4 0, .ptr 6 0]) [.yield 0] (hS (oTaint0 s0) oTaint1 oTaint2 oTaint3 (tkR encT) rc [] s) = some (.val (.tuple []) (hS (oTaint0 s0) oTaint1 oTaint2 oTaint3 (tkR encT) rc l last)) := by
      rw [hcall]
      simp only [callE, hr]
      congr 2
      exact trTaint s0 rc rfl rfl l last 0 (by omega) (by intro h; cases h) (.tuple []) rfl
    have h2 : dropL 0 (hS (oTaint0 s0) oTaint1 oTaint2 oTaint3 (tkR encT) rc l last) = some ⟨[oTaint0 s0 l, oTaint1 l, oTaint2 l, oTaint3 l, [.str last], [.str [44]], [.int .i64 0]], tkR encT l, []⟩ := by
      exact dropL_of (r := rc) rfl rfl rfl (inTaint s0 l last)
    have h3 := rangeA_val (call := lim cfg) (A := a102) (T := T) (ps := [7]) (a := ra102_0) (b := rb102_0) (H := ⟨[oTaint0 s0 [], oTaint1 [], oTaint2 [], oTaint3 [], [.str s], [.str [44]], [.int .i64 0]], [], []⟩) h1 h2
    rw [← hfv] at h3
    exact runL_range rfl h3
  · intro hf
    simp only [SeqR, hf] at hs
    obtain ⟨a', last, rfl⟩ := hs
    have h1 : callV (lim cfg) (.func 136 [.ptr 5 0, .ptr 4 0, .ptr 6 0]) [.yield 0] (hS (oTaint0 s0) oTaint1 oTaint2 oTaint3 (tkR encT) rc [] s) = some (.pan (stopV 2) (hB (oTaint0 s0) oTaint1 oTaint2 oTaint3 (tkR encT) rc a' last)) := by
      rw [hcall]
      simp only [callE, hr]
      congr 2
      exact trTaint s0 { rc with busy := true } rfl rfl a' last 0 (by omega) (by intro h; cases h) (stopV 2) rfl
    have h2 : dropP 0 (hB (oTaint0 s0) oTaint1 oTaint2 oTaint3 (tkR encT) rc a' last) = some ⟨[oTaint0 s0 a', oTaint1 a', oTaint2 a', oTaint3 a', [.str last], [.str [44]], [.int .i64 0]], tkR encT a', []⟩ := by
      exact dropP_of (Nat.lt_add_one 0) rfl (inTaint s0 a' last)
    have h3 := rangeA_pan (call := lim cfg) (A := a102) (T := T) (ps := [7]) (a := ra102_0) (b := rb102_0) (H := ⟨[oTaint0 s0 [], oTaint1 [], oTaint2 [], oTaint3 [], [.str s], [.str [44]], [.int .i64 0]], [], []⟩) h1 rfl h2
    rw [← hfv] at h3
    exact ⟨_, runL_rangeP rfl h3⟩
end
theorem seq0Taint (s : List UInt8) : ∃ v0 H0, lim cfg (.fn 103) [.str s, .str [44]] Heap.nil = some (.ret v0, H0) ∧ dataOut H0 v0 = none := by
  have h1 : lim cfg (.fn 124) [.str s, .str [44], .int .i64 0] Heap.nil = some (.ret (.func 136 [.ptr 1 0, .ptr 0 0, .ptr 2 0]), ⟨[[.str s], [.str [44]], [.int .i64 0]], [], []⟩) := by
    rw [l124]
    exact go 60 []  trivial  (.fin ((ARes.ret (AV.func (136 : Nat) [AV.ptr (1 : Nat) (0 : Nat), AV.ptr (0 : Nat) (0 : Nat), AV.ptr (2 : Nat) (0 : Nat)]), { boxes := [[AV.str s], [AV.str [(44 : UInt8)]], [AV.int IntKind.i64 (0 : Int)]], toks := [], loops := [] : Heap })) rfl) (by kernel_rfl)
  have hd : Does cfg (.call (.c (.func 124 [])) [.c (.str s), .c (.str [44]), .c (.int .i64 0)]) Heap.nil (.func 136 [.ptr 1 0, .ptr 0 0, .ptr 2 0]) ⟨[[.str s], [.str [44]], [.int .i64 0]], [], []⟩ :=
    does_callN h1 rfl h1 rfl rfl
  refine ⟨.func 136 [.ptr 1 0, .ptr 0 0, .ptr 2 0], ⟨[[.str s], [.str [44]], [.int .i64 0]], [], []⟩, ?_, rfl⟩
  rw [l103]
  exact go 60 []  trivial  (.effY (show Does cfg (AOp.call (Opd.c (AV.func (124 : FuncId) [])) [Opd.c (AV.str s), Opd.c (AV.str [(44 : UInt8)]), Opd.c (AV.int IntKind.i64 (0 : Int))]) Heap.nil (AV.func (136 : FuncId) [AV.ptr (1 : Nat) (0 : Nat), AV.ptr (0 : Nat) (0 : Nat), AV.ptr (2 : Nat) (0 : Nat)]) { boxes := [[AV.str s], [AV.str [(44 : UInt8)]], [AV.int IntKind.i64 (0 : Int)]], toks := [], loops := [] : Heap } from hd) <| .fin ((ARes.ret (AV.func (136 : Nat) [AV.ptr (1 : Nat) (0 : Nat), AV.ptr (0 : Nat) (0 : Nat), AV.ptr (2 : Nat) (0 : Nat)]), { boxes := [[AV.str s], [AV.str [(44 : UInt8)]], [AV.int IntKind.i64 (0 : Int)]], toks := [], loops := [] : Heap })) rfl) (by kernel_rfl)
theorem seq1Taint (s0 s : List UInt8) : lim cfg (.fn 103) [.str s, .str [44]] ⟨[oTaint0 s0 [], oTaint1 [], oTaint2 [], oTaint3 []], [], []⟩ = some (.ret (.func 136 [.ptr 5 0, .ptr 4 0, .ptr 6 0]), ⟨[oTaint0 s0 [], oTaint1 [], oTaint2 [], oTaint3 [], [.str s], [.str [44]], [.int .i64 0]], [], []⟩) := by
  have h0 : lim cfg (.fn 124) [.str s, .str [44], .int .i64 0] Heap.nil = some (.ret (.func 136 [.ptr 1 0, .ptr 0 0, .ptr 2 0]), ⟨[[.str s], [.str [44]], [.int .i64 0]], [], []⟩) := by
    rw [l124]
    exact go 60 []  trivial  (.fin ((ARes.ret (AV.func (136 : Nat) [AV.ptr (1 : Nat) (0 : Nat), AV.ptr (0 : Nat) (0 : Nat), AV.ptr (2 : Nat) (0 : Nat)]), { boxes := [[AV.str s], [AV.str [(44 : UInt8)]], [AV.int IntKind.i64 (0 : Int)]], toks := [], loops := [] : Heap })) rfl) (by kernel_rfl)
  have h1 : lim cfg (.fn 124) [.str s, .str [44], .int .i64 0] ⟨[oTaint0 s0 [], oTaint1 [], oTaint2 [], oTaint3 []], [], []⟩ = some (.ret (.func 136 [.ptr 5 0, .ptr 4 0, .ptr 6 0]), ⟨[oTaint0 s0 [], oTaint1 [], oTaint2 [], oTaint3 [], [.str s], [.str [44]], [.int .i64 0]], [], []⟩) := by
    rw [l124]
    exact go 60 []  trivial  (.fin ((ARes.ret (AV.func (136 : Nat) [AV.ptr (5 : Nat) (0 : Nat), AV.ptr (4 : Nat) (0 : Nat), AV.ptr (6 : Nat) (0 : Nat)]), { boxes := [[AV.str s0], [AV.func (73 : Nat) []], [AV.func (20 : Nat) []], [AV.sl SK.full []], [AV.str s], [AV.str [(44 : UInt8)]], [AV.int IntKind.i64 (0 : Int)]], toks := [], loops := [] : Heap })) rfl) (by kernel_rfl)
  have hd : Does cfg (.call (.c (.func 124 [])) [.c (.str s), .c (.str [44]), .c (.int .i64 0)]) ⟨[oTaint0 s0 [], oTaint1 [], oTaint2 [], oTaint3 []], [], []⟩ (.func 136 [.ptr 5 0, .ptr 4 0, .ptr 6 0]) ⟨[oTaint0 s0 [], oTaint1 [], oTaint2 [], oTaint3 [], [.str s], [.str [44]], [.int .i64 0]], [], []⟩ :=
    does_callN h0 rfl h1 rfl rfl
  rw [l103]
  exact go 60 []  trivial  (.effY (show Does cfg (AOp.call (Opd.c (AV.func (124 : FuncId) [])) [Opd.c (AV.str s), Opd.c (AV.str [(44 : UInt8)]), Opd.c (AV.int IntKind.i64 (0 : Int))]) { boxes := [oTaint0 s0 [], oTaint1 [], oTaint2 [], oTaint3 []], toks := [], loops := [] : Heap } (AV.func (136 : FuncId) [AV.ptr (5 : Nat) (0 : Nat), AV.ptr (4 : Nat) (0 : Nat), AV.ptr (6 : Nat) (0 : Nat)]) { boxes := [oTaint0 s0 [], oTaint1 [], oTaint2 [], oTaint3 [], [AV.str s], [AV.str [(44 : UInt8)]], [AV.int IntKind.i64 (0 : Int)]], toks := [], loops := [] : Heap } from hd) <| .fin ((ARes.ret (AV.func (136 : Nat) [AV.ptr (5 : Nat) (0 : Nat), AV.ptr (4 : Nat) (0 : Nat), AV.ptr (6 : Nat) (0 : Nat)]), { boxes := [[AV.str s0], [AV.func (73 : Nat) []], [AV.func (20 : Nat) []], [AV.sl SK.full []], [AV.str s], [AV.str [(44 : UInt8)]], [AV.int IntKind.i64 (0 : Int)]], toks := [], loops := [] : Heap })) rfl) (by kernel_rfl)
theorem tryTaint (pf : List UInt8 → Option Taint) (ck : List Taint → Int) (hp : ∀ p x, p.length ≤ 1000 → pf p = some x → Gives cfg 73 [.str p] (encT x)) (hpn : ∀ p, p.length ≤ 1000 → p ≠ [] → pf p = none → Pans cfg 73 [.str p] (stopV 2))
    (hck : ∀ l : List Taint, Gives cfg 20 [.sl .sh (l.map encT)] (.int .i64 (ck l))) (s : List UInt8) (hl : s.length ≤ 1000) :
    match foldE (collect pf) [] (parts 44 s) with
    | none => ∃ H', lim cfg (.fn 101) [.func 102 [.ptr 0 0, .ptr 3 0, .ptr 1 0, .ptr 2 0]] ⟨[oTaint0 s [], oTaint1 [], oTaint2 [], oTaint3 []], [], []⟩ = some (.ret (.int .i64 2), H')
    | some l => if ck l = 0 then ∃ last, lim cfg (.fn 101) [.func 102 [.ptr 0 0, .ptr 3 0, .ptr 1 0, .ptr 2 0]] ⟨[oTaint0 s [], oTaint1 [], oTaint2 [], oTaint3 []], [], []⟩ = some (.ret (.int .i64 0), ⟨[oTaint0 s l, oTaint1 l, oTaint2 l, oTaint3 l, [.str last], [.str [44]], [.int .i64 0]], tkR encT l, []⟩)
      else ∃ H', lim cfg (.fn 101) [.func 102 [.ptr 0 0, .ptr 3 0, .ptr 1 0, .ptr 2 0]] ⟨[oTaint0 s [], oTaint1 [], oTaint2 [], oTaint3 []], [], []⟩ = some (.ret (.int .i64 (ck l)), H') := by
  obtain ⟨v0, H0, h0, hn0⟩ := seq0Taint s
  have hd : Does cfg (.call (.c (.func 103 [])) [.c (.str s), .c (.str [44])]) ⟨[oTaint0 s [], oTaint1 [], oTaint2 [], oTaint3 []], [], []⟩ (.func 136 [.ptr 5 0, .ptr 4 0, .ptr 6 0]) ⟨[oTaint0 s [], oTaint1 [], oTaint2 [], oTaint3 [], [.str s], [.str [44]], [.int .i64 0]], [], []⟩ :=
    does_callN h0 hn0 (seq1Taint s s) rfl rfl
  have clo : ∀ R, (∀ T (hT : Has T [(0, .ptr 0 0), (1, .ptr 3 0), (2, .ptr 1 0), (3, .ptr 2 0), (6, .func 136 [.ptr 5 0, .ptr 4 0, .ptr 6 0])]), Goes cfg a102 kr102_0 T ⟨[oTaint0 s [], oTaint1 [], oTaint2 [], oTaint3 [], [.str s], [.str [44]], [.int .i64 0]], [], []⟩ R) →
      ∃ r, lim cfg (.fn 102) [.ptr 0 0, .ptr 3 0, .ptr 1 0, .ptr 2 0] ⟨[oTaint0 s [], oTaint1 [], oTaint2 [], oTaint3 []], [], []⟩ = some r ∧ R r := by
    intro R h
    rw [l102]
    have key : Goes cfg a102 [.c c102] (initEnv [.ptr 0 0, .ptr 3 0, .ptr 1 0, .ptr 2 0]) ⟨[oTaint0 s [], oTaint1 [], oTaint2 [], oTaint3 []], [], []⟩ R := by
      exact goG 60 []  trivial  (.effY (show Does cfg (AOp.call (Opd.c (AV.func (103 : FuncId) [])) [Opd.c (AV.str s), Opd.c (AV.str [(44 : UInt8)])]) { boxes := [oTaint0 s [], oTaint1 [], oTaint2 [], oTaint3 []], toks := [], loops := [] : Heap } (AV.func (136 : FuncId) [AV.ptr (5 : Nat) (0 : Nat), AV.ptr (4 : Nat) (0 : Nat), AV.ptr (6 : Nat) (0 : Nat)]) { boxes := [oTaint0 s [], oTaint1 [], oTaint2 [], oTaint3 [], [AV.str s], [AV.str [(44 : UInt8)]], [AV.int IntKind.i64 (0 : Int)]], toks := [], loops := [] : Heap } from hd) <| .cutQ kr102_0 [(0, AV.ptr (0 : Nat) (0 : Nat)), (1, AV.ptr (3 : Nat) (0 : Nat)), (2, AV.ptr (1 : Nat) (0 : Nat)), (3, AV.ptr (2 : Nat) (0 : Nat)), (6, AV.func (136 : Nat) [AV.ptr (5 : Nat) (0 : Nat), AV.ptr (4 : Nat) (0 : Nat), AV.ptr (6 : Nat) (0 : Nat)])] ({ boxes := [[AV.str s], [AV.func (73 : Nat) []], [AV.func (20 : Nat) []], [AV.sl SK.full []], [AV.str s], [AV.str [(44 : UInt8)]], [AV.int IntKind.i64 (0 : Int)]], toks := [], loops := [] : Heap }) (fun T hT => (h T hT))) (by kernel_rfl)
    exact key
  cases hf : foldE (collect pf) [] (parts 44 s) with
  | none =>
    obtain ⟨r, h1, h2⟩ := clo (fun r => r.1 = .pan (stopV 2)) (fun T hT => by
      obtain ⟨H', e⟩ := (rgTaint s pf hp hpn s hl T hT).2 hf
      exact ⟨_, e, rfl⟩)
    obtain ⟨x, H'⟩ := r
    simp only at h2
    subst h2
    exact ⟨H', by rw [lim_try rfl, h1]; rfl⟩
  | some l =>
    simp only
    have hg := hck l
    by_cases hc : ck l = 0
    · rw [if_pos hc]
      rw [hc] at hg
      obtain ⟨r, h1, h2⟩ := clo (fun r => ∃ last, r = (.ret (.tuple []), ⟨[oTaint0 s l, oTaint1 l, oTaint2 l, oTaint3 l, [.str last], [.str [44]], [.int .i64 0]], tkR encT l, []⟩)) (fun T hT => by
        obtain ⟨last, e⟩ := (rgTaint s pf hp hpn s hl T hT).1 l hf
        have key : Goes cfg a102 kr102_0.tail T ⟨[oTaint0 s l, oTaint1 l, oTaint2 l, oTaint3 l, [.str last], [.str [44]], [.int .i64 0]], tkR encT l, []⟩ (fun r => r = (.ret (.tuple []), ⟨[oTaint0 s l, oTaint1 l, oTaint2 l, oTaint3 l, [.str last], [.str [44]], [.int .i64 0]], tkR encT l, []⟩)) := by
          exact goG 60 _  hT  (.callG ([AV.sl (skF l) (List.map encT l)]) (AV.int IntKind.i64 (0 : Int)) (show Gives cfg (20 : FuncId) [AV.sl SK.sh (List.map encT l)] (AV.int IntKind.i64 (0 : Int)) from hg) Shuts.p ⟨rfl, rfl⟩ <| .callG ([AV.int IntKind.i64 (0 : Int)]) (AV.tuple []) (show Gives cfg (76 : FuncId) [AV.int IntKind.i64 (0 : Int)] (AV.tuple []) from stop_ok) ⟨rfl, rfl⟩ ⟨rfl, rfl⟩ <| .fin ((ARes.ret (AV.tuple []), { boxes := [[AV.str s], [AV.func (73 : Nat) []], [AV.func (20 : Nat) []], [AV.sl (skF l) (List.map encT l)], [AV.str last], [AV.str [(44 : UInt8)]], [AV.int IntKind.i64 (0 : Int)]], toks := tkR encT l, loops := [] : Heap })) rfl) (by kernel_rfl)
        obtain ⟨r, k1, k2⟩ := key
        exact ⟨r, e.trans k1, last, k2⟩)
      obtain ⟨last, rfl⟩ := h2
      exact ⟨last, by rw [lim_try rfl, h1]; rfl⟩
    · rw [if_neg hc]
      obtain ⟨r, h1, h2⟩ := clo (fun r => r.1 = .pan (stopV (ck l))) (fun T hT => by
        obtain ⟨last, e⟩ := (rgTaint s pf hp hpn s hl T hT).1 l hf
        have hst := stop_pan hc
        have key : Goes cfg a102 kr102_0.tail T ⟨[oTaint0 s l, oTaint1 l, oTaint2 l, oTaint3 l, [.str last], [.str [44]], [.int .i64 0]], tkR encT l, []⟩ (fun r => r.1 = .pan (stopV (ck l))) := by
          exact goG 60 _  hT  (.callG ([AV.sl (skF l) (List.map encT l)]) (AV.int IntKind.i64 (ck l)) (show Gives cfg (20 : FuncId) [AV.sl SK.sh (List.map encT l)] (AV.int IntKind.i64 (ck l)) from hg) Shuts.p ⟨rfl, rfl⟩ <| .callP ([AV.int IntKind.i64 (ck l)]) ({ boxes := [[AV.str s], [AV.func (73 : Nat) []], [AV.func (20 : Nat) []], [AV.sl (skF l) (List.map encT l)], [AV.str last], [AV.str [(44 : UInt8)]], [AV.int IntKind.i64 (0 : Int)]], toks := tkR encT l, loops := [] : Heap }) (show Pans cfg (76 : FuncId) [AV.int IntKind.i64 (ck l)] (stopV (ck l)) from hst) ⟨rfl, rfl⟩ rfl rfl) (by kernel_rfl)
        obtain ⟨r, k1, k2⟩ := key
        exact ⟨r, e.trans k1, k2⟩)
      obtain ⟨x, H'⟩ := r
      simp only at h2
      subst h2
      exact ⟨H', by rw [lim_try rfl, h1]; rfl⟩
theorem partsTaint (pf : List UInt8 → Option Taint) (ck : List Taint → Int) (hp : ∀ p x, p.length ≤ 1000 → pf p = some x → Gives cfg 73 [.str p] (encT x)) (hpn : ∀ p, p.length ≤ 1000 → p ≠ [] → pf p = none → Pans cfg 73 [.str p] (stopV 2))
    (hck : ∀ l : List Taint, Gives cfg 20 [.sl .sh (l.map encT)] (.int .i64 (ck l))) (s : List UInt8) (hl : s.length ≤ 1000) :
    Gives cfg 72 [.str s, .func 73 [], .func 20 []] (.tuple [rowF encT (parsed pf ck s).1, .int .i64 (parsed pf ck s).2]) := by
  refine Gives.run (l72 _ _) ?_
  by_cases hs : s = [45]
  · subst hs
    exact goG 60 []  trivial  (.tt <| .fin ((ARes.ret (AV.tuple [AV.sl SK.full [], AV.int IntKind.i64 (0 : Int)]), { boxes := [[AV.str [(45 : UInt8)]], [AV.func (73 : Nat) []], [AV.func (20 : Nat) []]], toks := [], loops := [] : Heap })) rfl) (by kernel_rfl)
  · have ht := tryTaint pf ck hp hpn hck s hl
    simp only [parsed, if_neg hs]
    cases hf : foldE (collect pf) [] (parts 44 s) with
    | none =>
      simp only [hf] at ht ⊢
      obtain ⟨H', ht⟩ := ht
      have hd := does_callE (xs := [.func 102 [.ptr 0 0, .ptr 3 0, .ptr 1 0, .ptr 2 0]]) (caps := []) ht rfl rfl
      generalize trunc _ _ _ H' = H2 at hd
      exact goG 60 []  trivial  (.no (show (s == [(45 : UInt8)]) = false from Bool.eq_false_iff.2 (show ¬ ((s == [(45 : UInt8)]) = true) from (by simpa using hs))) <| .effY (show Does cfg (AOp.call (Opd.c (AV.func (101 : FuncId) [])) (List.map Opd.c [AV.func (102 : FuncId) [AV.ptr (0 : Nat) (0 : Nat), AV.ptr (3 : Nat) (0 : Nat), AV.ptr (1 : Nat) (0 : Nat), AV.ptr (2 : Nat) (0 : Nat)]])) { boxes := [oTaint0 s [], oTaint1 [], oTaint2 [], oTaint3 []], toks := [], loops := [] : Heap } (shutA (AV.int IntKind.i64 (2 : Int))) H2 from hd) <| .tt <| .fin ((ARes.ret (AV.tuple [AV.sl SK.full [], AV.int IntKind.i64 (2 : Int)]), H2)) rfl) (by kernel_rfl)
    | some l =>
      simp only [hf] at ht ⊢
      by_cases hc : ck l = 0
      · rw [if_pos hc] at ht
        simp only [if_pos hc]
        obtain ⟨last, ht⟩ := ht
        have hd : Does cfg (.call (.c (.func 101 [])) [.c (.func 102 [.ptr 0 0, .ptr 3 0, .ptr 1 0, .ptr 2 0])]) ⟨[oTaint0 s [], oTaint1 [], oTaint2 [], oTaint3 []], [], []⟩ (.int .i64 0) ⟨[oTaint0 s l, oTaint1 l, oTaint2 l, oTaint3 l], tkR encT l, []⟩ := by
          have hd := does_callE (xs := [.func 102 [.ptr 0 0, .ptr 3 0, .ptr 1 0, .ptr 2 0]]) (caps := []) ht rfl rfl
          refine Eq.mp ?_ hd
          congr 1
          cases l <;> rfl
        exact goG 60 []  trivial  (.no (show (s == [(45 : UInt8)]) = false from Bool.eq_false_iff.2 (show ¬ ((s == [(45 : UInt8)]) = true) from (by simpa using hs))) <| .effY (show Does cfg (AOp.call (Opd.c (AV.func (101 : FuncId) [])) [Opd.c (AV.func (102 : FuncId) [AV.ptr (0 : Nat) (0 : Nat), AV.ptr (3 : Nat) (0 : Nat), AV.ptr (1 : Nat) (0 : Nat), AV.ptr (2 : Nat) (0 : Nat)])]) { boxes := [oTaint0 s [], oTaint1 [], oTaint2 [], oTaint3 []], toks := [], loops := [] : Heap } (AV.int IntKind.i64 (0 : Int)) { boxes := [oTaint0 s l, oTaint1 l, oTaint2 l, oTaint3 l], toks := tkR encT l, loops := [] : Heap } from hd) <| .ff <| .fin ((ARes.ret (AV.tuple [AV.sl (skF l) (List.map encT l), AV.int IntKind.i64 (0 : Int)]), { boxes := [[AV.str s], [AV.func (73 : Nat) []], [AV.func (20 : Nat) []], [AV.sl (skF l) (List.map encT l)]], toks := tkR encT l, loops := [] : Heap })) rfl) (by kernel_rfl)
      · rw [if_neg hc] at ht
        simp only [if_neg hc]
        obtain ⟨H', ht⟩ := ht
        have hd := does_callE (xs := [.func 102 [.ptr 0 0, .ptr 3 0, .ptr 1 0, .ptr 2 0]]) (caps := []) ht rfl rfl
        generalize trunc _ _ _ H' = H2 at hd
        exact goG 60 []  trivial  (.no (show (s == [(45 : UInt8)]) = false from Bool.eq_false_iff.2 (show ¬ ((s == [(45 : UInt8)]) = true) from (by simpa using hs))) <| .effY (show Does cfg (AOp.call (Opd.c (AV.func (101 : FuncId) [])) (List.map Opd.c [AV.func (102 : FuncId) [AV.ptr (0 : Nat) (0 : Nat), AV.ptr (3 : Nat) (0 : Nat), AV.ptr (1 : Nat) (0 : Nat), AV.ptr (2 : Nat) (0 : Nat)]])) { boxes := [oTaint0 s [], oTaint1 [], oTaint2 [], oTaint3 []], toks := [], loops := [] : Heap } (shutA (AV.int IntKind.i64 (ck l))) H2 from hd) <| .yes (show (ck l != (0 : Int)) = true from (by simpa using hc)) <| .fin ((ARes.ret (AV.tuple [AV.sl SK.full [], AV.int IntKind.i64 (ck l)]), H2)) rfl) (by kernel_rfl)

section
variable (s0 : List UInt8)
def oTol0 (_ : List Tol) : List AV := [.str s0]
def oTol1 (_ : List Tol) : List AV := [.func 79 []]
def oTol2 (_ : List Tol) : List AV := [.func 21 []]
def oTol3 (acc : List Tol) : List AV := [rowF encL acc]
theorem trTol (rc : LRec) (h1 : rc.nb = 7) (h2 : rc.nt = 0) (acc : List Tol) (rest : List UInt8) (n : Nat) (hn : n ≤ 1) (h0 : n = 1 → acc ≠ []) (v : AV) (hv : within 7 n v = true) :
    trunc 7 n v ⟨[oTol0 s0 acc, oTol1 acc, oTol2 acc, oTol3 acc, [.str rest], [.str [44]], [.int .i64 0]], tkR encL acc, [rc]⟩ = ⟨[oTol0 s0 acc, oTol1 acc, oTol2 acc, oTol3 acc, [.str rest], [.str [44]], [.int .i64 0]], tkR encL acc, [rc]⟩ := by
  have hb : ∀ (b : Bool) (l : List (List AV)), l.length = 7 → (if b = true then l.take 7 else l) = l := fun b l hl => by
    split
    · exact List.take_of_length_le (by omega)
    · rfl
  unfold trunc
  simp only
  rw [hb _ _ rfl]
  simp only [Heap.mk.injEq, true_and, and_true]
  cases acc with
  | nil => simp [tk_nil]
  | cons x l =>
    rw [tk_cons]
    rcases Nat.lt_or_ge n 1 with h | h
    · have : n = 0 := by omega
      subst this
      have hf : (([oTol0 s0 (x :: l), oTol1 (x :: l), oTol2 (x :: l), oTol3 (x :: l), [.str rest], [.str [44]], [.int .i64 0]] : List (List AV)).all fun x_1 => x_1.all (in2 ([oTol0 s0 (x :: l), oTol1 (x :: l), oTol2 (x :: l), oTol3 (x :: l), [.str rest], [.str [44]], [.int .i64 0]] : List (List AV)).length 0)) = false := rfl
      rw [hf]
      simp
    · have : n = 1 := by omega
      subst this
      split <;> rfl
theorem ylTol (pf : List UInt8 → Option Tol) (rc : LRec) (T0 : Env) (hA : rc.A = a107) (hT0 : rc.T = T0) (hps : rc.ps = [7]) (has : rc.assign = ra107_0) (hbd : rc.body = rb107_0) (hbu : rc.busy = false) (h1 : rc.nb = 7) (h2 : rc.nt = 0) (hT : Has T0 [(1, .ptr 3 0), (2, .ptr 1 0)])
    (hp : ∀ p x, p.length ≤ 1000 → pf p = some x → Gives cfg 79 [.str p] (encL x)) (acc : List Tol) (p rest : List UInt8) (acc' : List Tol) (hl : p.length ≤ 1000) (hacc : acc.length ≤ 100000) (hf : collect pf acc p = some acc') :
    Does cfg (.call (.c (.yield 0)) [.c (.str p)]) (hS (oTol0 s0) oTol1 oTol2 oTol3 (tkR encL) rc acc rest) (.bool true) (hS (oTol0 s0) oTol1 oTol2 oTol3 (tkR encL) rc acc' rest) := by
  unfold collect at hf
  split at hf
  · cases hf
  rename_i hne
  simp only [Option.map_eq_some_iff] at hf
  obtain ⟨x, hx, rfl⟩ := hf
  have hg := hp p x hl hx
  have key : Goes cfg roundA [.c rb107_0] (upd (psetA T0 [7] [.str p]) 4 (.str p)) (hB (oTol0 s0) oTol1 oTol2 oTol3 (tkR encL) rc acc rest) (fun r => r = (.ret (.tuple []), hB (oTol0 s0) oTol1 oTol2 oTol3 (tkR encL) rc (acc ++ [x]) rest)) := by
    have hT' : Has (upd (psetA T0 [7] [.str p]) 4 (.str p)) [(1, .ptr 3 0), (2, .ptr 1 0), (4, .str p)] := ⟨hT.1, hT.2.1, rfl, trivial⟩
    exact goG 60 _  hT'  (.no (show (p == []) = false from Bool.eq_false_iff.2 (show ¬ ((p == []) = true) from (by simpa using hne))) <| .callG ([AV.str p]) (AV.agg [AV.str x.key, AV.str x.val, AV.bool x.any]) (show Gives cfg (79 : FuncId) [AV.str p] (encL x) from hg) ⟨rfl, rfl⟩ ⟨rfl, rfl⟩ <| .append (show appendA (3 : Nat) (40 : Nat) { boxes := [[AV.str s0], [AV.func (79 : Nat) []], [AV.func (21 : Nat) []], [AV.sl (skF acc) (List.map encL acc)], [AV.str rest], [AV.str [(44 : UInt8)]], [AV.int IntKind.i64 (0 : Int)]], toks := tkR encL acc, loops := [{ A := rc.A, T := rc.T, ps := rc.ps, assign := rc.assign, body := rc.body, busy := true, nb := rc.nb, nt := rc.nt, nl := rc.nl : LRec }] : Heap } (AV.sl (skF acc) (List.map encL acc)) (AV.sl SK.full [AV.agg [AV.str x.key, AV.str x.val, AV.bool x.any]]) = some ((rowF encL (acc ++ [x]), { boxes := [[AV.str s0], [AV.func (79 : Nat) []], [AV.func (21 : Nat) []], [AV.sl (skF acc) (List.map encL acc)], [AV.str rest], [AV.str [(44 : UInt8)]], [AV.int IntKind.i64 (0 : Int)]], toks := tkR encL (acc ++ [x]), loops := [{ A := rc.A, T := rc.T, ps := rc.ps, assign := rc.assign, body := rc.body, busy := true, nb := rc.nb, nt := rc.nt, nl := rc.nl : LRec }] : Heap })) from row_append_T _ (by simp; omega) (by exact lenL) (by rfl) (by rfl)) <| .fin ((ARes.ret (AV.tuple []), { boxes := [[AV.str s0], [AV.func (79 : Nat) []], [AV.func (21 : Nat) []], [AV.sl (skF (acc ++ [x])) (List.map encL (acc ++ [x]))], [AV.str rest], [AV.str [(44 : UInt8)]], [AV.int IntKind.i64 (0 : Int)]], toks := tkR encL (acc ++ [x]), loops := [{ A := rc.A, T := rc.T, ps := rc.ps, assign := rc.assign, body := rc.body, busy := true, nb := rc.nb, nt := rc.nt, nl := rc.nl : LRec }] : Heap })) rfl) (by kernel_rfl)
  obtain ⟨r, hr, rfl⟩ := key
  have hrun : runL cfg roundA [.c rc.assign, .beg 0, .c rc.body] (psetA rc.T rc.ps [.str p]) (hS (oTol0 s0) oTol1 oTol2 oTol3 (tkR encL) rc acc rest) = some (.ret (.tuple []), hB (oTol0 s0) oTol1 oTol2 oTol3 (tkR encL) rc (acc ++ [x]) rest) := by
    rw [hT0, hps, has, hbd]
    rw [show (ra107_0 : ACode) = .region [⟨some 4, .mov (.t 7), none, []⟩] false from rfl, runL_assign, runL_beg (r := rc) rfl hbu]
    exact hr
  have h3 := yl_ret (cfg := cfg) (l := 0) (args := [.str p]) (r := rc) (r' := { rc with busy := true }) rfl (by rw [hps]; rfl) hrun rfl
  have e1 : ({ ({ rc with busy := true } : LRec) with busy := false } : LRec) = rc := by cases rc; simp only at hbu; subst hbu; rfl
  have h4 := does_yield h3 rfl
  refine Eq.mp ?_ h4
  congr 1
  show trunc 7 (tkR encL acc).length (.bool true) ⟨[oTol0 s0 (acc ++ [x]), oTol1 (acc ++ [x]), oTol2 (acc ++ [x]), oTol3 (acc ++ [x]), [.str rest], [.str [44]], [.int .i64 0]], tkR encL (acc ++ [x]), [{ ({ rc with busy := true } : LRec) with busy := false }]⟩ = _
  rw [e1]
  refine trTol s0 rc h1 h2 _ rest _ ?_ (fun _ => by simp) _ rfl
  cases acc with
  | nil => simp [tk_nil]
  | cons y l => simp [tk_cons]
theorem ynTol (pf : List UInt8 → Option Tol) (rc : LRec) (T0 : Env) (hA : rc.A = a107) (hT0 : rc.T = T0) (hps : rc.ps = [7]) (has : rc.assign = ra107_0) (hbd : rc.body = rb107_0) (hbu : rc.busy = false) (h1 : rc.nb = 7) (h2 : rc.nt = 0) (hT : Has T0 [(1, .ptr 3 0), (2, .ptr 1 0)])
    (hp : ∀ p, p.length ≤ 1000 → p ≠ [] → pf p = none → Pans cfg 79 [.str p] (stopV 2)) (acc : List Tol) (p rest : List UInt8) (hl : p.length ≤ 1000) (hf : collect pf acc p = none) :
    DoesP cfg (.call (.c (.yield 0)) [.c (.str p)]) (hS (oTol0 s0) oTol1 oTol2 oTol3 (tkR encL) rc acc rest) (stopV 2) (hB (oTol0 s0) oTol1 oTol2 oTol3 (tkR encL) rc acc rest) := by
  have key : Goes cfg roundA [.c rb107_0] (upd (psetA T0 [7] [.str p]) 4 (.str p)) (hB (oTol0 s0) oTol1 oTol2 oTol3 (tkR encL) rc acc rest) (fun r => r = (.pan (stopV 2), hB (oTol0 s0) oTol1 oTol2 oTol3 (tkR encL) rc acc rest)) := by
    have hT' : Has (upd (psetA T0 [7] [.str p]) 4 (.str p)) [(1, .ptr 3 0), (2, .ptr 1 0), (4, .str p)] := ⟨hT.1, hT.2.1, rfl, trivial⟩
    by_cases hne : p = []
    · subst hne
      have hs : Pans cfg 76 [.int .i64 2] (stopV 2) := stop_pan (by decide)
      exact goG 60 _  hT'  (.tt <| .callP ([AV.int IntKind.i64 (2 : Int)]) ({ boxes := [[AV.str s0], [AV.func (79 : Nat) []], [AV.func (21 : Nat) []], [AV.sl (skF acc) (List.map encL acc)], [AV.str rest], [AV.str [(44 : UInt8)]], [AV.int IntKind.i64 (0 : Int)]], toks := tkR encL acc, loops := [{ A := rc.A, T := rc.T, ps := rc.ps, assign := rc.assign, body := rc.body, busy := true, nb := rc.nb, nt := rc.nt, nl := rc.nl : LRec }] : Heap }) (show Pans cfg (76 : FuncId) [AV.int IntKind.i64 (2 : Int)] (stopV (2 : Int)) from hs) ⟨rfl, rfl⟩ rfl rfl) (by kernel_rfl)
    · have hx : pf p = none := by
        unfold collect at hf
        rw [if_neg hne] at hf
        simpa using hf
      have hg := hp p hl hne hx
      exact goG 60 _  hT'  (.no (show (p == []) = false from Bool.eq_false_iff.2 (show ¬ ((p == []) = true) from (by simpa using hne))) <| .callP ([AV.str p]) ({ boxes := [[AV.str s0], [AV.func (79 : Nat) []], [AV.func (21 : Nat) []], [AV.sl (skF acc) (List.map encL acc)], [AV.str rest], [AV.str [(44 : UInt8)]], [AV.int IntKind.i64 (0 : Int)]], toks := tkR encL acc, loops := [{ A := rc.A, T := rc.T, ps := rc.ps, assign := rc.assign, body := rc.body, busy := true, nb := rc.nb, nt := rc.nt, nl := rc.nl : LRec }] : Heap }) (show Pans cfg (79 : FuncId) [AV.str p] (stopV (2 : Int)) from hg) ⟨rfl, rfl⟩ rfl rfl) (by kernel_rfl)
  obtain ⟨r, hr, rfl⟩ := key
  have hrun : runL cfg roundA [.c rc.assign, .beg 0, .c rc.body] (psetA rc.T rc.ps [.str p]) (hS (oTol0 s0) oTol1 oTol2 oTol3 (tkR encL) rc acc rest) = some (.pan (stopV 2), hB (oTol0 s0) oTol1 oTol2 oTol3 (tkR encL) rc acc rest) := by
    rw [hT0, hps, has, hbd]
    rw [show (ra107_0 : ACode) = .region [⟨some 4, .mov (.t 7), none, []⟩] false from rfl, runL_assign, runL_beg (r := rc) rfl hbu]
    exact hr
  have h3 := yl_pan (cfg := cfg) (l := 0) (args := [.str p]) (r := rc) rfl (by rw [hps]; rfl) hrun
  have h4 := does_yieldP h3 rfl
  refine Eq.mp ?_ h4
  congr 1
  refine trTol s0 { rc with busy := true } h1 h2 _ rest _ ?_ (fun h => ?_) _ rfl
  · show (tkR encL acc).length ≤ 1
    cases acc with
    | nil => simp [tk_nil]
    | cons y l => simp [tk_cons]
  · rintro rfl
    change (tkR encL []).length = 1 at h
    simp [tk_nil] at h
theorem inTol (acc : List Tol) (rest : List UInt8) : ([oTol0 s0 acc, oTol1 acc, oTol2 acc, oTol3 acc, [.str rest], [.str [44]], [.int .i64 0]] : List (List AV)).all (fun b => b.all (in2 7 (tkR encL acc).length)) = true := by
  cases acc with
  | nil => rfl
  | cons x l => rw [tk_cons]; rfl
theorem rgTol (pf : List UInt8 → Option Tol) (hp : ∀ p x, p.length ≤ 1000 → pf p = some x → Gives cfg 79 [.str p] (encL x)) (hpn : ∀ p, p.length ≤ 1000 → p ≠ [] → pf p = none → Pans cfg 79 [.str p] (stopV 2))
    (s : List UInt8) (hl : s.length ≤ 1000) (T : Env) (hT : Has T [(0, .ptr 0 0), (1, .ptr 3 0), (2, .ptr 1 0), (3, .ptr 2 0), (6, .func 136 [.ptr 5 0, .ptr 4 0, .ptr 6 0])]) :
    (∀ l, foldE (collect pf) [] (parts 44 s) = some l → ∃ last, runL cfg a107 kr107_0 T ⟨[oTol0 s0 [], oTol1 [], oTol2 [], oTol3 [], [.str s], [.str [44]], [.int .i64 0]], [], []⟩ = runL cfg a107 kr107_0.tail T ⟨[oTol0 s0 l, oTol1 l, oTol2 l, oTol3 l, [.str last], [.str [44]], [.int .i64 0]], tkR encL l, []⟩) ∧
    (foldE (collect pf) [] (parts 44 s) = none → ∃ H', runL cfg a107 kr107_0 T ⟨[oTol0 s0 [], oTol1 [], oTol2 [], oTol3 [], [.str s], [.str [44]], [.int .i64 0]], [], []⟩ = some (.pan (stopV 2), H')) := by
  let rc : LRec := ⟨a107, T, [7], ra107_0, rb107_0, false, 7, 0, 0⟩
  have hT12 : Has T [(1, .ptr 3 0), (2, .ptr 1 0)] := ⟨hT.2.1, hT.2.2.1, trivial⟩
  obtain ⟨r, hr, hs⟩ := seq_call (oTol0 s0) oTol1 oTol2 oTol3 (tkR encL) rc (stopV 2) (fun acc m => acc.length + m ≤ 2000) (collect pf)
    (fun a x a' m h hc => by
      unfold collect at hc
      split at hc
      · cases hc
      · simp only [Option.map_eq_some_iff] at hc
        obtain ⟨y, -, rfl⟩ := hc
        simp only [List.length_append, List.length_cons, List.length_nil]
        omega)
    (fun a p rest a' h1 h2 h3 => ylTol s0 pf rc T rfl rfl rfl rfl rfl rfl rfl rfl hT12 hp a p rest a' h1 (by omega) h3)
    (fun a p rest h1 h2 h3 => ynTol s0 pf rc T rfl rfl rfl rfl rfl rfl rfl rfl hT12 hpn a p rest h1 h3)
    s hl [] (by simp; omega)
  have hfv : ev T (.t 6) = .func 136 [.ptr 5 0, .ptr 4 0, .ptr 6 0] := hT.2.2.2.2.1
  have hcall : callV (lim cfg) (.func 136 [.ptr 5 0, .ptr 4 0, .ptr 6 0]) [.yield 0] (hS (oTol0 s0) oTol1 oTol2 oTol3 (tkR encL) rc [] s) = callE (lim cfg) 136 [.yield 0, .ptr 5 0, .ptr 4 0, .ptr 6 0] (hS (oTol0 s0) oTol1 oTol2 oTol3 (tkR encL) rc [] s) := by
    rw [callV_func]; rfl
  constructor
  · intro l hf
    simp only [SeqR, hf] at hs
    obtain ⟨last, rfl⟩ := hs
    refine ⟨last, ?_⟩
    have h1 : callV (lim cfg) (.func 136 [.ptr 5 0, .ptr 4 0, .ptr 6 0]) [.yield 0] (hS (oTol0 s0) oTol1 oTol2 oTol3 (tkR encL) rc [] s) = some (.val (.tuple []) (hS (oTol0 s0) oTol1 oTol2 oTol3 (tkR encL) rc l last)) := by
      rw [hcall]
      simp only [callE, hr]
      congr 2
      exact trTol s0 rc rfl rfl l last 0 (by omega) (by intro h; cases h) (.tuple []) rfl
    have h2 : dropL 0 (hS (oTol0 s0) oTol1 oTol2 oTol3 (tkR encL) rc l last) = some ⟨[oTol0 s0 l, oTol1 l, oTol2 l, oTol3 l, [.str last], [.str [44]], [.int .i64 0]], tkR encL l, []⟩ := by
      exact dropL_of (r := rc) rfl rfl rfl (inTol s0 l last)
    have h3 := rangeA_val (call := lim cfg) (A := a107) (T := T) (ps := [7]) (a := ra107_0) (b := rb107_0) (H := ⟨[oTol0 s0 [], oTol1 [], oTol2 [], oTol3 [], [.str s], [.str [44]], [.int .i64 0]], [], []⟩) h1 h2
    rw [← hfv] at h3
    exact runL_range rfl h3
  · intro hf
    simp only [SeqR, hf] at hs
    obtain ⟨a', last, rfl⟩ := hs
    have h1 : callV (lim cfg) (.func 136 [.ptr 5 0, .ptr 4 0, .ptr 6 0]) [.yield 0] (hS (oTol0 s0) oTol1 oTol2 oTol3 (tkR encL) rc [] s) = some (.pan (stopV 2) (hB (oTol0 s0) oTol1 oTol2 oTol3 (tkR encL) rc a' last)) := by
      rw [hcall]
      simp only [callE, hr]
      congr 2
      exact trTol s0 { rc with busy := true } rfl rfl a' last 0 (by omega) (by intro h; cases h) (stopV 2) rfl
    have h2 : dropP 0 (hB (oTol0 s0) oTol1 oTol2 oTol3 (tkR encL) rc a' last) = some ⟨[oTol0 s0 a', oTol1 a', oTol2 a', oTol3 a', [.str last], [.str [44]], [.int .i64 0]], tkR encL a', []⟩ := by
      exact dropP_of (Nat.lt_add_one 0) rfl (inTol s0 a' last)
    have h3 := rangeA_pan (call := lim cfg) (A := a107) (T := T) (ps := [7]) (a := ra107_0) (b := rb107_0) (H := ⟨[oTol0 s0 [], oTol1 [], oTol2 [], oTol3 [], [.str s], [.str [44]], [.int .i64 0]], [], []⟩) h1 rfl h2
    rw [← hfv] at h3
    exact ⟨_, runL_rangeP rfl h3⟩
end
theorem seq0Tol (s : List UInt8) : ∃ v0 H0, lim cfg (.fn 103) [.str s, .str [44]] Heap.nil = some (.ret v0, H0) ∧ dataOut H0 v0 = none := by
  have h1 : lim cfg (.fn 124) [.str s, .str [44], .int .i64 0] Heap.nil = some (.ret (.func 136 [.ptr 1 0, .ptr 0 0, .ptr 2 0]), ⟨[[.str s], [.str [44]], [.int .i64 0]], [], []⟩) := by
    rw [l124]
    exact go 60 []  trivial  (.fin ((ARes.ret (AV.func (136 : Nat) [AV.ptr (1 : Nat) (0 : Nat), AV.ptr (0 : Nat) (0 : Nat), AV.ptr (2 : Nat) (0 : Nat)]), { boxes := [[AV.str s], [AV.str [(44 : UInt8)]], [AV.int IntKind.i64 (0 : Int)]], toks := [], loops := [] : Heap })) rfl) (by kernel_rfl)
  have hd : Does cfg (.call (.c (.func 124 [])) [.c (.str s), .c (.str [44]), .c (.int .i64 0)]) Heap.nil (.func 136 [.ptr 1 0, .ptr 0 0, .ptr 2 0]) ⟨[[.str s], [.str [44]], [.int .i64 0]], [], []⟩ :=
    does_callN h1 rfl h1 rfl rfl
  refine ⟨.func 136 [.ptr 1 0, .ptr 0 0, .ptr 2 0], ⟨[[.str s], [.str [44]], [.int .i64 0]], [], []⟩, ?_, rfl⟩
  rw [l103]
  exact go 60 []  trivial  (.effY (show Does cfg (AOp.call (Opd.c (AV.func (124 : FuncId) [])) [Opd.c (AV.str s), Opd.c (AV.str [(44 : UInt8)]), Opd.c (AV.int IntKind.i64 (0 : Int))]) Heap.nil (AV.func (136 : FuncId) [AV.ptr (1 : Nat) (0 : Nat), AV.ptr (0 : Nat) (0 : Nat), AV.ptr (2 : Nat) (0 : Nat)]) { boxes := [[AV.str s], [AV.str [(44 : UInt8)]], [AV.int IntKind.i64 (0 : Int)]], toks := [], loops := [] : Heap } from hd) <| .fin ((ARes.ret (AV.func (136 : Nat) [AV.ptr (1 : Nat) (0 : Nat), AV.ptr (0 : Nat) (0 : Nat), AV.ptr (2 : Nat) (0 : Nat)]), { boxes := [[AV.str s], [AV.str [(44 : UInt8)]], [AV.int IntKind.i64 (0 : Int)]], toks := [], loops := [] : Heap })) rfl) (by kernel_rfl)
theorem seq1Tol (s0 s : List UInt8) : lim cfg (.fn 103) [.str s, .str [44]] ⟨[oTol0 s0 [], oTol1 [], oTol2 [], oTol3 []], [], []⟩ = some (.ret (.func 136 [.ptr 5 0, .ptr 4 0, .ptr 6 0]), ⟨[oTol0 s0 [], oTol1 [], oTol2 [], oTol3 [], [.str s], [.str [44]], [.int .i64 0]], [], []⟩) := by
  have h0 : lim cfg (.fn 124) [.str s, .str [44], .int .i64 0] Heap.nil = some (.ret (.func 136 [.ptr 1 0, .ptr 0 0, .ptr 2 0]), ⟨[[.str s], [.str [44]], [.int .i64 0]], [], []⟩) := by
    rw [l124]
    exact go 60 []  trivial  (.fin ((ARes.ret (AV.func (136 : Nat) [AV.ptr (1 : Nat) (0 : Nat), AV.ptr (0 : Nat) (0 : Nat), AV.ptr (2 : Nat) (0 : Nat)]), { boxes := [[AV.str s], [AV.str [(44 : UInt8)]], [AV.int IntKind.i64 (0 : Int)]], toks := [], loops := [] : Heap })) rfl) (by kernel_rfl)
  have h1 : lim cfg (.fn 124) [.str s, .str [44], .int .i64 0] ⟨[oTol0 s0 [], oTol1 [], oTol2 [], oTol3 []], [], []⟩ = some (.ret (.func 136 [.ptr 5 0, .ptr 4 0, .ptr 6 0]), ⟨[oTol0 s0 [], oTol1 [], oTol2 [], oTol3 [], [.str s], [.str [44]], [.int .i64 0]], [], []⟩) := by
    rw [l124]
    exact go 60 []  trivial  (.fin ((ARes.ret (AV.func (136 : Nat) [AV.ptr (5 : Nat) (0 : Nat), AV.ptr (4 : Nat) (0 : Nat), AV.ptr (6 : Nat) (0 : Nat)]), { boxes := [[AV.str s0], [AV.func (79 : Nat) []], [AV.func (21 : Nat) []], [AV.sl SK.full []], [AV.str s], [AV.str [(44 : UInt8)]], [AV.int IntKind.i64 (0 : Int)]], toks := [], loops := [] : Heap })) rfl) (by kernel_rfl)
  have hd : Does cfg (.call (.c (.func 124 [])) [.c (.str s), .c (.str [44]), .c (.int .i64 0)]) ⟨[oTol0 s0 [], oTol1 [], oTol2 [], oTol3 []], [], []⟩ (.func 136 [.ptr 5 0, .ptr 4 0, .ptr 6 0]) ⟨[oTol0 s0 [], oTol1 [], oTol2 [], oTol3 [], [.str s], [.str [44]], [.int .i64 0]], [], []⟩ :=
    does_callN h0 rfl h1 rfl rfl
  rw [l103]
  exact go 60 []  trivial  (.effY (show Does cfg (AOp.call (Opd.c (AV.func (124 : FuncId) [])) [Opd.c (AV.str s), Opd.c (AV.str [(44 : UInt8)]), Opd.c (AV.int IntKind.i64 (0 : Int))]) { boxes := [oTol0 s0 [], oTol1 [], oTol2 [], oTol3 []], toks := [], loops := [] : Heap } (AV.func (136 : FuncId) [AV.ptr (5 : Nat) (0 : Nat), AV.ptr (4 : Nat) (0 : Nat), AV.ptr (6 : Nat) (0 : Nat)]) { boxes := [oTol0 s0 [], oTol1 [], oTol2 [], oTol3 [], [AV.str s], [AV.str [(44 : UInt8)]], [AV.int IntKind.i64 (0 : Int)]], toks := [], loops := [] : Heap } from hd) <| .fin ((ARes.ret (AV.func (136 : Nat) [AV.ptr (5 : Nat) (0 : Nat), AV.ptr (4 : Nat) (0 : Nat), AV.ptr (6 : Nat) (0 : Nat)]), { boxes := [[AV.str s0], [AV.func (79 : Nat) []], [AV.func (21 : Nat) []], [AV.sl SK.full []], [AV.str s], [AV.str [(44 : UInt8)]], [AV.int IntKind.i64 (0 : Int)]], toks := [], loops := [] : Heap })) rfl) (by kernel_rfl)
theorem tryTol (pf : List UInt8 → Option Tol) (ck : List Tol → Int) (hp : ∀ p x, p.length ≤ 1000 → pf p = some x → Gives cfg 79 [.str p] (encL x)) (hpn : ∀ p, p.length ≤ 1000 → p ≠ [] → pf p = none → Pans cfg 79 [.str p] (stopV 2))
    (hck : ∀ l : List Tol, Gives cfg 21 [.sl .sh (l.map encL)] (.int .i64 (ck l))) (s : List UInt8) (hl : s.length ≤ 1000) :
    match foldE (collect pf) [] (parts 44 s) with
    | none => ∃ H', lim cfg (.fn 101) [.func 107 [.ptr 0 0, .ptr 3 0, .ptr 1 0, .ptr 2 0]] ⟨[oTol0 s [], oTol1 [], oTol2 [], oTol3 []], [], []⟩ = some (.ret (.int .i64 2), H')
    | some l => if ck l = 0 then ∃ last, lim cfg (.fn 101) [.func 107 [.ptr 0 0, .ptr 3 0, .ptr 1 0, .ptr 2 0]] ⟨[oTol0 s [], oTol1 [], oTol2 [], oTol3 []], [], []⟩ = some (.ret (.int .i64 0), ⟨[oTol0 s l, oTol1 l, oTol2 l, oTol3 l, [.str last], [.str [44]], [.int .i64 0]], tkR encL l, []⟩)
      else ∃ H', lim cfg (.fn 101) [.func 107 [.ptr 0 0, .ptr 3 0, .ptr 1 0, .ptr 2 0]] ⟨[oTol0 s [], oTol1 [], oTol2 [], oTol3 []], [], []⟩ = some (.ret (.int .i64 (ck l)), H') := by
  obtain ⟨v0, H0, h0, hn0⟩ := seq0Tol s
  have hd : Does cfg (.call (.c (.func 103 [])) [.c (.str s), .c (.str [44])]) ⟨[oTol0 s [], oTol1 [], oTol2 [], oTol3 []], [], []⟩ (.func 136 [.ptr 5 0, .ptr 4 0, .ptr 6 0]) ⟨[oTol0 s [], oTol1 [], oTol2 [], oTol3 [], [.str s], [.str [44]], [.int .i64 0]], [], []⟩ :=
    does_callN h0 hn0 (seq1Tol s s) rfl rfl
  have clo : ∀ R, (∀ T (hT : Has T [(0, .ptr 0 0), (1, .ptr 3 0), (2, .ptr 1 0), (3, .ptr 2 0), (6, .func 136 [.ptr 5 0, .ptr 4 0, .ptr 6 0])]), Goes cfg a107 kr107_0 T ⟨[oTol0 s [], oTol1 [], oTol2 [], oTol3 [], [.str s], [.str [44]], [.int .i64 0]], [], []⟩ R) →
      ∃ r, lim cfg (.fn 107) [.ptr 0 0, .ptr 3 0, .ptr 1 0, .ptr 2 0] ⟨[oTol0 s [], oTol1 [], oTol2 [], oTol3 []], [], []⟩ = some r ∧ R r := by
    intro R h
    rw [l107]
    have key : Goes cfg a107 [.c c107] (initEnv [.ptr 0 0, .ptr 3 0, .ptr 1 0, .ptr 2 0]) ⟨[oTol0 s [], oTol1 [], oTol2 [], oTol3 []], [], []⟩ R := by
      exact goG 60 []  trivial  (.effY (show Does cfg (AOp.call (Opd.c (AV.func (103 : FuncId) [])) [Opd.c (AV.str s), Opd.c (AV.str [(44 : UInt8)])]) { boxes := [oTol0 s [], oTol1 [], oTol2 [], oTol3 []], toks := [], loops := [] : Heap } (AV.func (136 : FuncId) [AV.ptr (5 : Nat) (0 : Nat), AV.ptr (4 : Nat) (0 : Nat), AV.ptr (6 : Nat) (0 : Nat)]) { boxes := [oTol0 s [], oTol1 [], oTol2 [], oTol3 [], [AV.str s], [AV.str [(44 : UInt8)]], [AV.int IntKind.i64 (0 : Int)]], toks := [], loops := [] : Heap } from hd) <| .cutQ kr107_0 [(0, AV.ptr (0 : Nat) (0 : Nat)), (1, AV.ptr (3 : Nat) (0 : Nat)), (2, AV.ptr (1 : Nat) (0 : Nat)), (3, AV.ptr (2 : Nat) (0 : Nat)), (6, AV.func (136 : Nat) [AV.ptr (5 : Nat) (0 : Nat), AV.ptr (4 : Nat) (0 : Nat), AV.ptr (6 : Nat) (0 : Nat)])] ({ boxes := [[AV.str s], [AV.func (79 : Nat) []], [AV.func (21 : Nat) []], [AV.sl SK.full []], [AV.str s], [AV.str [(44 : UInt8)]], [AV.int IntKind.i64 (0 : Int)]], toks := [], loops := [] : Heap }) (fun T hT => (h T hT))) (by kernel_rfl)
    exact key
  cases hf : foldE (collect pf) [] (parts 44 s) with
  | none =>
    obtain ⟨r, h1, h2⟩ := clo (fun r => r.1 = .pan (stopV 2)) (fun T hT => by
      obtain ⟨H', e⟩ := (rgTol s pf hp hpn s hl T hT).2 hf
      exact ⟨_, e, rfl⟩)
    obtain ⟨x, H'⟩ := r
    simp only at h2
    subst h2
    exact ⟨H', by rw [lim_try rfl, h1]; rfl⟩
  | some l =>
    simp only
    have hg := hck l
    by_cases hc : ck l = 0
    · rw [if_pos hc]
      rw [hc] at hg
      obtain ⟨r, h1, h2⟩ := clo (fun r => ∃ last, r = (.ret (.tuple []), ⟨[oTol0 s l, oTol1 l, oTol2 l, oTol3 l, [.str last], [.str [44]], [.int .i64 0]], tkR encL l, []⟩)) (fun T hT => by
        obtain ⟨last, e⟩ := (rgTol s pf hp hpn s hl T hT).1 l hf
        have key : Goes cfg a107 kr107_0.tail T ⟨[oTol0 s l, oTol1 l, oTol2 l, oTol3 l, [.str last], [.str [44]], [.int .i64 0]], tkR encL l, []⟩ (fun r => r = (.ret (.tuple []), ⟨[oTol0 s l, oTol1 l, oTol2 l, oTol3 l, [.str last], [.str [44]], [.int .i64 0]], tkR encL l, []⟩)) := by
          exact goG 60 _  hT  (.callG ([AV.sl (skF l) (List.map encL l)]) (AV.int IntKind.i64 (0 : Int)) (show Gives cfg (21 : FuncId) [AV.sl SK.sh (List.map encL l)] (AV.int IntKind.i64 (0 : Int)) from hg) Shuts.p ⟨rfl, rfl⟩ <| .callG ([AV.int IntKind.i64 (0 : Int)]) (AV.tuple []) (show Gives cfg (76 : FuncId) [AV.int IntKind.i64 (0 : Int)] (AV.tuple []) from stop_ok) ⟨rfl, rfl⟩ ⟨rfl, rfl⟩ <| .fin ((ARes.ret (AV.tuple []), { boxes := [[AV.str s], [AV.func (79 : Nat) []], [AV.func (21 : Nat) []], [AV.sl (skF l) (List.map encL l)], [AV.str last], [AV.str [(44 : UInt8)]], [AV.int IntKind.i64 (0 : Int)]], toks := tkR encL l, loops := [] : Heap })) rfl) (by kernel_rfl)
        obtain ⟨r, k1, k2⟩ := key
        exact ⟨r, e.trans k1, last, k2⟩)
      obtain ⟨last, rfl⟩ := h2
      exact ⟨last, by rw [lim_try rfl, h1]; rfl⟩
    · rw [if_neg hc]
      obtain ⟨r, h1, h2⟩ := clo (fun r => r.1 = .pan (stopV (ck l))) (fun T hT => by
        obtain ⟨last, e⟩ := (rgTol s pf hp hpn s hl T hT).1 l hf
        have hst := stop_pan hc
        have key : Goes cfg a107 kr107_0.tail T ⟨[oTol0 s l, oTol1 l, oTol2 l, oTol3 l, [.str last], [.str [44]], [.int .i64 0]], tkR encL l, []⟩ (fun r => r.1 = .pan (stopV (ck l))) := by
          exact goG 60 _  hT  (.callG ([AV.sl (skF l) (List.map encL l)]) (AV.int IntKind.i64 (ck l)) (show Gives cfg (21 : FuncId) [AV.sl SK.sh (List.map encL l)] (AV.int IntKind.i64 (ck l)) from hg) Shuts.p ⟨rfl, rfl⟩ <| .callP ([AV.int IntKind.i64 (ck l)]) ({ boxes := [[AV.str s], [AV.func (79 : Nat) []], [AV.func (21 : Nat) []], [AV.sl (skF l) (List.map encL l)], [AV.str last], [AV.str [(44 : UInt8)]], [AV.int IntKind.i64 (0 : Int)]], toks := tkR encL l, loops := [] : Heap }) (show Pans cfg (76 : FuncId) [AV.int IntKind.i64 (ck l)] (stopV (ck l)) from hst) ⟨rfl, rfl⟩ rfl rfl) (by kernel_rfl)
        obtain ⟨r, k1, k2⟩ := key
        exact ⟨r, e.trans k1, k2⟩)
      obtain ⟨x, H'⟩ := r
      simp only at h2
      subst h2
      exact ⟨H', by rw [lim_try rfl, h1]; rfl⟩
theorem partsTol (pf : List UInt8 → Option Tol) (ck : List Tol → Int) (hp : ∀ p x, p.length ≤ 1000 → pf p = some x → Gives cfg 79 [.str p] (encL x)) (hpn : ∀ p, p.length ≤ 1000 → p ≠ [] → pf p = none → Pans cfg 79 [.str p] (stopV 2))
    (hck : ∀ l : List Tol, Gives cfg 21 [.sl .sh (l.map encL)] (.int .i64 (ck l))) (s : List UInt8) (hl : s.length ≤ 1000) :
    Gives cfg 78 [.str s, .func 79 [], .func 21 []] (.tuple [rowF encL (parsed pf ck s).1, .int .i64 (parsed pf ck s).2]) := by
  refine Gives.run (l78 _ _) ?_
  by_cases hs : s = [45]
  · subst hs
    exact goG 60 []  trivial  (.tt <| .fin ((ARes.ret (AV.tuple [AV.sl SK.full [], AV.int IntKind.i64 (0 : Int)]), { boxes := [[AV.str [(45 : UInt8)]], [AV.func (79 : Nat) []], [AV.func (21 : Nat) []]], toks := [], loops := [] : Heap })) rfl) (by kernel_rfl)
  · have ht := tryTol pf ck hp hpn hck s hl
    simp only [parsed, if_neg hs]
    cases hf : foldE (collect pf) [] (parts 44 s) with
    | none =>
      simp only [hf] at ht ⊢
      obtain ⟨H', ht⟩ := ht
      have hd := does_callE (xs := [.func 107 [.ptr 0 0, .ptr 3 0, .ptr 1 0, .ptr 2 0]]) (caps := []) ht rfl rfl
      generalize trunc _ _ _ H' = H2 at hd
      exact goG 60 []  trivial  (.no (show (s == [(45 : UInt8)]) = false from Bool.eq_false_iff.2 (show ¬ ((s == [(45 : UInt8)]) = true) from (by simpa using hs))) <| .effY (show Does cfg (AOp.call (Opd.c (AV.func (101 : FuncId) [])) (List.map Opd.c [AV.func (107 : FuncId) [AV.ptr (0 : Nat) (0 : Nat), AV.ptr (3 : Nat) (0 : Nat), AV.ptr (1 : Nat) (0 : Nat), AV.ptr (2 : Nat) (0 : Nat)]])) { boxes := [oTol0 s [], oTol1 [], oTol2 [], oTol3 []], toks := [], loops := [] : Heap } (shutA (AV.int IntKind.i64 (2 : Int))) H2 from hd) <| .tt <| .fin ((ARes.ret (AV.tuple [AV.sl SK.full [], AV.int IntKind.i64 (2 : Int)]), H2)) rfl) (by kernel_rfl)
    | some l =>
      simp only [hf] at ht ⊢
      by_cases hc : ck l = 0
      · rw [if_pos hc] at ht
        simp only [if_pos hc]
        obtain ⟨last, ht⟩ := ht
        have hd : Does cfg (.call (.c (.func 101 [])) [.c (.func 107 [.ptr 0 0, .ptr 3 0, .ptr 1 0, .ptr 2 0])]) ⟨[oTol0 s [], oTol1 [], oTol2 [], oTol3 []], [], []⟩ (.int .i64 0) ⟨[oTol0 s l, oTol1 l, oTol2 l, oTol3 l], tkR encL l, []⟩ := by
          have hd := does_callE (xs := [.func 107 [.ptr 0 0, .ptr 3 0, .ptr 1 0, .ptr 2 0]]) (caps := []) ht rfl rfl
          refine Eq.mp ?_ hd
          congr 1
          cases l <;> rfl
        exact goG 60 []  trivial  (.no (show (s == [(45 : UInt8)]) = false from Bool.eq_false_iff.2 (show ¬ ((s == [(45 : UInt8)]) = true) from (by simpa using hs))) <| .effY (show Does cfg (AOp.call (Opd.c (AV.func (101 : FuncId) [])) [Opd.c (AV.func (107 : FuncId) [AV.ptr (0 : Nat) (0 : Nat), AV.ptr (3 : Nat) (0 : Nat), AV.ptr (1 : Nat) (0 : Nat), AV.ptr (2 : Nat) (0 : Nat)])]) { boxes := [oTol0 s [], oTol1 [], oTol2 [], oTol3 []], toks := [], loops := [] : Heap } (AV.int IntKind.i64 (0 : Int)) { boxes := [oTol0 s l, oTol1 l, oTol2 l, oTol3 l], toks := tkR encL l, loops := [] : Heap } from hd) <| .ff <| .fin ((ARes.ret (AV.tuple [AV.sl (skF l) (List.map encL l), AV.int IntKind.i64 (0 : Int)]), { boxes := [[AV.str s], [AV.func (79 : Nat) []], [AV.func (21 : Nat) []], [AV.sl (skF l) (List.map encL l)]], toks := tkR encL l, loops := [] : Heap })) rfl) (by kernel_rfl)
      · rw [if_neg hc] at ht
        simp only [if_neg hc]
        obtain ⟨H', ht⟩ := ht
        have hd := does_callE (xs := [.func 107 [.ptr 0 0, .ptr 3 0, .ptr 1 0, .ptr 2 0]]) (caps := []) ht rfl rfl
        generalize trunc _ _ _ H' = H2 at hd
        exact goG 60 []  trivial  (.no (show (s == [(45 : UInt8)]) = false from Bool.eq_false_iff.2 (show ¬ ((s == [(45 : UInt8)]) = true) from (by simpa using hs))) <| .effY (show Does cfg (AOp.call (Opd.c (AV.func (101 : FuncId) [])) (List.map Opd.c [AV.func (107 : FuncId) [AV.ptr (0 : Nat) (0 : Nat), AV.ptr (3 : Nat) (0 : Nat), AV.ptr (1 : Nat) (0 : Nat), AV.ptr (2 : Nat) (0 : Nat)]])) { boxes := [oTol0 s [], oTol1 [], oTol2 [], oTol3 []], toks := [], loops := [] : Heap } (shutA (AV.int IntKind.i64 (ck l))) H2 from hd) <| .yes (show (ck l != (0 : Int)) = true from (by simpa using hc)) <| .fin ((ARes.ret (AV.tuple [AV.sl SK.full [], AV.int IntKind.i64 (ck l)]), H2)) rfl) (by kernel_rfl)

section
variable (s0 : List UInt8)
end

section
variable (s0 : List UInt8)
end
end Go.Aa.T

set_option linter.unusedVariables false
set_option linter.unusedSimpArgs false
set_option maxRecDepth 100000
namespace Go.Aa.T
open Go.Aa Go.Proofs
theorem in0_data {nb nt : Nat} : ∀ {x : AV}, data0 x = true → in0 nb nt x = true
  | .undef, h => by cases h
  | .bool _, _ => rfl
  | .int .., _ => rfl
  | .flt _, _ => rfl
  | .nan, _ => rfl
  | .str _, _ => rfl
  | .sl .sh _, _ => rfl
  | .sl .full _, _ => rfl
  | .sl (.own _) _, h => by cases h
  | .agg _, h => by cases h
  | .tuple _, h => by cases h
  | .ptr .., h => by cases h
  | .ref _, _ => rfl
  | .nilptr, _ => rfl
  | .func .., h => by cases h
  | .nilFunc, _ => rfl
  | .iface .., h => by cases h
  | .nilIface, _ => rfl
  | .msl .., h => by cases h
  | .yield _, h => by cases h
theorem in2_data0 {nb nt : Nat} {x : AV} (h : data0 x = true) : in2 nb nt x = true := by
  have := in0_data (nb := nb) (nt := nt) h
  cases x <;> first | exact this | cases h
theorem trunc_plain {bs ex : List (List AV)} {ts : List Nat} {b : Bool} (hb : bs.all (·.all data0) = true) : trunc bs.length ts.length (.bool b) ⟨bs ++ ex, ts, []⟩ = ⟨bs, ts, []⟩ := by
  have hin : ∀ nb nt, bs.all (·.all (in2 nb nt)) = true := fun nb nt => by
    rw [List.all_eq_true] at hb ⊢
    intro l hl
    have := hb l hl
    rw [List.all_eq_true] at this ⊢
    exact fun x hx => in2_data0 (this x hx)
  unfold trunc
  simp only [List.take_left', hin, List.all_nil, Bool.true_and, Bool.and_true]
  simp [within, in2, in1, in0]

section
variable {H : Heap} {k : Nat} {p : Taint → Bool}
theorem idxT_loop (hd : ∀ y : Taint, Does cfg (.call (.c (.func 64 [.ptr k 0])) [.c (encT y)]) H (.bool (p y)) H) (l : List Taint) (hn : l.length < 9223372036854775807) : ∀ (post : List Taint) (i : Nat) (hdr : l.drop i = post) (T : Env)
    (hT : Has T [(0, .sl .sh (l.map encT)), (1, .func 64 [.ptr k 0]), (7, .int .i64 l.length), (8, .int .i64 i)]),
    Goes cfg a98 k98_0 T H (fun r => r = (.ret (.int .i64 (fidxB p post i)), H)) := by
  intro post
  induction post with
  | nil =>
    intro i hdr T hT
    have hge := drop_ge hdr
    exact goG 60 _  hT  (.no (show (decide ((↑i : Int) < (↑l.length : Int))) = false from decide_eq_false (show ¬ ((↑i : Int) < (↑l.length : Int)) from (by omega))) <| .fin ((ARes.ret (AV.int IntKind.i64 (-1 : Int)), H)) rfl) (by kernel_rfl)
  | cons x post ih =>
    intro i hdr T hT
    have hlt := drop_lt hdr
    have hnx := drop_next hdr
    have hdx := hd x
    cases hp : p x with
    | true =>
      rw [hp] at hdx
      have e : fidxB p (x :: post) i = i := by simp [fidxB, hp]
      rw [e]
      exact goG 60 _  hT  (.yes (show (decide ((↑i : Int) < (↑l.length : Int))) = true from decide_eq_true (show (↑i : Int) < (↑l.length : Int) from (by omega))) <| .idx (show idxA (3 : Nat) (AV.sl SK.sh (List.map encT l)) (AV.int IntKind.i64 (↑i : Int)) = some (AV.ref (encT x).cells) from idx_row hdr (by rfl)) <| .load (show loadA true (3 : Nat) H (AV.ref [AV.str x.key, AV.str x.val, AV.bool x.hard]) = some (AV.agg [AV.str x.key, AV.str x.val, AV.bool x.hard]) from rfl) <| .effY (show Does cfg (AOp.call (Opd.c (AV.func (64 : FuncId) [AV.ptr k (0 : Nat)])) [Opd.c (encT x)]) H (AV.bool true) H from hdx) <| .tt <| .fin ((ARes.ret (AV.int IntKind.i64 (↑i : Int)), H)) rfl) (by kernel_rfl)
    | false =>
      rw [hp] at hdx
      have e : fidxB p (x :: post) i = fidxB p post (i + 1) := by simp [fidxB, hp]
      rw [e]
      exact goG 60 _  hT  (.yes (show (decide ((↑i : Int) < (↑l.length : Int))) = true from decide_eq_true (show (↑i : Int) < (↑l.length : Int) from (by omega))) <| .idx (show idxA (3 : Nat) (AV.sl SK.sh (List.map encT l)) (AV.int IntKind.i64 (↑i : Int)) = some (AV.ref (encT x).cells) from idx_row hdr (by rfl)) <| .load (show loadA true (3 : Nat) H (AV.ref [AV.str x.key, AV.str x.val, AV.bool x.hard]) = some (AV.agg [AV.str x.key, AV.str x.val, AV.bool x.hard]) from rfl) <| .effY (show Does cfg (AOp.call (Opd.c (AV.func (64 : FuncId) [AV.ptr k (0 : Nat)])) [Opd.c (encT x)]) H (AV.bool false) H from hdx) <| .ff <| .bin (show binA BinOp.add (AV.int IntKind.i64 (↑i : Int)) (AV.int IntKind.i64 (1 : Int)) = some (AV.int IntKind.i64 (↑(i + (1 : Nat)) : Int)) from inc_i (by omega)) <| .cutQ k98_0 [(0, AV.sl SK.sh (List.map encT l)), (1, AV.func (64 : Nat) [AV.ptr k (0 : Nat)]), (7, AV.int IntKind.i64 (↑l.length : Int)), (8, AV.int IntKind.i64 (↑(i + (1 : Nat)) : Int))] (H) (fun T hT => (ih (i + (1 : Nat)) hnx T hT))) (by kernel_rfl)
theorem idxT (hd : ∀ y : Taint, Does cfg (.call (.c (.func 64 [.ptr k 0])) [.c (encT y)]) H (.bool (p y)) H) (l : List Taint) (hn : l.length < 9223372036854775807) :
    lim cfg (.fn 98) [.sl .sh (l.map encT), .func 64 [.ptr k 0]] H = some (.ret (.int .i64 (fidxB p l 0)), H) := by
  rw [l98]
  have h := idxT_loop hd l hn l 0 rfl
  have key : Goes cfg a98 [.c c98] (initEnv [.sl .sh (l.map encT), .func 64 [.ptr k 0]]) H (fun r => r = (.ret (.int .i64 (fidxB p l 0)), H)) := by
    exact goG 60 []  trivial  (.len (show lenA false (AV.sl SK.sh (List.map encT l)) = some (AV.int IntKind.i64 (↑l.length : Int)) from len_map _) <| .cutQ k98_0 [(0, AV.sl SK.sh (List.map encT l)), (1, AV.func (64 : Nat) [AV.ptr k (0 : Nat)]), (7, AV.int IntKind.i64 (↑l.length : Int)), (8, AV.int IntKind.i64 (0 : Int))] (H) (fun T hT => (h T hT))) (by kernel_rfl)
  obtain ⟨r, h, rfl⟩ := key
  exact h
theorem hasT (hd : ∀ y : Taint, Does cfg (.call (.c (.func 64 [.ptr k 0])) [.c (encT y)]) H (.bool (p y)) H) (l : List Taint) (hn : l.length < 9223372036854775807) (htr : trunc H.boxes.length H.toks.length (.int .i64 (fidxB p l 0)) H = H) :
    lim cfg (.fn 63) [.sl .sh (l.map encT), .func 64 [.ptr k 0]] H = some (.ret (.bool (l.any p)), H) := by
  rw [l63]
  have h0 := does_callE (xs := [.sl .sh (l.map encT), .func 64 [.ptr k 0]]) (caps := []) (idxT hd l hn) rfl rfl
  rw [show shutA (.int .i64 (fidxB p l 0)) = .int .i64 (fidxB p l 0) from rfl, htr] at h0
  have hf := fidxB_ge p l 0
  have key : Goes cfg a63 [.c c63] (initEnv [.sl .sh (l.map encT), .func 64 [.ptr k 0]]) H (fun r => r = (.ret (.bool (l.any p)), H)) := by
    exact goG 60 []  trivial  (.effY (show Does cfg (AOp.call (Opd.c (AV.func (98 : FuncId) [])) (List.map Opd.c [AV.sl SK.sh (List.map encT l), AV.func (64 : FuncId) [AV.ptr k (0 : Nat)]])) H (AV.int IntKind.i64 (fidxB p l (0 : Nat))) H from h0) <| .fin ((ARes.ret (AV.bool (decide ((0 : Int) ≤ fidxB p l (0 : Nat)))), H)) (by simp [← hf])) (by kernel_rfl)
  obtain ⟨r, h, rfl⟩ := key
  exact h
end
theorem one64 (x y : Taint) (bs : List (List AV)) (hb : bs.all (·.all data0) = true) : Does cfg (.call (.c (.func 64 [.ptr bs.length 0])) [.c (encT y)]) ⟨bs ++ [x.cells], [], []⟩ (.bool (same x y)) ⟨bs ++ [x.cells], [], []⟩ := by
  have key : Goes cfg a64 [.c c64] (initEnv [encT y, .ptr bs.length 0]) ⟨bs ++ [x.cells], [], []⟩ (fun r => r = (.ret (.bool (same x y)), ⟨(bs ++ [x.cells]) ++ [y.cells], [], []⟩)) := by
    exact goG 60 []  trivial  (.load (show loadA false (1 : Nat) { boxes := bs ++ [[AV.str x.key, AV.str x.val, AV.bool x.hard]] ++ [[AV.str y.key, AV.str y.val, AV.bool y.hard]], toks := [], loops := [] : Heap } (AV.ptr (bs ++ [[AV.str x.key, AV.str x.val, AV.bool x.hard]]).length (0 : Nat)) = some (AV.str y.key) from load_box (cs := [AV.str y.key, AV.str y.val, AV.bool y.hard]) (by simp) rfl) <| .load (show loadA false (1 : Nat) { boxes := bs ++ [[AV.str x.key, AV.str x.val, AV.bool x.hard]] ++ [[AV.str y.key, AV.str y.val, AV.bool y.hard]], toks := [], loops := [] : Heap } (AV.ptr bs.length (0 : Nat)) = some (AV.str x.key) from load_box (cs := [AV.str x.key, AV.str x.val, AV.bool x.hard]) (by simp) rfl) <| .split ((y.key == x.key) = true) (fun h1 => .yes (show (y.key == x.key) = true from h1) <| .load (show loadA false (1 : Nat) { boxes := bs ++ [[AV.str x.key, AV.str x.val, AV.bool x.hard]] ++ [[AV.str y.key, AV.str y.val, AV.bool y.hard]], toks := [], loops := [] : Heap } (AV.ptr (bs ++ [[AV.str x.key, AV.str x.val, AV.bool x.hard]]).length (1 : Nat)) = some (AV.str y.val) from load_box (cs := [AV.str y.key, AV.str y.val, AV.bool y.hard]) (by simp) rfl) <| .load (show loadA false (1 : Nat) { boxes := bs ++ [[AV.str x.key, AV.str x.val, AV.bool x.hard]] ++ [[AV.str y.key, AV.str y.val, AV.bool y.hard]], toks := [], loops := [] : Heap } (AV.ptr bs.length (1 : Nat)) = some (AV.str x.val) from load_box (cs := [AV.str x.key, AV.str x.val, AV.bool x.hard]) (by simp) rfl) <| .fin ((ARes.ret (AV.bool (y.val == x.val)), { boxes := bs ++ [[AV.str x.key, AV.str x.val, AV.bool x.hard]] ++ [[AV.str y.key, AV.str y.val, AV.bool y.hard]], toks := [], loops := [] : Heap })) (by grind [same, Taint.cells])) (fun h1 => .no (show (y.key == x.key) = false from Bool.eq_false_iff.2 (show ¬ ((y.key == x.key) = true) from h1)) <| .fin ((ARes.ret (AV.bool false), { boxes := bs ++ [[AV.str x.key, AV.str x.val, AV.bool x.hard]] ++ [[AV.str y.key, AV.str y.val, AV.bool y.hard]], toks := [], loops := [] : Heap })) (by simp_all [same, Taint.cells]))) (by kernel_rfl)
  obtain ⟨r, h, rfl⟩ := key
  have h2 : lim cfg (.fn 64) ([encT y] ++ [.ptr bs.length 0]) ⟨bs ++ [x.cells], [], []⟩ = some (.ret (.bool (same x y)), ⟨(bs ++ [x.cells]) ++ [y.cells], [], []⟩) := by
    rw [l64]; exact h
  have hd := does_callE h2 rfl rfl
  rwa [show shutA (.bool (same x y)) = .bool (same x y) from rfl, trunc_plain (bs := bs ++ [x.cells]) (ex := [y.cells]) (ts := []) (by simp only [List.all_append, hb]; rfl)] at hd
theorem trunc_plainI {bs : List (List AV)} {ts : List Nat} {n : Int} (hb : bs.all (·.all data0) = true) : trunc bs.length ts.length (.int .i64 n) ⟨bs, ts, []⟩ = ⟨bs, ts, []⟩ := by
  have h := trunc_plain (ex := []) (ts := ts) (b := true) hb
  rw [List.append_nil] at h
  exact h
theorem has63 (x : Taint) (l : List Taint) (hn : l.length < 9223372036854775807) (bs : List (List AV)) (hb : bs.all (·.all data0) = true) :
    Does cfg (.call (.c (.func 63 [])) [.c (.sl .sh (l.map encT)), .c (.func 64 [.ptr bs.length 0])]) ⟨bs ++ [x.cells], [], []⟩ (.bool (l.any (same x))) ⟨bs ++ [x.cells], [], []⟩ := by
  have hb2 : (bs ++ [x.cells]).all (·.all data0) = true := by simp only [List.all_append, hb]; rfl
  have h := hasT (H := ⟨bs ++ [x.cells], [], []⟩) (k := bs.length) (p := same x) (fun y => one64 x y bs hb) l hn (trunc_plainI hb2)
  have hd := does_callE (xs := [.sl .sh (l.map encT), .func 64 [.ptr bs.length 0]]) (caps := []) h rfl rfl
  have e := trunc_plain (bs := bs ++ [x.cells]) (ex := []) (ts := []) (b := l.any (same x)) hb2
  rw [List.append_nil] at e
  rwa [show shutA (.bool (l.any (same x))) = .bool (l.any (same x)) from rfl, e] at hd
theorem ckT2_loop (l : List Taint) (hn : l.length ≤ 8) : ∀ (post : List Taint) (i : Nat) (bs : List (List AV)) (hb : bs.all (·.all data0) = true) (hd : l.drop i = post) (T : Env) (hT : Has T [(0, .sl .sh (l.map encT)), (8, .sl .sh (l.map encT)), (9, .int .i64 l.length), (10, .int .i64 i)]),
    Goes cfg a20 k20_0 T ⟨bs, [], []⟩ (IsRet (.int .i64 (ckTl l i post))) := by
  intro post
  induction post with
  | nil =>
    intro i bs hb hd T hT
    have hge := drop_ge hd
    exact goG 60 _  hT  (.no (show (decide ((↑i : Int) < (↑l.length : Int))) = false from decide_eq_false (show ¬ ((↑i : Int) < (↑l.length : Int)) from (by omega))) <| .fin ((ARes.ret (AV.int IntKind.i64 (0 : Int)), { boxes := bs, toks := [], loops := [] : Heap })) rfl) (by kernel_rfl)
  | cons x post ih =>
    intro i bs hb hd T hT
    have hlt := drop_lt hd
    have hnx := drop_next hd
    have hc := has63 x (l.take i) (by simp; omega) bs hb
    have hb2 : (bs ++ [x.cells]).all (·.all data0) = true := by simp only [List.all_append, hb]; rfl
    have ih2 := ih (i + 1) (bs ++ [[.str x.key, .str x.val, .bool x.hard]]) hb2 hnx
    exact goG 90 _  hT  (.yes (show (decide ((↑i : Int) < (↑l.length : Int))) = true from decide_eq_true (show (↑i : Int) < (↑l.length : Int) from (by omega))) <| .idx (show idxA (3 : Nat) (AV.sl SK.sh (List.map encT l)) (AV.int IntKind.i64 (↑i : Int)) = some (AV.ref (encT x).cells) from idx_row hd (by rfl)) <| .load (show loadA true (3 : Nat) { boxes := bs, toks := [], loops := [] : Heap } (AV.ref [AV.str x.key, AV.str x.val, AV.bool x.hard]) = some (AV.agg [AV.str x.key, AV.str x.val, AV.bool x.hard]) from rfl) <| .store (show storeA (3 : Nat) { boxes := bs ++ [[AV.str [], AV.str [], AV.bool false]], toks := [], loops := [] : Heap } (AV.ptr bs.length (0 : Nat)) (AV.agg [AV.str x.key, AV.str x.val, AV.bool x.hard]) = some ({ boxes := bs ++ [[AV.str x.key, AV.str x.val, AV.bool x.hard]], toks := [], loops := [] : Heap }) from store_box2 (cs := [AV.str [], AV.str [], AV.bool false]) (cs' := [AV.str x.key, AV.str x.val, AV.bool x.hard]) (by simp) rfl (by simp [List.set_append])) <| .load (show loadA false (1 : Nat) { boxes := bs ++ [[AV.str x.key, AV.str x.val, AV.bool x.hard]], toks := [], loops := [] : Heap } (AV.ptr bs.length (0 : Nat)) = some (AV.str x.key) from load_box (cs := [AV.str x.key, AV.str x.val, AV.bool x.hard]) (by simp) rfl) <| .callG ([AV.str x.key]) (AV.bool (isName x.key)) (show Gives cfg (62 : FuncId) [AV.str x.key] (AV.bool (isName x.key)) from res_name _) ⟨rfl, rfl⟩ ⟨rfl, rfl⟩ <| .split (isName x.key = true) (fun h1 => .no (show (!isName x.key) = false from by have hh : isName x.key = true := h1; simp [hh]) <| .load (show loadA false (1 : Nat) { boxes := bs ++ [[AV.str x.key, AV.str x.val, AV.bool x.hard]], toks := [], loops := [] : Heap } (AV.ptr bs.length (1 : Nat)) = some (AV.str x.val) from load_box (cs := [AV.str x.key, AV.str x.val, AV.bool x.hard]) (by simp) rfl) <| .callG ([AV.str x.val]) (AV.bool (isName x.val)) (show Gives cfg (62 : FuncId) [AV.str x.val] (AV.bool (isName x.val)) from res_name _) ⟨rfl, rfl⟩ ⟨rfl, rfl⟩ <| .split (isName x.val = true) (fun h2 => .no (show (!isName x.val) = false from by have hh : isName x.val = true := h2; simp [hh]) <| .slice (show sliceA (3 : Nat) (AV.sl SK.sh (List.map encT l)) none (some (AV.int IntKind.i64 (↑i : Int))) none = some (AV.sl SK.sh (List.map encT (List.take i l))) from slice_to (by omega) (by rfl) (by exact cellT)) <| .effY (show Does cfg (AOp.call (Opd.c (AV.func (63 : FuncId) [])) [Opd.c (AV.sl SK.sh (List.map encT (List.take i l))), Opd.c (AV.func (64 : FuncId) [AV.ptr bs.length (0 : Nat)])]) { boxes := bs ++ [x.cells], toks := [], loops := [] : Heap } (AV.bool ((List.take i l).any (same x))) { boxes := bs ++ [x.cells], toks := [], loops := [] : Heap } from hc) <| .split ((List.take i l).any (same x) = true) (fun h3 => .yes (show ((List.take i l).any (same x)) = true from h3) <| .fin ((ARes.ret (AV.int IntKind.i64 (6 : Int)), { boxes := bs ++ [[AV.str x.key, AV.str x.val, AV.bool x.hard]], toks := [], loops := [] : Heap })) (by simp only [IsRet]; grind [ckTl])) (fun h3 => .no (show ((List.take i l).any (same x)) = false from Bool.eq_false_iff.2 (show ¬ ((List.take i l).any (same x) = true) from h3)) <| .bin (show binA BinOp.add (AV.int IntKind.i64 (↑i : Int)) (AV.int IntKind.i64 (1 : Int)) = some (AV.int IntKind.i64 (↑(i + (1 : Nat)) : Int)) from inc_i (by omega)) <| .cutQ k20_0 [(0, AV.sl SK.sh (List.map encT l)), (8, AV.sl SK.sh (List.map encT l)), (9, AV.int IntKind.i64 (↑l.length : Int)), (10, AV.int IntKind.i64 (↑(i + (1 : Nat)) : Int))] ({ boxes := bs ++ [[AV.str x.key, AV.str x.val, AV.bool x.hard]], toks := [], loops := [] : Heap }) (fun T hT => (ih2 T hT).to (by grind [ckTl])))) (fun h2 => .yes (show (!isName x.val) = true from by have hh : ¬ (isName x.val = true) := h2; simp [hh]) <| .fin ((ARes.ret (AV.int IntKind.i64 (3 : Int)), { boxes := bs ++ [[AV.str x.key, AV.str x.val, AV.bool x.hard]], toks := [], loops := [] : Heap })) (by simp only [IsRet]; grind [ckTl]))) (fun h1 => .yes (show (!isName x.key) = true from by have hh : ¬ (isName x.key = true) := h1; simp [hh]) <| .tt <| .fin ((ARes.ret (AV.int IntKind.i64 (3 : Int)), { boxes := bs ++ [[AV.str x.key, AV.str x.val, AV.bool x.hard]], toks := [], loops := [] : Heap })) (by simp only [IsRet]; grind [ckTl]))) (by kernel_rfl)
theorem ckT2 (l : List Taint) : Gives cfg 20 [.sl .sh (l.map encT)] (.int .i64 (ckT l)) := by
  refine Gives.run (l20 _ _) ?_
  have h := fun hn => ckT2_loop l hn l 0 [] rfl rfl
  exact goG 60 []  trivial  (.len (show lenA false (AV.sl SK.sh (List.map encT l)) = some (AV.int IntKind.i64 (↑l.length : Int)) from len_map _) <| .split ((8 : Int) < (↑l.length : Int)) (fun h1 => .yes (show (decide ((8 : Int) < (↑l.length : Int))) = true from decide_eq_true (show (8 : Int) < (↑l.length : Int) from h1)) <| .fin ((ARes.ret (AV.int IntKind.i64 (4 : Int)), { boxes := [], toks := [], loops := [] : Heap })) (by simp only [IsRet]; grind [ckT])) (fun h1 => .no (show (decide ((8 : Int) < (↑l.length : Int))) = false from decide_eq_false (show ¬ ((8 : Int) < (↑l.length : Int)) from h1)) <| .len (show lenA false (AV.sl SK.sh (List.map encT l)) = some (AV.int IntKind.i64 (↑l.length : Int)) from len_map _) <| .cutQ k20_0 [(0, AV.sl SK.sh (List.map encT l)), (8, AV.sl SK.sh (List.map encT l)), (9, AV.int IntKind.i64 (↑l.length : Int)), (10, AV.int IntKind.i64 (0 : Int))] ({ boxes := [], toks := [], loops := [] : Heap }) (fun T hT => (h (by omega) T hT).to (by grind [ckT])))) (by kernel_rfl)
theorem ckL2_loop (l : List Tol) (hn : l.length ≤ 8) : ∀ (post : List Tol) (i : Nat) (bs : List (List AV)) (hd : l.drop i = post) (T : Env) (hT : Has T [(8, .sl .sh (l.map encL)), (9, .int .i64 l.length), (10, .int .i64 i)]),
    Goes cfg a21 k21_0 T ⟨bs, [], []⟩ (IsRet (.int .i64 (if post.all okL then 0 else 3))) := by
  intro post
  induction post with
  | nil =>
    intro i bs hd T hT
    have hge := drop_ge hd
    exact goG 60 _  hT  (.no (show (decide ((↑i : Int) < (↑l.length : Int))) = false from decide_eq_false (show ¬ ((↑i : Int) < (↑l.length : Int)) from (by omega))) <| .fin ((ARes.ret (AV.int IntKind.i64 (0 : Int)), { boxes := bs, toks := [], loops := [] : Heap })) rfl) (by kernel_rfl)
  | cons x post ih =>
    intro i bs hd T hT
    have hlt := drop_lt hd
    have hnx := drop_next hd
    have hv : isName [] = false := rfl
    exact goG 60 _  hT  (.yes (show (decide ((↑i : Int) < (↑l.length : Int))) = true from decide_eq_true (show (↑i : Int) < (↑l.length : Int) from (by omega))) <| .idx (show idxA (3 : Nat) (AV.sl SK.sh (List.map encL l)) (AV.int IntKind.i64 (↑i : Int)) = some (AV.ref (encL x).cells) from idx_row hd (by rfl)) <| .load (show loadA true (3 : Nat) { boxes := bs, toks := [], loops := [] : Heap } (AV.ref [AV.str x.key, AV.str x.val, AV.bool x.any]) = some (AV.agg [AV.str x.key, AV.str x.val, AV.bool x.any]) from rfl) <| .store (show storeA (3 : Nat) { boxes := bs ++ [[AV.str [], AV.str [], AV.bool false]], toks := [], loops := [] : Heap } (AV.ptr bs.length (0 : Nat)) (AV.agg [AV.str x.key, AV.str x.val, AV.bool x.any]) = some ({ boxes := bs ++ [[AV.str x.key, AV.str x.val, AV.bool x.any]], toks := [], loops := [] : Heap }) from store_box2 (cs := [AV.str [], AV.str [], AV.bool false]) (cs' := [AV.str x.key, AV.str x.val, AV.bool x.any]) (by simp) rfl (by simp [List.set_append])) <| .load (show loadA false (1 : Nat) { boxes := bs ++ [[AV.str x.key, AV.str x.val, AV.bool x.any]], toks := [], loops := [] : Heap } (AV.ptr bs.length (0 : Nat)) = some (AV.str x.key) from load_box (cs := [AV.str x.key, AV.str x.val, AV.bool x.any]) (by simp) rfl) <| .split ((x.key == []) = true) (fun h1 => .no (show (!x.key == []) = false from by have hh : (x.key == []) = true := h1; simp [hh]) <| .ff <| .load (show loadA false (1 : Nat) { boxes := bs ++ [[AV.str x.key, AV.str x.val, AV.bool x.any]], toks := [], loops := [] : Heap } (AV.ptr bs.length (2 : Nat)) = some (AV.bool x.any) from load_box (cs := [AV.str x.key, AV.str x.val, AV.bool x.any]) (by simp) rfl) <| .load (show loadA false (1 : Nat) { boxes := bs ++ [[AV.str x.key, AV.str x.val, AV.bool x.any]], toks := [], loops := [] : Heap } (AV.ptr bs.length (1 : Nat)) = some (AV.str x.val) from load_box (cs := [AV.str x.key, AV.str x.val, AV.bool x.any]) (by simp) rfl) <| .split ((if true = true then !x.any == (x.val == []) else x.any == (x.val == [])) = true) (fun h2 => .yes (show (if true = true then !x.any == (x.val == []) else x.any == (x.val == [])) = true from h2) <| .tt <| .fin ((ARes.ret (AV.int IntKind.i64 (3 : Int)), { boxes := bs ++ [[AV.str x.key, AV.str x.val, AV.bool x.any]], toks := [], loops := [] : Heap })) (by simp only [IsRet]; grind [okL])) (fun h2 => .no (show (if true = true then !x.any == (x.val == []) else x.any == (x.val == [])) = false from Bool.eq_false_iff.2 (show ¬ ((if true = true then !x.any == (x.val == []) else x.any == (x.val == [])) = true) from h2)) <| .load (show loadA false (1 : Nat) { boxes := bs ++ [[AV.str x.key, AV.str x.val, AV.bool x.any]], toks := [], loops := [] : Heap } (AV.ptr bs.length (2 : Nat)) = some (AV.bool x.any) from load_box (cs := [AV.str x.key, AV.str x.val, AV.bool x.any]) (by simp) rfl) <| .split (x.any = true) (fun h3 => .no (show (!x.any) = false from by have hh : x.any = true := h3; simp [hh]) <| .ff <| .bin (show binA BinOp.add (AV.int IntKind.i64 (↑i : Int)) (AV.int IntKind.i64 (1 : Int)) = some (AV.int IntKind.i64 (↑(i + (1 : Nat)) : Int)) from inc_i (by omega)) <| .cutQ k21_0 [(8, AV.sl SK.sh (List.map encL l)), (9, AV.int IntKind.i64 (↑l.length : Int)), (10, AV.int IntKind.i64 (↑(i + (1 : Nat)) : Int))] ({ boxes := bs ++ [[AV.str x.key, AV.str x.val, AV.bool x.any]], toks := [], loops := [] : Heap }) (fun T hT => (ih (i + (1 : Nat)) (bs ++ [[AV.str x.key, AV.str x.val, AV.bool x.any]]) hnx T hT).to (by grind [okL]))) (fun h3 => .yes (show (!x.any) = true from by have hh : ¬ (x.any = true) := h3; simp [hh]) <| .load (show loadA false (1 : Nat) { boxes := bs ++ [[AV.str x.key, AV.str x.val, AV.bool x.any]], toks := [], loops := [] : Heap } (AV.ptr bs.length (1 : Nat)) = some (AV.str x.val) from load_box (cs := [AV.str x.key, AV.str x.val, AV.bool x.any]) (by simp) rfl) <| .callG ([AV.str x.val]) (AV.bool (isName x.val)) (show Gives cfg (62 : FuncId) [AV.str x.val] (AV.bool (isName x.val)) from res_name _) ⟨rfl, rfl⟩ ⟨rfl, rfl⟩ <| .split (isName x.val = true) (fun h4 => .no (show (!isName x.val) = false from by have hh : isName x.val = true := h4; simp [hh]) <| .bin (show binA BinOp.add (AV.int IntKind.i64 (↑i : Int)) (AV.int IntKind.i64 (1 : Int)) = some (AV.int IntKind.i64 (↑(i + (1 : Nat)) : Int)) from inc_i (by omega)) <| .cutQ k21_0 [(8, AV.sl SK.sh (List.map encL l)), (9, AV.int IntKind.i64 (↑l.length : Int)), (10, AV.int IntKind.i64 (↑(i + (1 : Nat)) : Int))] ({ boxes := bs ++ [[AV.str x.key, AV.str x.val, AV.bool x.any]], toks := [], loops := [] : Heap }) (fun T hT => (ih (i + (1 : Nat)) (bs ++ [[AV.str x.key, AV.str x.val, AV.bool x.any]]) hnx T hT).to (by grind [okL]))) (fun h4 => .yes (show (!isName x.val) = true from by have hh : ¬ (isName x.val = true) := h4; simp [hh]) <| .fin ((ARes.ret (AV.int IntKind.i64 (3 : Int)), { boxes := bs ++ [[AV.str x.key, AV.str x.val, AV.bool x.any]], toks := [], loops := [] : Heap })) (by simp only [IsRet]; grind [okL]))))) (fun h1 => .yes (show (!x.key == []) = true from by have hh : ¬ ((x.key == []) = true) := h1; simp [hh]) <| .load (show loadA false (1 : Nat) { boxes := bs ++ [[AV.str x.key, AV.str x.val, AV.bool x.any]], toks := [], loops := [] : Heap } (AV.ptr bs.length (0 : Nat)) = some (AV.str x.key) from load_box (cs := [AV.str x.key, AV.str x.val, AV.bool x.any]) (by simp) rfl) <| .callG ([AV.str x.key]) (AV.bool (isName x.key)) (show Gives cfg (62 : FuncId) [AV.str x.key] (AV.bool (isName x.key)) from res_name _) ⟨rfl, rfl⟩ ⟨rfl, rfl⟩ <| .split (isName x.key = true) (fun h2 => .no (show (!isName x.key) = false from by have hh : isName x.key = true := h2; simp [hh]) <| .load (show loadA false (1 : Nat) { boxes := bs ++ [[AV.str x.key, AV.str x.val, AV.bool x.any]], toks := [], loops := [] : Heap } (AV.ptr bs.length (2 : Nat)) = some (AV.bool x.any) from load_box (cs := [AV.str x.key, AV.str x.val, AV.bool x.any]) (by simp) rfl) <| .load (show loadA false (1 : Nat) { boxes := bs ++ [[AV.str x.key, AV.str x.val, AV.bool x.any]], toks := [], loops := [] : Heap } (AV.ptr bs.length (1 : Nat)) = some (AV.str x.val) from load_box (cs := [AV.str x.key, AV.str x.val, AV.bool x.any]) (by simp) rfl) <| .split ((if true = true then !x.any == (x.val == []) else x.any == (x.val == [])) = true) (fun h3 => .yes (show (if true = true then !x.any == (x.val == []) else x.any == (x.val == [])) = true from h3) <| .tt <| .fin ((ARes.ret (AV.int IntKind.i64 (3 : Int)), { boxes := bs ++ [[AV.str x.key, AV.str x.val, AV.bool x.any]], toks := [], loops := [] : Heap })) (by simp only [IsRet]; grind [okL])) (fun h3 => .no (show (if true = true then !x.any == (x.val == []) else x.any == (x.val == [])) = false from Bool.eq_false_iff.2 (show ¬ ((if true = true then !x.any == (x.val == []) else x.any == (x.val == [])) = true) from h3)) <| .load (show loadA false (1 : Nat) { boxes := bs ++ [[AV.str x.key, AV.str x.val, AV.bool x.any]], toks := [], loops := [] : Heap } (AV.ptr bs.length (2 : Nat)) = some (AV.bool x.any) from load_box (cs := [AV.str x.key, AV.str x.val, AV.bool x.any]) (by simp) rfl) <| .split (x.any = true) (fun h4 => .no (show (!x.any) = false from by have hh : x.any = true := h4; simp [hh]) <| .ff <| .bin (show binA BinOp.add (AV.int IntKind.i64 (↑i : Int)) (AV.int IntKind.i64 (1 : Int)) = some (AV.int IntKind.i64 (↑(i + (1 : Nat)) : Int)) from inc_i (by omega)) <| .cutQ k21_0 [(8, AV.sl SK.sh (List.map encL l)), (9, AV.int IntKind.i64 (↑l.length : Int)), (10, AV.int IntKind.i64 (↑(i + (1 : Nat)) : Int))] ({ boxes := bs ++ [[AV.str x.key, AV.str x.val, AV.bool x.any]], toks := [], loops := [] : Heap }) (fun T hT => (ih (i + (1 : Nat)) (bs ++ [[AV.str x.key, AV.str x.val, AV.bool x.any]]) hnx T hT).to (by grind [okL]))) (fun h4 => .yes (show (!x.any) = true from by have hh : ¬ (x.any = true) := h4; simp [hh]) <| .load (show loadA false (1 : Nat) { boxes := bs ++ [[AV.str x.key, AV.str x.val, AV.bool x.any]], toks := [], loops := [] : Heap } (AV.ptr bs.length (1 : Nat)) = some (AV.str x.val) from load_box (cs := [AV.str x.key, AV.str x.val, AV.bool x.any]) (by simp) rfl) <| .callG ([AV.str x.val]) (AV.bool (isName x.val)) (show Gives cfg (62 : FuncId) [AV.str x.val] (AV.bool (isName x.val)) from res_name _) ⟨rfl, rfl⟩ ⟨rfl, rfl⟩ <| .split (isName x.val = true) (fun h5 => .no (show (!isName x.val) = false from by have hh : isName x.val = true := h5; simp [hh]) <| .bin (show binA BinOp.add (AV.int IntKind.i64 (↑i : Int)) (AV.int IntKind.i64 (1 : Int)) = some (AV.int IntKind.i64 (↑(i + (1 : Nat)) : Int)) from inc_i (by omega)) <| .cutQ k21_0 [(8, AV.sl SK.sh (List.map encL l)), (9, AV.int IntKind.i64 (↑l.length : Int)), (10, AV.int IntKind.i64 (↑(i + (1 : Nat)) : Int))] ({ boxes := bs ++ [[AV.str x.key, AV.str x.val, AV.bool x.any]], toks := [], loops := [] : Heap }) (fun T hT => (ih (i + (1 : Nat)) (bs ++ [[AV.str x.key, AV.str x.val, AV.bool x.any]]) hnx T hT).to (by grind [okL]))) (fun h5 => .yes (show (!isName x.val) = true from by have hh : ¬ (isName x.val = true) := h5; simp [hh]) <| .fin ((ARes.ret (AV.int IntKind.i64 (3 : Int)), { boxes := bs ++ [[AV.str x.key, AV.str x.val, AV.bool x.any]], toks := [], loops := [] : Heap })) (by simp only [IsRet]; grind [okL]))))) (fun h2 => .yes (show (!isName x.key) = true from by have hh : ¬ (isName x.key = true) := h2; simp [hh]) <| .tt <| .tt <| .fin ((ARes.ret (AV.int IntKind.i64 (3 : Int)), { boxes := bs ++ [[AV.str x.key, AV.str x.val, AV.bool x.any]], toks := [], loops := [] : Heap })) (by simp only [IsRet]; grind [okL])))) (by kernel_rfl)
theorem ckL2 (l : List Tol) : Gives cfg 21 [.sl .sh (l.map encL)] (.int .i64 (ckL l)) := by
  refine Gives.run (l21 _ _) ?_
  have h := fun hn => ckL2_loop l hn l 0 [] rfl
  exact goG 60 []  trivial  (.len (show lenA false (AV.sl SK.sh (List.map encL l)) = some (AV.int IntKind.i64 (↑l.length : Int)) from len_map _) <| .split ((8 : Int) < (↑l.length : Int)) (fun h1 => .yes (show (decide ((8 : Int) < (↑l.length : Int))) = true from decide_eq_true (show (8 : Int) < (↑l.length : Int) from h1)) <| .fin ((ARes.ret (AV.int IntKind.i64 (4 : Int)), { boxes := [], toks := [], loops := [] : Heap })) (by simp only [IsRet]; grind [ckL])) (fun h1 => .no (show (decide ((8 : Int) < (↑l.length : Int))) = false from decide_eq_false (show ¬ ((8 : Int) < (↑l.length : Int)) from h1)) <| .len (show lenA false (AV.sl SK.sh (List.map encL l)) = some (AV.int IntKind.i64 (↑l.length : Int)) from len_map _) <| .cutQ k21_0 [(8, AV.sl SK.sh (List.map encL l)), (9, AV.int IntKind.i64 (↑l.length : Int)), (10, AV.int IntKind.i64 (0 : Int))] ({ boxes := [], toks := [], loops := [] : Heap }) (fun T hT => (h (by omega) T hT).to (by grind [ckL])))) (by kernel_rfl)


theorem sameT_loop (l : List Taint) (hn : l.length < 9223372036854775807) : ∀ (post : List Taint) (i : Nat) (hd : l.drop i = post) (T : Env) (hT : Has T [(0, .sl .sh (l.map encT)), (1, .sl .sh (l.map encT)), (5, .int .i64 i)]),
    Goes cfg a34 k34_0 T Heap.nil (IsRet (.bool true)) := by
  intro post
  induction post with
  | nil =>
    intro i hd T hT
    have hge := drop_ge hd
    exact goG 60 _  hT  (.len (show lenA false (AV.sl SK.sh (List.map encT l)) = some (AV.int IntKind.i64 (↑l.length : Int)) from len_map _) <| .no (show (decide ((↑i : Int) < (↑l.length : Int))) = false from decide_eq_false (show ¬ ((↑i : Int) < (↑l.length : Int)) from (by omega))) <| .fin ((ARes.ret (AV.bool true), { boxes := [], toks := [], loops := [] : Heap })) rfl) (by kernel_rfl)
  | cons x post ih =>
    intro i hd T hT
    have hlt := drop_lt hd
    have hnx := drop_next hd
    exact goG 60 _  hT  (.len (show lenA false (AV.sl SK.sh (List.map encT l)) = some (AV.int IntKind.i64 (↑l.length : Int)) from len_map _) <| .yes (show (decide ((↑i : Int) < (↑l.length : Int))) = true from decide_eq_true (show (↑i : Int) < (↑l.length : Int) from (by omega))) <| .idx (show idxA (3 : Nat) (AV.sl SK.sh (List.map encT l)) (AV.int IntKind.i64 (↑i : Int)) = some (AV.ref (encT x).cells) from idx_row hd (by rfl)) <| .idx (show idxA (3 : Nat) (AV.sl SK.sh (List.map encT l)) (AV.int IntKind.i64 (↑i : Int)) = some (AV.ref (encT x).cells) from idx_row hd (by rfl)) <| .no (show (if true = true then !(x.key == x.key && (x.val == x.val && (x.hard == x.hard && true))) else x.key == x.key && (x.val == x.val && (x.hard == x.hard && true))) = false from Bool.eq_false_iff.2 (show ¬ ((if true = true then !(x.key == x.key && (x.val == x.val && (x.hard == x.hard && true))) else x.key == x.key && (x.val == x.val && (x.hard == x.hard && true))) = true) from (by simp))) <| .bin (show binA BinOp.add (AV.int IntKind.i64 (↑i : Int)) (AV.int IntKind.i64 (1 : Int)) = some (AV.int IntKind.i64 (↑(i + (1 : Nat)) : Int)) from inc_i (by omega)) <| .cutQ k34_0 [(0, AV.sl SK.sh (List.map encT l)), (1, AV.sl SK.sh (List.map encT l)), (5, AV.int IntKind.i64 (↑(i + (1 : Nat)) : Int))] ({ boxes := [], toks := [], loops := [] : Heap }) (fun T hT => (ih (i + (1 : Nat)) hnx T hT))) (by kernel_rfl)
theorem sameT (l : List Taint) (hn : l.length < 9223372036854775807) : Gives cfg 34 [.sl .sh (l.map encT), .sl .sh (l.map encT)] (.bool true) := by
  refine Gives.run (l34 _ _) ?_
  have h := sameT_loop l hn l 0 rfl
  exact goG 60 []  trivial  (.len (show lenA false (AV.sl SK.sh (List.map encT l)) = some (AV.int IntKind.i64 (↑l.length : Int)) from len_map _) <| .len (show lenA false (AV.sl SK.sh (List.map encT l)) = some (AV.int IntKind.i64 (↑l.length : Int)) from len_map _) <| .no (show ((↑l.length : Int) != (↑l.length : Int)) = false from Bool.eq_false_iff.2 (show ¬ (((↑l.length : Int) != (↑l.length : Int)) = true) from (by simp))) <| .cutQ k34_0 [(0, AV.sl SK.sh (List.map encT l)), (1, AV.sl SK.sh (List.map encT l)), (5, AV.int IntKind.i64 (0 : Int))] ({ boxes := [], toks := [], loops := [] : Heap }) (fun T hT => (h T hT))) (by kernel_rfl)
theorem sameL_loop (l : List Tol) (hn : l.length < 9223372036854775807) : ∀ (post : List Tol) (i : Nat) (hd : l.drop i = post) (T : Env) (hT : Has T [(0, .sl .sh (l.map encL)), (1, .sl .sh (l.map encL)), (5, .int .i64 i)]),
    Goes cfg a35 k35_0 T Heap.nil (IsRet (.bool true)) := by
  intro post
  induction post with
  | nil =>
    intro i hd T hT
    have hge := drop_ge hd
    exact goG 60 _  hT  (.len (show lenA false (AV.sl SK.sh (List.map encL l)) = some (AV.int IntKind.i64 (↑l.length : Int)) from len_map _) <| .no (show (decide ((↑i : Int) < (↑l.length : Int))) = false from decide_eq_false (show ¬ ((↑i : Int) < (↑l.length : Int)) from (by omega))) <| .fin ((ARes.ret (AV.bool true), { boxes := [], toks := [], loops := [] : Heap })) rfl) (by kernel_rfl)
  | cons x post ih =>
    intro i hd T hT
    have hlt := drop_lt hd
    have hnx := drop_next hd
    exact goG 60 _  hT  (.len (show lenA false (AV.sl SK.sh (List.map encL l)) = some (AV.int IntKind.i64 (↑l.length : Int)) from len_map _) <| .yes (show (decide ((↑i : Int) < (↑l.length : Int))) = true from decide_eq_true (show (↑i : Int) < (↑l.length : Int) from (by omega))) <| .idx (show idxA (3 : Nat) (AV.sl SK.sh (List.map encL l)) (AV.int IntKind.i64 (↑i : Int)) = some (AV.ref (encL x).cells) from idx_row hd (by rfl)) <| .idx (show idxA (3 : Nat) (AV.sl SK.sh (List.map encL l)) (AV.int IntKind.i64 (↑i : Int)) = some (AV.ref (encL x).cells) from idx_row hd (by rfl)) <| .no (show (if true = true then !(x.key == x.key && (x.val == x.val && (x.any == x.any && true))) else x.key == x.key && (x.val == x.val && (x.any == x.any && true))) = false from Bool.eq_false_iff.2 (show ¬ ((if true = true then !(x.key == x.key && (x.val == x.val && (x.any == x.any && true))) else x.key == x.key && (x.val == x.val && (x.any == x.any && true))) = true) from (by simp))) <| .bin (show binA BinOp.add (AV.int IntKind.i64 (↑i : Int)) (AV.int IntKind.i64 (1 : Int)) = some (AV.int IntKind.i64 (↑(i + (1 : Nat)) : Int)) from inc_i (by omega)) <| .cutQ k35_0 [(0, AV.sl SK.sh (List.map encL l)), (1, AV.sl SK.sh (List.map encL l)), (5, AV.int IntKind.i64 (↑(i + (1 : Nat)) : Int))] ({ boxes := [], toks := [], loops := [] : Heap }) (fun T hT => (ih (i + (1 : Nat)) hnx T hT))) (by kernel_rfl)
theorem sameL (l : List Tol) (hn : l.length < 9223372036854775807) : Gives cfg 35 [.sl .sh (l.map encL), .sl .sh (l.map encL)] (.bool true) := by
  refine Gives.run (l35 _ _) ?_
  have h := sameL_loop l hn l 0 rfl
  exact goG 60 []  trivial  (.len (show lenA false (AV.sl SK.sh (List.map encL l)) = some (AV.int IntKind.i64 (↑l.length : Int)) from len_map _) <| .len (show lenA false (AV.sl SK.sh (List.map encL l)) = some (AV.int IntKind.i64 (↑l.length : Int)) from len_map _) <| .no (show ((↑l.length : Int) != (↑l.length : Int)) = false from Bool.eq_false_iff.2 (show ¬ (((↑l.length : Int) != (↑l.length : Int)) = true) from (by simp))) <| .cutQ k35_0 [(0, AV.sl SK.sh (List.map encL l)), (1, AV.sl SK.sh (List.map encL l)), (5, AV.int IntKind.i64 (0 : Int))] ({ boxes := [], toks := [], loops := [] : Heap }) (fun T hT => (h T hT))) (by kernel_rfl)
end Go.Aa.T

set_option linter.unusedVariables false
set_option linter.unusedSimpArgs false
set_option maxRecDepth 100000
namespace Go.Aa.T
open Go.Aa Go.Proofs
theorem contains_yes (a : List UInt8) (c : UInt8) (h : c ∈ a) : Gives cfg 75 [.str a, .str [c]] (.bool true) := by
  obtain ⟨x, y, hc⟩ : ∃ x y, cutAt c a = some (x, y) := by
    cases hc : cutAt c a with
    | none => exact absurd h (cutAt_none hc)
    | some p => exact ⟨p.1, p.2, rfl⟩
  obtain ⟨rfl, hx⟩ := cutAt_some hc
  have hi : Gives cfg 105 [.str (x ++ c :: y), .str [c]] (.int .i64 (x.length : Nat)) := by
    have := index1 105 (x ++ c :: y) c rfl rfl
    rwa [ib_at hx] at this
  refine Gives.run (l75 _ _) ?_
  exact goG 60 []  trivial  (.callG ([AV.str (x ++ c :: y), AV.str [c]]) (AV.int IntKind.i64 (↑x.length : Int)) (show Gives cfg (105 : FuncId) [AV.str (x ++ c :: y), AV.str [c]] (AV.int IntKind.i64 (↑x.length : Int)) from hi) ⟨rfl, rfl⟩ ⟨rfl, rfl⟩ <| .fin ((ARes.ret (AV.bool (decide ((0 : Int) ≤ (↑x.length : Int)))), { boxes := [], toks := [], loops := [] : Heap })) rfl) (by kernel_rfl)
theorem suffix_no (a : List UInt8) (c : UInt8) (h : a.getLast? ≠ some c) (hl : a.length ≤ 1000) : Gives cfg 77 [.str a, .str [c]] (.tuple [.str a, .bool false]) := by
  have h1 : Gives cfg 126 [.str a, .str [c]] (.bool false) := by
    refine Gives.run (l126 _ _) ?_
    by_cases hn : a.length = 0
    · have : a = [] := List.length_eq_zero_iff.1 hn
      subst this
      exact goG 60 []  trivial  (.len (show lenA true (AV.str []) = some (AV.int IntKind.i64 (↑[].length : Int)) from len_str _) <| .len (show lenA true (AV.str [c]) = some (AV.int IntKind.i64 (↑[c].length : Int)) from len_str _) <| .ff <| .fin ((ARes.ret (AV.bool false), { boxes := [], toks := [], loops := [] : Heap })) rfl) (by kernel_rfl)
    · obtain ⟨n, en⟩ : ∃ n, a.length = n + 1 := ⟨a.length - 1, by omega⟩
      have hsub : binA .sub (.int .i64 (a.length : Nat)) (.int .i64 1) = some (.int .i64 (n : Nat)) := by rw [en]; exact dec_i (by omega)
      have hne : ¬ a.drop n = [c] := fun e => h (by
        have : a = a.take n ++ [c] := by rw [← e, List.take_append_drop]
        rw [this]; simp)
      exact goG 60 []  trivial  (.len (show lenA true (AV.str a) = some (AV.int IntKind.i64 (↑a.length : Int)) from len_str _) <| .len (show lenA true (AV.str [c]) = some (AV.int IntKind.i64 (↑[c].length : Int)) from len_str _) <| .yes (show (decide ((↑[c].length : Int) ≤ (↑a.length : Int))) = true from decide_eq_true (show (↑[c].length : Int) ≤ (↑a.length : Int) from (by simp; omega))) <| .len (show lenA true (AV.str a) = some (AV.int IntKind.i64 (↑a.length : Int)) from len_str _) <| .len (show lenA true (AV.str [c]) = some (AV.int IntKind.i64 (↑[c].length : Int)) from len_str _) <| .bin (show binA BinOp.sub (AV.int IntKind.i64 (↑a.length : Int)) (AV.int IntKind.i64 (↑[c].length : Int)) = some (AV.int IntKind.i64 (↑n : Int)) from hsub) <| .slice (show sliceA (0 : Nat) (AV.str a) (some (AV.int IntKind.i64 (↑n : Int))) none none = some (AV.str (List.drop n a)) from sstr_from (by omega)) <| .fin ((ARes.ret (AV.bool (List.drop n a == [c])), { boxes := [], toks := [], loops := [] : Heap })) (by simp [IsRet, hne])) (by kernel_rfl)
  have h2 : Gives cfg 106 [.str a, .str [c]] (.tuple [.str a, .bool false]) := by
    refine Gives.run (l106 _ _) ?_
    exact goG 60 []  trivial  (.callG ([AV.str a, AV.str [c]]) (AV.bool false) (show Gives cfg (126 : FuncId) [AV.str a, AV.str [c]] (AV.bool false) from h1) ⟨rfl, rfl⟩ ⟨rfl, rfl⟩ <| .tt <| .fin ((ARes.ret (AV.tuple [AV.str a, AV.bool false]), { boxes := [], toks := [], loops := [] : Heap })) rfl) (by kernel_rfl)
  refine Gives.run (l77 _ _) ?_
  exact goG 60 []  trivial  (.callG ([AV.str a, AV.str [c]]) (AV.tuple [AV.str a, AV.bool false]) (show Gives cfg (106 : FuncId) [AV.str a, AV.str [c]] (AV.tuple [AV.str a, AV.bool false]) from h2) ⟨rfl, rfl⟩ ⟨rfl, rfl⟩ <| .fin ((ARes.ret (AV.tuple [AV.str a, AV.bool false]), { boxes := [], toks := [], loops := [] : Heap })) rfl) (by kernel_rfl)

def partT (w : List UInt8) : Option Taint := match cutAt 58 w with
  | none => none
  | some (a, b) => if 58 ∈ b then none else some (if b.getLast? = some 33 then ⟨a, b.dropLast, true⟩ else ⟨a, b, false⟩)
def partL (w : List UInt8) : Option Tol := match cutAt 58 w with
  | none => if w = [] then none else some ⟨if w = [42] then [] else w, [], true⟩
  | some (a, b) => if a = [] ∨ 58 ∈ b then none else some ⟨if a = [42] then [] else a, b, false⟩
theorem stop2 : Pans cfg 76 [.int .i64 2] (stopV 2) := stop_pan (by decide)
theorem cut_len {w a b : List UInt8} {c : UInt8} (h : cutAt c w = some (a, b)) : w.length = a.length + 1 + b.length := by
  rw [(cutAt_some h).1]; simp; omega
theorem partT_run (w : List UInt8) (hl : w.length ≤ 1000) : (∀ x, partT w = some x → Gives cfg 73 [.str w] (encT x)) ∧ (partT w = none → Pans cfg 73 [.str w] (stopV 2)) := by
  cases hc : cutAt 58 w with
  | none =>
    have h := cut_miss w 58 (cutAt_none hc)
    refine ⟨fun x hx => by simp [partT, hc] at hx, fun _ => ?_⟩
    refine Pans.run (l73 _ _) ?_
    exact goG 60 []  trivial  (.callG ([AV.str w, AV.str [(58 : UInt8)]]) (AV.tuple [AV.str w, AV.str [], AV.bool false]) (show Gives cfg (74 : FuncId) [AV.str w, AV.str [(58 : UInt8)]] (AV.tuple [AV.str w, AV.str [], AV.bool false]) from h) ⟨rfl, rfl⟩ ⟨rfl, rfl⟩ <| .tt <| .tt <| .callP ([AV.int IntKind.i64 (2 : Int)]) ({ boxes := [[AV.str [], AV.str [], AV.bool false]], toks := [], loops := [] : Heap }) (show Pans cfg (76 : FuncId) [AV.int IntKind.i64 (2 : Int)] (stopV (2 : Int)) from stop2) ⟨rfl, rfl⟩ rfl rfl) (by kernel_rfl)
  | some p =>
    obtain ⟨a, b⟩ := p
    obtain ⟨rfl, hn⟩ := cutAt_some hc
    have hlen := cut_len hc
    have h := cut_hit a b 58 hn (by omega)
    by_cases hb : 58 ∈ b
    · have h2 := contains_yes b 58 hb
      refine ⟨fun x hx => by simp [partT, hc, hb] at hx, fun _ => ?_⟩
      refine Pans.run (l73 _ _) ?_
      exact goG 60 []  trivial  (.callG ([AV.str (a ++ (58 : UInt8) :: b), AV.str [(58 : UInt8)]]) (AV.tuple [AV.str a, AV.str b, AV.bool true]) (show Gives cfg (74 : FuncId) [AV.str (a ++ (58 : UInt8) :: b), AV.str [(58 : UInt8)]] (AV.tuple [AV.str a, AV.str b, AV.bool true]) from h) ⟨rfl, rfl⟩ ⟨rfl, rfl⟩ <| .ff <| .callG ([AV.str b, AV.str [(58 : UInt8)]]) (AV.bool true) (show Gives cfg (75 : FuncId) [AV.str b, AV.str [(58 : UInt8)]] (AV.bool true) from h2) ⟨rfl, rfl⟩ ⟨rfl, rfl⟩ <| .tt <| .callP ([AV.int IntKind.i64 (2 : Int)]) ({ boxes := [[AV.str [], AV.str [], AV.bool false]], toks := [], loops := [] : Heap }) (show Pans cfg (76 : FuncId) [AV.int IntKind.i64 (2 : Int)] (stopV (2 : Int)) from stop2) ⟨rfl, rfl⟩ rfl rfl) (by kernel_rfl)
    · have h2 := contains_no b 58 hb
      refine ⟨fun x hx => ?_, fun hx => by simp [partT, hc, hb] at hx⟩
      by_cases hg : b.getLast? = some 33
      · have e : x = ⟨a, b.dropLast, true⟩ := by simpa [partT, hc, hb, hg] using hx.symm
        subst e
        obtain ⟨d, rfl⟩ : ∃ d, b = d ++ [33] := by
          obtain ⟨ys, e⟩ := List.getLast?_eq_some_iff.1 hg
          exact ⟨ys, e⟩
        have hs := suffix_hit d 33 (by rw [hlen] at hl; simp only [List.length_append, List.length_cons, List.length_nil] at hl; omega)
        have ed : (d ++ [33]).dropLast = d := by simp
        rw [ed]
        refine Gives.run (l73 _ _) ?_
        exact goG 60 []  trivial  (.callG ([AV.str (a ++ (58 : UInt8) :: (d ++ [(33 : UInt8)])), AV.str [(58 : UInt8)]]) (AV.tuple [AV.str a, AV.str (d ++ [(33 : UInt8)]), AV.bool true]) (show Gives cfg (74 : FuncId) [AV.str (a ++ (58 : UInt8) :: (d ++ [(33 : UInt8)])), AV.str [(58 : UInt8)]] (AV.tuple [AV.str a, AV.str (d ++ [(33 : UInt8)]), AV.bool true]) from h) ⟨rfl, rfl⟩ ⟨rfl, rfl⟩ <| .ff <| .callG ([AV.str (d ++ [(33 : UInt8)]), AV.str [(58 : UInt8)]]) (AV.bool false) (show Gives cfg (75 : FuncId) [AV.str (d ++ [(33 : UInt8)]), AV.str [(58 : UInt8)]] (AV.bool false) from h2) ⟨rfl, rfl⟩ ⟨rfl, rfl⟩ <| .ff <| .callG ([AV.str (d ++ [(33 : UInt8)]), AV.str [(33 : UInt8)]]) (AV.tuple [AV.str d, AV.bool true]) (show Gives cfg (77 : FuncId) [AV.str (d ++ [(33 : UInt8)]), AV.str [(33 : UInt8)]] (AV.tuple [AV.str d, AV.bool true]) from hs) ⟨rfl, rfl⟩ ⟨rfl, rfl⟩ <| .fin ((ARes.ret (AV.agg [AV.str a, AV.str d, AV.bool true]), { boxes := [[AV.str a, AV.str d, AV.bool true]], toks := [], loops := [] : Heap })) rfl) (by kernel_rfl)
      · have e : x = ⟨a, b, false⟩ := by simpa [partT, hc, hb, hg] using hx.symm
        subst e
        have hs := suffix_no b 33 hg (by omega)
        refine Gives.run (l73 _ _) ?_
        exact goG 60 []  trivial  (.callG ([AV.str (a ++ (58 : UInt8) :: b), AV.str [(58 : UInt8)]]) (AV.tuple [AV.str a, AV.str b, AV.bool true]) (show Gives cfg (74 : FuncId) [AV.str (a ++ (58 : UInt8) :: b), AV.str [(58 : UInt8)]] (AV.tuple [AV.str a, AV.str b, AV.bool true]) from h) ⟨rfl, rfl⟩ ⟨rfl, rfl⟩ <| .ff <| .callG ([AV.str b, AV.str [(58 : UInt8)]]) (AV.bool false) (show Gives cfg (75 : FuncId) [AV.str b, AV.str [(58 : UInt8)]] (AV.bool false) from h2) ⟨rfl, rfl⟩ ⟨rfl, rfl⟩ <| .ff <| .callG ([AV.str b, AV.str [(33 : UInt8)]]) (AV.tuple [AV.str b, AV.bool false]) (show Gives cfg (77 : FuncId) [AV.str b, AV.str [(33 : UInt8)]] (AV.tuple [AV.str b, AV.bool false]) from hs) ⟨rfl, rfl⟩ ⟨rfl, rfl⟩ <| .fin ((ARes.ret (AV.agg [AV.str a, AV.str b, AV.bool false]), { boxes := [[AV.str a, AV.str b, AV.bool false]], toks := [], loops := [] : Heap })) rfl) (by kernel_rfl)
theorem partL_run (w : List UInt8) (hl : w.length ≤ 1000) : (∀ x, partL w = some x → Gives cfg 79 [.str w] (encL x)) ∧ (partL w = none → Pans cfg 79 [.str w] (stopV 2)) := by
  cases hc : cutAt 58 w with
  | none =>
    have h := cut_miss w 58 (cutAt_none hc)
    have h2 := contains_no [] 58 (by simp)
    by_cases hw : w = []
    · refine ⟨fun x hx => by simp only [partL, hc] at hx; simp [hw] at hx, fun _ => ?_⟩
      refine Pans.run (l79 _ _) ?_
      exact goG 60 []  trivial  (.callG ([AV.str w, AV.str [(58 : UInt8)]]) (AV.tuple [AV.str w, AV.str [], AV.bool false]) (show Gives cfg (74 : FuncId) [AV.str w, AV.str [(58 : UInt8)]] (AV.tuple [AV.str w, AV.str [], AV.bool false]) from h) ⟨rfl, rfl⟩ ⟨rfl, rfl⟩ <| .yes (show (w == []) = true from (by simpa using hw)) <| .tt <| .callP ([AV.int IntKind.i64 (2 : Int)]) ({ boxes := [[AV.str [], AV.str [], AV.bool false]], toks := [], loops := [] : Heap }) (show Pans cfg (76 : FuncId) [AV.int IntKind.i64 (2 : Int)] (stopV (2 : Int)) from stop2) ⟨rfl, rfl⟩ rfl rfl) (by kernel_rfl)
    · refine ⟨fun x hx => ?_, fun hx => by simp [partL, hc, hw] at hx⟩
      have e : x = ⟨if w = [42] then [] else w, [], true⟩ := by simpa [partL, hc, hw] using hx.symm
      subst e
      refine Gives.run (l79 _ _) ?_
      by_cases h42 : w = [42]
      · simp only [if_pos h42]
        exact goG 60 []  trivial  (.callG ([AV.str w, AV.str [(58 : UInt8)]]) (AV.tuple [AV.str w, AV.str [], AV.bool false]) (show Gives cfg (74 : FuncId) [AV.str w, AV.str [(58 : UInt8)]] (AV.tuple [AV.str w, AV.str [], AV.bool false]) from h) ⟨rfl, rfl⟩ ⟨rfl, rfl⟩ <| .no (show (w == []) = false from Bool.eq_false_iff.2 (show ¬ ((w == []) = true) from (by simpa using hw))) <| .callG ([AV.str [], AV.str [(58 : UInt8)]]) (AV.bool false) (show Gives cfg (75 : FuncId) [AV.str [], AV.str [(58 : UInt8)]] (AV.bool false) from h2) ⟨rfl, rfl⟩ ⟨rfl, rfl⟩ <| .ff <| .yes (show (w == [(42 : UInt8)]) = true from (by simpa using h42)) <| .fin ((ARes.ret (AV.agg [AV.str [], AV.str [], AV.bool !false]), { boxes := [[AV.str [], AV.str [], AV.bool !false]], toks := [], loops := [] : Heap })) rfl) (by kernel_rfl)
      · simp only [if_neg h42]
        exact goG 60 []  trivial  (.callG ([AV.str w, AV.str [(58 : UInt8)]]) (AV.tuple [AV.str w, AV.str [], AV.bool false]) (show Gives cfg (74 : FuncId) [AV.str w, AV.str [(58 : UInt8)]] (AV.tuple [AV.str w, AV.str [], AV.bool false]) from h) ⟨rfl, rfl⟩ ⟨rfl, rfl⟩ <| .no (show (w == []) = false from Bool.eq_false_iff.2 (show ¬ ((w == []) = true) from (by simpa using hw))) <| .callG ([AV.str [], AV.str [(58 : UInt8)]]) (AV.bool false) (show Gives cfg (75 : FuncId) [AV.str [], AV.str [(58 : UInt8)]] (AV.bool false) from h2) ⟨rfl, rfl⟩ ⟨rfl, rfl⟩ <| .ff <| .no (show (w == [(42 : UInt8)]) = false from Bool.eq_false_iff.2 (show ¬ ((w == [(42 : UInt8)]) = true) from (by simpa using h42))) <| .fin ((ARes.ret (AV.agg [AV.str w, AV.str [], AV.bool !false]), { boxes := [[AV.str w, AV.str [], AV.bool !false]], toks := [], loops := [] : Heap })) rfl) (by kernel_rfl)
  | some p =>
    obtain ⟨a, b⟩ := p
    obtain ⟨rfl, hn⟩ := cutAt_some hc
    have hlen := cut_len hc
    have h := cut_hit a b 58 hn (by omega)
    by_cases ha : a = []
    · refine ⟨fun x hx => by simp only [partL, hc] at hx; simp [ha] at hx, fun _ => ?_⟩
      refine Pans.run (l79 _ _) ?_
      exact goG 60 []  trivial  (.callG ([AV.str (a ++ (58 : UInt8) :: b), AV.str [(58 : UInt8)]]) (AV.tuple [AV.str a, AV.str b, AV.bool true]) (show Gives cfg (74 : FuncId) [AV.str (a ++ (58 : UInt8) :: b), AV.str [(58 : UInt8)]] (AV.tuple [AV.str a, AV.str b, AV.bool true]) from h) ⟨rfl, rfl⟩ ⟨rfl, rfl⟩ <| .yes (show (a == []) = true from (by simpa using ha)) <| .tt <| .callP ([AV.int IntKind.i64 (2 : Int)]) ({ boxes := [[AV.str [], AV.str [], AV.bool false]], toks := [], loops := [] : Heap }) (show Pans cfg (76 : FuncId) [AV.int IntKind.i64 (2 : Int)] (stopV (2 : Int)) from stop2) ⟨rfl, rfl⟩ rfl rfl) (by kernel_rfl)
    · by_cases hb : 58 ∈ b
      · have h2 := contains_yes b 58 hb
        refine ⟨fun x hx => by simp [partL, hc, hb] at hx, fun _ => ?_⟩
        refine Pans.run (l79 _ _) ?_
        exact goG 60 []  trivial  (.callG ([AV.str (a ++ (58 : UInt8) :: b), AV.str [(58 : UInt8)]]) (AV.tuple [AV.str a, AV.str b, AV.bool true]) (show Gives cfg (74 : FuncId) [AV.str (a ++ (58 : UInt8) :: b), AV.str [(58 : UInt8)]] (AV.tuple [AV.str a, AV.str b, AV.bool true]) from h) ⟨rfl, rfl⟩ ⟨rfl, rfl⟩ <| .no (show (a == []) = false from Bool.eq_false_iff.2 (show ¬ ((a == []) = true) from (by simpa using ha))) <| .callG ([AV.str b, AV.str [(58 : UInt8)]]) (AV.bool true) (show Gives cfg (75 : FuncId) [AV.str b, AV.str [(58 : UInt8)]] (AV.bool true) from h2) ⟨rfl, rfl⟩ ⟨rfl, rfl⟩ <| .tt <| .callP ([AV.int IntKind.i64 (2 : Int)]) ({ boxes := [[AV.str [], AV.str [], AV.bool false]], toks := [], loops := [] : Heap }) (show Pans cfg (76 : FuncId) [AV.int IntKind.i64 (2 : Int)] (stopV (2 : Int)) from stop2) ⟨rfl, rfl⟩ rfl rfl) (by kernel_rfl)
      · have h2 := contains_no b 58 hb
        refine ⟨fun x hx => ?_, fun hx => by simp [partL, hc, hb, ha] at hx⟩
        have e : x = ⟨if a = [42] then [] else a, b, false⟩ := by simpa [partL, hc, hb, ha] using hx.symm
        subst e
        refine Gives.run (l79 _ _) ?_
        by_cases h42 : a = [42]
        · simp only [if_pos h42]
          exact goG 60 []  trivial  (.callG ([AV.str (a ++ (58 : UInt8) :: b), AV.str [(58 : UInt8)]]) (AV.tuple [AV.str a, AV.str b, AV.bool true]) (show Gives cfg (74 : FuncId) [AV.str (a ++ (58 : UInt8) :: b), AV.str [(58 : UInt8)]] (AV.tuple [AV.str a, AV.str b, AV.bool true]) from h) ⟨rfl, rfl⟩ ⟨rfl, rfl⟩ <| .no (show (a == []) = false from Bool.eq_false_iff.2 (show ¬ ((a == []) = true) from (by simpa using ha))) <| .callG ([AV.str b, AV.str [(58 : UInt8)]]) (AV.bool false) (show Gives cfg (75 : FuncId) [AV.str b, AV.str [(58 : UInt8)]] (AV.bool false) from h2) ⟨rfl, rfl⟩ ⟨rfl, rfl⟩ <| .ff <| .yes (show (a == [(42 : UInt8)]) = true from (by simpa using h42)) <| .fin ((ARes.ret (AV.agg [AV.str [], AV.str b, AV.bool !true]), { boxes := [[AV.str [], AV.str b, AV.bool !true]], toks := [], loops := [] : Heap })) rfl) (by kernel_rfl)
        · simp only [if_neg h42]
          exact goG 60 []  trivial  (.callG ([AV.str (a ++ (58 : UInt8) :: b), AV.str [(58 : UInt8)]]) (AV.tuple [AV.str a, AV.str b, AV.bool true]) (show Gives cfg (74 : FuncId) [AV.str (a ++ (58 : UInt8) :: b), AV.str [(58 : UInt8)]] (AV.tuple [AV.str a, AV.str b, AV.bool true]) from h) ⟨rfl, rfl⟩ ⟨rfl, rfl⟩ <| .no (show (a == []) = false from Bool.eq_false_iff.2 (show ¬ ((a == []) = true) from (by simpa using ha))) <| .callG ([AV.str b, AV.str [(58 : UInt8)]]) (AV.bool false) (show Gives cfg (75 : FuncId) [AV.str b, AV.str [(58 : UInt8)]] (AV.bool false) from h2) ⟨rfl, rfl⟩ ⟨rfl, rfl⟩ <| .ff <| .no (show (a == [(42 : UInt8)]) = false from Bool.eq_false_iff.2 (show ¬ ((a == [(42 : UInt8)]) = true) from (by simpa using h42))) <| .fin ((ARes.ret (AV.agg [AV.str a, AV.str b, AV.bool !true]), { boxes := [[AV.str a, AV.str b, AV.bool !true]], toks := [], loops := [] : Heap })) rfl) (by kernel_rfl)

theorem parseT (s : List UInt8) (hl : s.length ≤ 1000) : Gives cfg 32 [.str s] (.tuple [.sl .sh ((parsed partT ckT s).1.map encT), .int .i64 (parsed partT ckT s).2]) := by
  have h := partsTaint partT ckT (fun p x h1 h2 => (partT_run p h1).1 x h2) (fun p h1 _ h2 => (partT_run p h1).2 h2) ckT2 s hl
  refine Gives.run (l32 _ _) ?_
  exact goG 60 []  trivial  (.callG ([AV.str s, AV.func (73 : Nat) [], AV.func (20 : Nat) []]) (AV.tuple [AV.sl SK.sh (List.map encT (parsed partT ckT s).fst), AV.int IntKind.i64 (parsed partT ckT s).snd]) (show Gives cfg (72 : FuncId) [AV.str s, AV.func (73 : FuncId) [], AV.func (20 : FuncId) []] (AV.tuple [rowF encT (parsed partT ckT s).fst, AV.int IntKind.i64 (parsed partT ckT s).snd]) from h) ⟨rfl, rfl⟩ Res.p <| .fin ((ARes.ret (AV.tuple [AV.sl SK.sh (List.map encT (parsed partT ckT s).fst), AV.int IntKind.i64 (parsed partT ckT s).snd]), { boxes := [], toks := [], loops := [] : Heap })) rfl) (by kernel_rfl)
theorem parseL (s : List UInt8) (hl : s.length ≤ 1000) : Gives cfg 33 [.str s] (.tuple [.sl .sh ((parsed partL ckL s).1.map encL), .int .i64 (parsed partL ckL s).2]) := by
  have h := partsTol partL ckL (fun p x h1 h2 => (partL_run p h1).1 x h2) (fun p h1 _ h2 => (partL_run p h1).2 h2) ckL2 s hl
  refine Gives.run (l33 _ _) ?_
  exact goG 60 []  trivial  (.callG ([AV.str s, AV.func (79 : Nat) [], AV.func (21 : Nat) []]) (AV.tuple [AV.sl SK.sh (List.map encL (parsed partL ckL s).fst), AV.int IntKind.i64 (parsed partL ckL s).snd]) (show Gives cfg (78 : FuncId) [AV.str s, AV.func (79 : FuncId) [], AV.func (21 : FuncId) []] (AV.tuple [rowF encL (parsed partL ckL s).fst, AV.int IntKind.i64 (parsed partL ckL s).snd]) from h) ⟨rfl, rfl⟩ Res.p <| .fin ((ARes.ret (AV.tuple [AV.sl SK.sh (List.map encL (parsed partL ckL s).fst), AV.int IntKind.i64 (parsed partL ckL s).snd]), { boxes := [], toks := [], loops := [] : Heap })) rfl) (by kernel_rfl)

end Go.Aa.T

set_option linter.unusedVariables false
set_option linter.unusedSimpArgs false
set_option maxRecDepth 100000
namespace Go.Aa.T
open Go.Aa Go.Proofs
theorem tail_cons (y : List UInt8) (r : List (List UInt8)) : Lib.joinTail [44] (y :: r) = 44 :: (y ++ Lib.joinTail [44] r) := by simp [Lib.joinTail]
theorem parts_ne (c : UInt8) : ∀ s : List UInt8, parts c s ≠ []
  | [] => by simp [parts]
  | b :: r => by
    unfold parts
    split
    · simp
    · split <;> simp
theorem join_parts : ∀ s : List UInt8, Lib.join (parts 44 s) [44] = s
  | [] => by simp [parts, Lib.join_cons, Lib.joinTail]
  | b :: r => by
    have ih := join_parts r
    unfold parts
    split
    · rename_i hb
      subst hb
      cases hp : parts 44 r with
      | nil => exact absurd hp (parts_ne _ _)
      | cons x xs =>
        rw [hp, Lib.join_cons] at ih
        rw [Lib.join_cons, tail_cons, ih]; rfl
    · cases hp : parts 44 r with
      | nil => exact absurd hp (parts_ne _ _)
      | cons x xs =>
        rw [hp, Lib.join_cons] at ih
        simp only [Lib.join_cons, List.cons_append, ih]
section
variable {X : Type} {pf : List UInt8 → Option X} {text : X → List UInt8} {ck : List X → Int}
theorem collect_back (hpt : ∀ p x, pf p = some x → text x = p) : ∀ (ps : List (List UInt8)) (acc l : List X), foldE (collect pf) acc ps = some l → ∃ r, l = acc ++ r ∧ r.map text = ps
  | [], acc, l, h => by
    simp only [foldE, Option.some.injEq] at h
    subst h
    exact ⟨[], by simp⟩
  | p :: ps, acc, l, h => by
    simp only [foldE] at h
    cases hc : collect pf acc p with
    | none => rw [hc] at h; cases h
    | some a' =>
      rw [hc] at h
      unfold collect at hc
      split at hc
      · cases hc
      · simp only [Option.map_eq_some_iff] at hc
        obtain ⟨x, hx, rfl⟩ := hc
        obtain ⟨r, rfl, hr⟩ := collect_back hpt ps _ l h
        exact ⟨x :: r, by simp, by simp [hpt p x hx, hr]⟩
theorem read_told (hpt : ∀ p x, pf p = some x → text x = p) (s : List UInt8) (h : (parsed pf ck s).2 = 0) : textOf text (parsed pf ck s).1 = s := by
  unfold parsed at h ⊢
  split at h
  · rename_i hs
    rw [if_pos hs, hs]; rfl
  · rename_i hs
    rw [if_neg hs]
    cases hf : foldE (collect pf) [] (parts 44 s) with
    | none => rw [hf] at h; cases h
    | some l =>
      rw [hf] at h
      simp only at h ⊢
      split at h
      · rename_i hc
        rw [if_pos hc]
        obtain ⟨r, e, hr⟩ := collect_back hpt _ _ _ hf
        simp only [List.nil_append] at e
        subst e
        have hne : l ≠ [] := by
          rintro rfl
          exact parts_ne 44 s hr.symm
        cases l with
        | nil => exact absurd rfl hne
        | cons x l => rw [show textOf text (x :: l) = Lib.join ((x :: l).map text) [44] from rfl, hr, join_parts]
      · rename_i hc
        exact absurd h hc
end

theorem partT_text (p : List UInt8) (x : Taint) (h : partT p = some x) : tText x = p := by
  unfold partT at h
  split at h
  · cases h
  · rename_i a b hc
    split at h
    · cases h
    · simp only [Option.some.injEq] at h
      rw [(cutAt_some hc).1]
      split at h
      · rename_i hg
        subst h
        obtain ⟨ys, rfl⟩ := List.getLast?_eq_some_iff.1 hg
        simp [tText]
      · subst h
        simp [tText]
theorem partL_text (p : List UInt8) (x : Tol) (h : partL p = some x) : lText x = p := by
  unfold partL at h
  split at h
  · split at h
    · cases h
    · rename_i hp
      simp only [Option.some.injEq] at h
      subst h
      by_cases h42 : p = [42] <;> simp [lText, h42, hp]
  · rename_i a b hc
    split at h
    · cases h
    · rename_i hab
      simp only [not_or] at hab
      simp only [Option.some.injEq] at h
      subst h
      rw [(cutAt_some hc).1]
      by_cases h42 : a = [42] <;> simp [lText, h42, hab.1]
theorem ckTl_good (l : List Taint) : ∀ (post : List Taint) (i : Nat), ckTl l i post = 0 → ∀ x ∈ post, goodT x = true
  | [], _, _ => by simp
  | x :: post, i, h => by
    unfold ckTl at h
    split at h
    · rename_i hg
      split at h
      · cases h
      · intro y hy
        rcases List.mem_cons.1 hy with rfl | hy
        · exact hg
        · exact ckTl_good l post _ h y hy
    · cases h
theorem ckT_good {l : List Taint} (h : ckT l = 0) : ∀ x ∈ l, goodT x = true := by
  unfold ckT at h
  split at h
  · exact ckTl_good l l 0 h
  · cases h
theorem ckL_good {l : List Tol} (h : ckL l = 0) : ∀ x ∈ l, okL x = true := by
  unfold ckL at h
  split at h
  · split at h
    · rename_i ha; exact List.all_eq_true.1 ha
    · cases h
  · cases h
end Go.Aa.T

set_option linter.unusedVariables false
set_option linter.unusedSimpArgs false
set_option maxRecDepth 100000
namespace Go.Aa.T
open Go.Aa Go.Proofs

def strs (l : List (List UInt8)) : List AV := l.map AV.str
theorem strs_el (l : List (List UInt8)) : (strs l).all (elOk 1) = true := by
  induction l with
  | nil => rfl
  | cons x l ih => simp only [strs, List.map_cons, List.all_cons, Bool.and_eq_true]; exact ⟨rfl, ih⟩
theorem strs_data (l : List (List UInt8)) : dataOk (strs l) = true := by
  induction l with
  | nil => rfl
  | cons x l ih => simp only [dataOk, strs, List.map_cons, List.all_cons, Bool.and_eq_true]; exact ⟨rfl, ih⟩
theorem strs_cells (l : List (List UInt8)) : rowCells (strs l) = strs l := by
  induction l with
  | nil => rfl
  | cons x l ih =>
    simp only [rowCells, strs, List.map_cons, List.flatMap_cons] at ih ⊢
    rw [ih]; rfl
def hSp (acc : List (List UInt8)) (cur : List UInt8) : Heap := hM acc.length (strs (acc ++ [cur]))
def mSp (acc : List (List UInt8)) : AV := .msl acc.length 0 (acc.length + 1) 1
theorem sp_grow (acc : List (List UInt8)) (cur : List UInt8) (h : acc.length ≤ 1000) :
    Does cfg (.appendM 1 16 (.c (mSp acc)) (.c (.sl .full [.str []]))) (hSp acc cur) (mSp (acc ++ [cur])) (hSp (acc ++ [cur]) []) := by
  have hh := does_grow (cfg := cfg) (es := 1) (b := 16) (k := acc.length) (l := strs (acc ++ [cur])) (v := .str []) (sk := .full) (by simp [strs]) (strs_el _) (strs_data _) rfl rfl (by simp [strs]; omega)
  have e1 : (strs (acc ++ [cur])).length = acc.length + 1 := by simp [strs]
  have e2 : strs (acc ++ [cur]) ++ [AV.str []] = strs (acc ++ [cur] ++ [[]]) := by simp [strs]
  rw [e1, e2] at hh
  have e3 : mSp (acc ++ [cur]) = .msl (acc.length + 1) 0 (acc.length + 1 + 1) 1 := by simp [mSp]
  have e4 : hSp (acc ++ [cur]) [] = hM (acc.length + 1) (strs (acc ++ [cur] ++ [[]])) := by simp [hSp]
  rw [e3, e4]
  exact hh
theorem sp_load (acc : List (List UInt8)) (cur : List UInt8) : Does cfg (.load false 1 (.c (.ptr acc.length acc.length))) (hSp acc cur) (.str cur) (hSp acc cur) := fun T => by
  have : loadA false 1 (hSp acc cur) (.ptr acc.length acc.length) = some (.str cur) := by
    simp only [loadA, hSp, hM_at, strs_cells]
    rw [if_pos (by simp [strs])]
    simp [strs]
  simp only [opStep, ev, this]
theorem sp_store (acc : List (List UInt8)) (cur x : List UInt8) : Does cfg (.store 1 (.c (.ptr acc.length acc.length)) (.c (.str x))) (hSp acc cur) .undef (hSp acc x) := fun T => by
  have : storeA 1 (hSp acc cur) (.ptr acc.length acc.length) (.str x) = some (hSp acc x) := by
    simp only [storeA, hSp, hM_at, strs_cells]
    rw [if_pos (by simp [strs, AV.cells, cellsN, cellOk])]
    have e : rowCells (strs (acc ++ [x])) = strs acc ++ [AV.str x] := by rw [strs_cells]; simp [strs]
    rw [hM, hM, e]
    simp [strs, AV.cells, paste, List.set_append]
  simp only [opStep, ev, this]
theorem sp_len (acc : List (List UInt8)) : lenA false (mSp acc) = some (.int .i64 ((acc.length + 1 : Nat) : Int)) := rfl
theorem sp_dec (acc : List (List UInt8)) (h : acc.length ≤ 1000) : binA .sub (.int .i64 ((acc.length + 1 : Nat) : Int)) (.int .i64 1) = some (.int .i64 (acc.length : Nat)) := dec_i (by omega)
theorem sp_idx (acc : List (List UInt8)) : idxA 1 (mSp acc) (.int .i64 (acc.length : Nat)) = some (.ptr acc.length acc.length) := by
  unfold mSp
  rw [idx_msl (Nat.lt_succ_self _)]
  simp
theorem sub_one {s post : List UInt8} {i : Nat} {b : UInt8} (h : s.drop i = b :: post) : sliceA 0 (.str s) (some (.int .i64 (i : Nat))) (some (.int .i64 ((i + 1 : Nat) : Int))) none = some (.str [b]) := by
  have hlt := drop_lt h
  rw [sstr_in (Nat.le_succ i) (by omega)]
  rw [List.drop_take, h]
  simp
theorem byte_ne {b c : UInt8} (h : ¬ b = c) : ((b.toNat : Nat) : Int) ≠ ((c.toNat : Nat) : Int) := fun e => h (UInt8.toNat_inj.1 (by omega))
theorem split_loop (s : List UInt8) (c : UInt8) (hl : s.length ≤ 1000) : ∀ (post : List UInt8) (i : Nat) (acc : List (List UInt8)) (cur : List UInt8) (hd : s.drop i = post) (ha : acc.length ≤ i) (hc : cur.length ≤ i) (out : List (List UInt8)) (ho : out = acc ++ (match parts c post with | [] => [cur] | p :: ps => (cur ++ p) :: ps)) (T : Env)
    (hT : Has T [(0, .str s), (1, .int .u8 (c.toNat : Nat)), (5, mSp acc), (6, .int .i64 i)]),
    Goes cfg a80 k80_0 T (hSp acc cur) (IsOut (.sl .sh (strs out))) := by
  intro post
  induction post with
  | nil =>
    intro i acc cur hd ha hc out ho T hT
    have hge := drop_ge hd
    have e : out = acc ++ [cur] := by simpa [parts] using ho
    have hout : IsOut (.sl .sh (strs out)) (.ret (mSp acc), hSp acc cur) := ⟨mSp acc, rfl, by
      rw [e]
      have := out_hM (es := 1) (k := acc.length) (l := strs (acc ++ [cur])) (by simp [strs]) (strs_el _) (by decide) (strs_data _)
      have e1 : (strs (acc ++ [cur])).length = acc.length + 1 := by simp [strs]
      rw [e1] at this
      exact this⟩
    exact goG 60 _  hT  (.len (show lenA true (AV.str s) = some (AV.int IntKind.i64 (↑s.length : Int)) from len_str _) <| .no (show (decide ((↑i : Int) < (↑s.length : Int))) = false from decide_eq_false (show ¬ ((↑i : Int) < (↑s.length : Int)) from (by omega))) <| .fin ((ARes.ret (AV.msl acc.length (0 : Nat) (acc.length + (1 : Nat)) (1 : Nat)), { boxes := List.replicate acc.length [] ++ [rowCells (strs (acc ++ [cur]))], toks := [], loops := [] : Heap })) (by exact hout)) (by kernel_rfl)
  | cons b post ih =>
    intro i acc cur hd ha hc out ho T hT
    have hlt := drop_lt hd
    by_cases hb : b = c
    · subst hb
      have g := sp_grow acc cur (by omega)
      have ih' := ih (i + 1) (acc ++ [cur]) [] (drop_next hd) (by simp; omega) (by simp) out (by
        rw [ho]
        simp only [parts, if_true]
        cases hp : parts b post with
        | nil => exact absurd hp (parts_ne _ _)
        | cons p ps => simp)
      exact goG 60 _  hT  (.len (show lenA true (AV.str s) = some (AV.int IntKind.i64 (↑s.length : Int)) from len_str _) <| .yes (show (decide ((↑i : Int) < (↑s.length : Int))) = true from decide_eq_true (show (↑i : Int) < (↑s.length : Int) from (by omega))) <| .idxs (show idxsA (AV.str s) (AV.int IntKind.i64 (↑i : Int)) = some (AV.int IntKind.u8 (↑b.toNat : Int)) from idx_str hd) <| .yes (show ((↑b.toNat : Int) == (↑b.toNat : Int)) = true from (by simp)) <| .effY (show Does cfg (AOp.appendM (1 : Nat) (16 : Nat) (Opd.c (mSp acc)) (Opd.c (AV.sl SK.full [AV.str []]))) (hSp acc cur) (mSp (acc ++ [cur])) (hSp (acc ++ [cur]) []) from g) <| .bin (show binA BinOp.add (AV.int IntKind.i64 (↑i : Int)) (AV.int IntKind.i64 (1 : Int)) = some (AV.int IntKind.i64 (↑(i + (1 : Nat)) : Int)) from inc_i (by omega)) <| .cutQ k80_0 [(0, AV.str s), (1, AV.int IntKind.u8 (↑b.toNat : Int)), (5, AV.msl (acc ++ [cur]).length (0 : Nat) ((acc ++ [cur]).length + (1 : Nat)) (1 : Nat)), (6, AV.int IntKind.i64 (↑(i + (1 : Nat)) : Int))] ({ boxes := List.replicate (acc ++ [cur]).length [] ++ [rowCells (strs (acc ++ [cur] ++ [[]]))], toks := [], loops := [] : Heap }) (fun T hT => (ih' T hT))) (by kernel_rfl)
    · have hs := sub_one hd
      have hbn := byte_ne hb
      have hadd : binA .add (.str cur) (.str [b]) = some (.str (cur ++ [b])) := str_add (by simp; omega)
      have ih' := ih (i + 1) acc (cur ++ [b]) (drop_next hd) (by omega) (by simp; omega) out (by
        rw [ho]
        simp only [parts, if_neg hb]
        cases hp : parts c post with
        | nil => exact absurd hp (parts_ne _ _)
        | cons p ps => simp)
      exact goG 60 _  hT  (.len (show lenA true (AV.str s) = some (AV.int IntKind.i64 (↑s.length : Int)) from len_str _) <| .yes (show (decide ((↑i : Int) < (↑s.length : Int))) = true from decide_eq_true (show (↑i : Int) < (↑s.length : Int) from (by omega))) <| .idxs (show idxsA (AV.str s) (AV.int IntKind.i64 (↑i : Int)) = some (AV.int IntKind.u8 (↑b.toNat : Int)) from idx_str hd) <| .no (show ((↑b.toNat : Int) == (↑c.toNat : Int)) = false from Bool.eq_false_iff.2 (show ¬ (((↑b.toNat : Int) == (↑c.toNat : Int)) = true) from (by simpa using hbn))) <| .len (show lenA false (AV.msl acc.length (0 : Nat) (acc.length + (1 : Nat)) (1 : Nat)) = some (AV.int IntKind.i64 (↑(acc.length + (1 : Nat)) : Int)) from sp_len _) <| .bin (show binA BinOp.sub (AV.int IntKind.i64 (↑(acc.length + (1 : Nat)) : Int)) (AV.int IntKind.i64 (1 : Int)) = some (AV.int IntKind.i64 (↑acc.length : Int)) from sp_dec _ (by omega)) <| .len (show lenA false (AV.msl acc.length (0 : Nat) (acc.length + (1 : Nat)) (1 : Nat)) = some (AV.int IntKind.i64 (↑(acc.length + (1 : Nat)) : Int)) from sp_len _) <| .bin (show binA BinOp.sub (AV.int IntKind.i64 (↑(acc.length + (1 : Nat)) : Int)) (AV.int IntKind.i64 (1 : Int)) = some (AV.int IntKind.i64 (↑acc.length : Int)) from sp_dec _ (by omega)) <| .idx (show idxA (1 : Nat) (AV.msl acc.length (0 : Nat) (acc.length + (1 : Nat)) (1 : Nat)) (AV.int IntKind.i64 (↑acc.length : Int)) = some (AV.ptr acc.length acc.length) from sp_idx _) <| .effY (show Does cfg (AOp.load false (1 : Nat) (Opd.c (AV.ptr acc.length acc.length))) (hSp acc cur) (AV.str cur) (hSp acc cur) from sp_load _ _) <| .bin (show binA BinOp.add (AV.int IntKind.i64 (↑i : Int)) (AV.int IntKind.i64 (1 : Int)) = some (AV.int IntKind.i64 (↑(i + (1 : Nat)) : Int)) from inc_i (by omega)) <| .slice (show sliceA (0 : Nat) (AV.str s) (some (AV.int IntKind.i64 (↑i : Int))) (some (AV.int IntKind.i64 (↑(i + (1 : Nat)) : Int))) none = some (AV.str [b]) from hs) <| .bin (show binA BinOp.add (AV.str cur) (AV.str [b]) = some (AV.str (cur ++ [b])) from hadd) <| .idx (show idxA (1 : Nat) (AV.msl acc.length (0 : Nat) (acc.length + (1 : Nat)) (1 : Nat)) (AV.int IntKind.i64 (↑acc.length : Int)) = some (AV.ptr acc.length acc.length) from sp_idx _) <| .effY (show Does cfg (AOp.store (1 : Nat) (Opd.c (AV.ptr acc.length acc.length)) (Opd.c (AV.str (cur ++ [b])))) (hSp acc cur) AV.undef (hSp acc (cur ++ [b])) from sp_store _ _ _) <| .bin (show binA BinOp.add (AV.int IntKind.i64 (↑i : Int)) (AV.int IntKind.i64 (1 : Int)) = some (AV.int IntKind.i64 (↑(i + (1 : Nat)) : Int)) from inc_i (by omega)) <| .cutQ k80_0 [(0, AV.str s), (1, AV.int IntKind.u8 (↑c.toNat : Int)), (5, AV.msl acc.length (0 : Nat) (acc.length + (1 : Nat)) (1 : Nat)), (6, AV.int IntKind.i64 (↑(i + (1 : Nat)) : Int))] ({ boxes := List.replicate acc.length [] ++ [rowCells (strs (acc ++ [cur ++ [b]]))], toks := [], loops := [] : Heap }) (fun T hT => (ih' T hT))) (by kernel_rfl)
theorem split80 (s : List UInt8) (c : UInt8) (hl : s.length ≤ 1000) : GivesF cfg 80 [.str s, .int .u8 (c.toNat : Nat)] (.sl .sh (strs (parts c s))) := by
  refine GivesF.run (l80 _ _) ?_
  have h := split_loop s c hl s 0 [] [] rfl (Nat.le_refl _) (Nat.le_refl _) (parts c s) (by
    cases hp : parts c s with
    | nil => exact absurd hp (parts_ne _ _)
    | cons p ps => simp)
  exact goG 60 []  trivial  (.cutQ k80_0 [(0, AV.str s), (1, AV.int IntKind.u8 (↑c.toNat : Int)), (5, AV.msl (0 : Nat) (0 : Nat) (1 : Nat) (1 : Nat)), (6, AV.int IntKind.i64 (0 : Int))] ({ boxes := [[AV.str []]], toks := [], loops := [] : Heap }) (fun T hT => (h T hT))) (by kernel_rfl)
end Go.Aa.T

set_option linter.unusedVariables false
set_option linter.unusedSimpArgs false
set_option maxRecDepth 100000
namespace Go.Aa.T
open Go.Aa Go.Proofs
theorem parts_two {c : UInt8} {a b : List UInt8} (h : c ∉ a) (h2 : c ∉ b) : parts c (a ++ c :: b) = [a, b] := by rw [parts_some h, parts_none h2]
theorem parts_three {c : UInt8} {a b : List UInt8} (h : c ∉ a) (h2 : c ∈ b) : ∃ x z r, parts c (a ++ c :: b) = a :: x :: z :: r := by
  cases hc : cutAt c b with
  | none => exact absurd h2 (cutAt_none hc)
  | some p =>
    obtain ⟨x, y⟩ := p
    obtain ⟨rfl, hx⟩ := cutAt_some hc
    rw [parts_some h, parts_some hx]
    cases hp : parts c y with
    | nil => exact absurd hp (parts_ne _ _)
    | cons z r => exact ⟨x, z, r, rfl⟩
theorem split_does {y : List UInt8} {ls : List (List UInt8)} (c : UInt8) (hl : y.length ≤ 1000) (e : parts c y = ls) (H : Heap) : Does cfg (.call (.c (.func 80 [])) [.c (.str y), .c (.int .u8 (c.toNat : Nat))]) H (.sl .sh (ls.map .str)) H := by
  subst e
  exact does_callF (split80 y c hl) rfl rfl H
def refV {X : Type} (enc : X → AV) (ck : List X → Int) : Option (List X) → AV
  | none => .tuple [.sl .sh [], .int .i64 2]
  | some l => if ck l = 0 then .tuple [.sl .sh (l.map enc), .int .i64 0] else .tuple [.sl .sh [], .int .i64 (ck l)]
theorem out_bad (e : Int) (H : Heap) : IsOut (.tuple [.sl .sh [], .int .i64 e]) (.ret (.tuple [.sl .full [], .int .i64 e]), H) := ⟨_, rfl, dataOut_of ⟨rfl, rfl⟩⟩
theorem out_row {X : Type} (enc : X → AV) (l : List X) (e : Int) (H : Heap) : IsOut (.tuple [.sl .sh (l.map enc), .int .i64 e]) (.ret (.tuple [rowF enc l, .int .i64 e]), H) :=
  ⟨_, rfl, dataOut_of (by cases l <;> exact ⟨rfl, rfl⟩)⟩
theorem parts_len {c : UInt8} : ∀ (s : List UInt8), (parts c s).length ≤ s.length + 1 ∧ ∀ p ∈ parts c s, p.length ≤ s.length
  | [] => by simp [parts]
  | b :: r => by
    obtain ⟨h1, h2⟩ := parts_len r
    unfold parts
    split
    · refine ⟨by simp; omega, fun p hp => ?_⟩
      simp only [List.mem_cons] at hp
      rcases hp with rfl | hp
      · simp
      · have := h2 p hp; simp; omega
    · cases hp : parts c r with
      | nil => exact absurd hp (parts_ne _ _)
      | cons x xs =>
        rw [hp] at h1 h2
        simp only [List.length_cons] at h1
        refine ⟨by simp; omega, fun p hq => ?_⟩
        simp only [List.mem_cons] at hq
        rcases hq with rfl | hq
        · have := h2 x (by simp); simp; omega
        · have := h2 p (by simp [hq]); simp; omega

theorem readT_loop (ps : List (List UInt8)) (hn : ps.length ≤ 1001) (hl : ∀ p ∈ ps, p.length ≤ 1000) : ∀ (post : List (List UInt8)) (i : Nat) (acc : List Taint) (bs : List (List AV)) (hd : ps.drop i = post) (ha : acc.length = i) (T : Env)
    (hT : Has T [(4, .sl .sh (ps.map AV.str)), (5, rowF encT acc), (6, .int .i64 i)]),
    Goes cfg a36 k36_0 T ⟨bs, tkR encT acc, []⟩ (IsOut (refV encT ckT (foldE (collect partT) acc post))) := by
  intro post
  induction post with
  | nil =>
    intro i acc bs hd ha T hT
    have hge := drop_ge hd
    by_cases hc : ckT acc = 0
    · have e : refV encT ckT (foldE (collect partT) acc []) = .tuple [.sl .sh (acc.map encT), .int .i64 0] := by simp [foldE, refV, hc]
      rw [e]
      exact goG 60 _  hT  (.len (show lenA false (AV.sl SK.sh (List.map AV.str ps)) = some (AV.int IntKind.i64 (↑ps.length : Int)) from len_map _) <| .no (show (decide ((↑i : Int) < (↑ps.length : Int))) = false from decide_eq_false (show ¬ ((↑i : Int) < (↑ps.length : Int)) from (by omega))) <| .callG ([AV.sl (skF acc) (List.map encT acc)]) (AV.int IntKind.i64 (ckT acc)) (show Gives cfg (18 : FuncId) [AV.sl SK.sh (List.map encT acc)] (AV.int IntKind.i64 (ckT acc)) from ckT_any _) Shuts.p ⟨rfl, rfl⟩ <| .no (show (ckT acc != (0 : Int)) = false from Bool.eq_false_iff.2 (show ¬ ((ckT acc != (0 : Int)) = true) from (by simpa using hc))) <| .fin ((ARes.ret (AV.tuple [AV.sl (skF acc) (List.map encT acc), AV.int IntKind.i64 (0 : Int)]), { boxes := bs, toks := tkR encT acc, loops := [] : Heap })) (by exact out_row _ _ _ _)) (by kernel_rfl)
    · have e : refV encT ckT (foldE (collect partT) acc []) = .tuple [.sl .sh [], .int .i64 (ckT acc)] := by simp [foldE, refV, hc]
      rw [e]
      exact goG 60 _  hT  (.len (show lenA false (AV.sl SK.sh (List.map AV.str ps)) = some (AV.int IntKind.i64 (↑ps.length : Int)) from len_map _) <| .no (show (decide ((↑i : Int) < (↑ps.length : Int))) = false from decide_eq_false (show ¬ ((↑i : Int) < (↑ps.length : Int)) from (by omega))) <| .callG ([AV.sl (skF acc) (List.map encT acc)]) (AV.int IntKind.i64 (ckT acc)) (show Gives cfg (18 : FuncId) [AV.sl SK.sh (List.map encT acc)] (AV.int IntKind.i64 (ckT acc)) from ckT_any _) Shuts.p ⟨rfl, rfl⟩ <| .yes (show (ckT acc != (0 : Int)) = true from (by simpa using hc)) <| .fin ((ARes.ret (AV.tuple [AV.sl SK.full [], AV.int IntKind.i64 (ckT acc)]), { boxes := bs, toks := tkR encT acc, loops := [] : Heap })) (by exact out_bad _ _)) (by kernel_rfl)
  | cons y post ih =>
    intro i acc bs hd ha T hT
    have hlt := drop_lt hd
    have hnx := drop_next hd
    have hyl := hl y (drop_mem hd)
    cases hc : cutAt 58 y with
    | none =>
      have hs := split_does 58 hyl (parts_none (cutAt_none hc))
      have hs' : ∀ H, Does cfg (.call (.c (.func 80 [])) [.c (.str y), .c (.int .u8 58)]) H (.sl .sh [.str y]) H := hs
      have e : refV encT ckT (foldE (collect partT) acc (y :: post)) = .tuple [.sl .sh [], .int .i64 2] := by
        have : collect partT acc y = none := by simp [collect, partT, hc]
        simp [foldE, this, refV]
      rw [e]
      exact goG 60 _  hT  (.len (show lenA false (AV.sl SK.sh (List.map AV.str ps)) = some (AV.int IntKind.i64 (↑ps.length : Int)) from len_map _) <| .yes (show (decide ((↑i : Int) < (↑ps.length : Int))) = true from decide_eq_true (show (↑i : Int) < (↑ps.length : Int) from (by omega))) <| .idx (show idxA (1 : Nat) (AV.sl SK.sh (List.map AV.str ps)) (AV.int IntKind.i64 (↑i : Int)) = some (AV.ref (AV.str y).cells) from idx_row hd (by rfl)) <| .load (show loadA false (1 : Nat) { boxes := bs, toks := tkR encT acc, loops := [] : Heap } (AV.ref [AV.str y]) = some (AV.str y) from rfl) <| .effY (show Does cfg (AOp.call (Opd.c (AV.func (80 : FuncId) [])) [Opd.c (AV.str y), Opd.c (AV.int IntKind.u8 (58 : Int))]) { boxes := bs, toks := tkR encT acc, loops := [] : Heap } (AV.sl SK.sh [AV.str y]) { boxes := bs, toks := tkR encT acc, loops := [] : Heap } from hs' _) <| .len (show lenA false (AV.sl SK.sh [AV.str y]) = some (AV.int IntKind.i64 (↑[AV.str y].length : Int)) from len_sl _ _) <| .tt <| .fin ((ARes.ret (AV.tuple [AV.sl SK.full [], AV.int IntKind.i64 (2 : Int)]), { boxes := bs, toks := tkR encT acc, loops := [] : Heap })) (by exact out_bad _ _)) (by kernel_rfl)
    | some p =>
      obtain ⟨a, b⟩ := p
      obtain ⟨rfl, hna⟩ := cutAt_some hc
      by_cases hb : 58 ∈ b
      · obtain ⟨x, z, r, hp⟩ := parts_three hna hb
        have hs' : ∀ H, Does cfg (.call (.c (.func 80 [])) [.c (.str (a ++ 58 :: b)), .c (.int .u8 58)]) H (.sl .sh (.str a :: .str x :: .str z :: r.map AV.str)) H := split_does 58 hyl hp
        have e : refV encT ckT (foldE (collect partT) acc ((a ++ 58 :: b) :: post)) = .tuple [.sl .sh [], .int .i64 2] := by
          have : collect partT acc (a ++ 58 :: b) = none := by simp [collect, partT, hc, hb]
          simp [foldE, this, refV]
        rw [e]
        exact goG 60 _  hT  (.len (show lenA false (AV.sl SK.sh (List.map AV.str ps)) = some (AV.int IntKind.i64 (↑ps.length : Int)) from len_map _) <| .yes (show (decide ((↑i : Int) < (↑ps.length : Int))) = true from decide_eq_true (show (↑i : Int) < (↑ps.length : Int) from (by simp; omega))) <| .idx (show idxA (1 : Nat) (AV.sl SK.sh (List.map AV.str ps)) (AV.int IntKind.i64 (↑i : Int)) = some (AV.ref (AV.str (a ++ (58 : UInt8) :: b)).cells) from idx_row hd (by rfl)) <| .load (show loadA false (1 : Nat) { boxes := bs, toks := tkR encT acc, loops := [] : Heap } (AV.ref [AV.str (a ++ (58 : UInt8) :: b)]) = some (AV.str (a ++ (58 : UInt8) :: b)) from rfl) <| .effY (show Does cfg (AOp.call (Opd.c (AV.func (80 : FuncId) [])) [Opd.c (AV.str (a ++ (58 : UInt8) :: b)), Opd.c (AV.int IntKind.u8 (58 : Int))]) { boxes := bs, toks := tkR encT acc, loops := [] : Heap } (AV.sl SK.sh (AV.str a :: AV.str x :: AV.str z :: List.map AV.str r)) { boxes := bs, toks := tkR encT acc, loops := [] : Heap } from hs' _) <| .len (show lenA false (AV.sl SK.sh (AV.str a :: AV.str x :: AV.str z :: List.map AV.str r)) = some (AV.int IntKind.i64 (↑(AV.str a :: AV.str x :: AV.str z :: List.map AV.str r).length : Int)) from len_sl _ _) <| .tt <| .fin ((ARes.ret (AV.tuple [AV.sl SK.full [], AV.int IntKind.i64 (2 : Int)]), { boxes := bs, toks := tkR encT acc, loops := [] : Heap })) (by exact out_bad _ _)) (by kernel_rfl)
      · have hs' : ∀ H, Does cfg (.call (.c (.func 80 [])) [.c (.str (a ++ 58 :: b)), .c (.int .u8 58)]) H (.sl .sh [.str a, .str b]) H := split_does 58 hyl (parts_two hna hb)
        have step : ∀ x, partT (a ++ 58 :: b) = some x → foldE (collect partT) acc ((a ++ 58 :: b) :: post) = foldE (collect partT) (acc ++ [x]) post := fun x hx => by
          simp [foldE, collect, hx]
        have happ : ∀ (x : Taint) (bs : List (List AV)), appendA 3 40 ⟨bs, tkR encT acc, []⟩ (rowF encT acc) (.sl .full [.agg [.str x.key, .str x.val, .bool x.hard]]) = some (rowF encT (acc ++ [x]), ⟨bs, tkR encT (acc ++ [x]), []⟩) := fun x bs =>
          row_append_T encT (x := x) (by rw [List.length_map]; omega) lenT rfl rfl
        have hbl : b.length ≤ 1000 := by have := cut_len hc; omega
        by_cases hg : b.getLast? = some 33
        · obtain ⟨d, rfl⟩ : ∃ d, b = d ++ [33] := by
            obtain ⟨ys, e⟩ := List.getLast?_eq_some_iff.1 hg
            exact ⟨ys, e⟩
          have hx : partT (a ++ 58 :: (d ++ [33])) = some ⟨a, d, true⟩ := by simp [partT, hc, hb]
          rw [step _ hx]
          have hap := happ ⟨a, d, true⟩
          have ih' := fun bs => ih (i + 1) (acc ++ [⟨a, d, true⟩]) bs hnx (by simp [ha])
          have hsub : binA .sub (.int .i64 ((d ++ [33]).length : Nat)) (.int .i64 1) = some (.int .i64 (d.length : Nat)) := by
            have : (d ++ [33]).length = d.length + 1 := by simp
            rw [this]; exact dec_i (by simp at hbl; omega)
          have hidx : idxsA (.str (d ++ [33])) (.int .i64 (d.length : Nat)) = some (.int .u8 33) := idx_strg (c := 33) (by simp)
          have hsl : sliceA 0 (.str (d ++ [33])) none (some (.int .i64 (d.length : Nat))) none = some (.str d) := by
            rw [sstr_to (by simp)]; simp
          exact goG 60 _  hT  (.len (show lenA false (AV.sl SK.sh (List.map AV.str ps)) = some (AV.int IntKind.i64 (↑ps.length : Int)) from len_map _) <| .yes (show (decide ((↑i : Int) < (↑ps.length : Int))) = true from decide_eq_true (show (↑i : Int) < (↑ps.length : Int) from (by omega))) <| .idx (show idxA (1 : Nat) (AV.sl SK.sh (List.map AV.str ps)) (AV.int IntKind.i64 (↑i : Int)) = some (AV.ref (AV.str (a ++ (58 : UInt8) :: (d ++ [(33 : UInt8)]))).cells) from idx_row hd (by rfl)) <| .load (show loadA false (1 : Nat) { boxes := bs, toks := tkR encT acc, loops := [] : Heap } (AV.ref [AV.str (a ++ (58 : UInt8) :: (d ++ [(33 : UInt8)]))]) = some (AV.str (a ++ (58 : UInt8) :: (d ++ [(33 : UInt8)]))) from rfl) <| .effY (show Does cfg (AOp.call (Opd.c (AV.func (80 : FuncId) [])) [Opd.c (AV.str (a ++ (58 : UInt8) :: (d ++ [(33 : UInt8)]))), Opd.c (AV.int IntKind.u8 (58 : Int))]) { boxes := bs, toks := tkR encT acc, loops := [] : Heap } (AV.sl SK.sh [AV.str a, AV.str (d ++ [(33 : UInt8)])]) { boxes := bs, toks := tkR encT acc, loops := [] : Heap } from hs' _) <| .len (show lenA false (AV.sl SK.sh [AV.str a, AV.str (d ++ [(33 : UInt8)])]) = some (AV.int IntKind.i64 (↑[AV.str a, AV.str (d ++ [(33 : UInt8)])].length : Int)) from len_sl _ _) <| .ff <| .idx (show idxA (1 : Nat) (AV.sl SK.sh [AV.str a, AV.str (d ++ [(33 : UInt8)])]) (AV.int IntKind.i64 (0 : Int)) = some (AV.ref [AV.str a]) from rfl) <| .load (show loadA false (1 : Nat) { boxes := bs, toks := tkR encT acc, loops := [] : Heap } (AV.ref [AV.str a]) = some (AV.str a) from rfl) <| .idx (show idxA (1 : Nat) (AV.sl SK.sh [AV.str a, AV.str (d ++ [(33 : UInt8)])]) (AV.int IntKind.i64 (1 : Int)) = some (AV.ref [AV.str (d ++ [(33 : UInt8)])]) from rfl) <| .load (show loadA false (1 : Nat) { boxes := bs, toks := tkR encT acc, loops := [] : Heap } (AV.ref [AV.str (d ++ [(33 : UInt8)])]) = some (AV.str (d ++ [(33 : UInt8)])) from rfl) <| .store (show storeA (3 : Nat) { boxes := bs ++ [[AV.str [], AV.str [], AV.bool false]], toks := tkR encT acc, loops := [] : Heap } (AV.ptr bs.length (0 : Nat)) (AV.agg [AV.str a, AV.str (d ++ [(33 : UInt8)]), AV.bool false]) = some ({ boxes := bs ++ [[AV.str a, AV.str (d ++ [(33 : UInt8)]), AV.bool false]], toks := tkR encT acc, loops := [] : Heap }) from store_box2 (cs := [AV.str [], AV.str [], AV.bool false]) (cs' := [AV.str a, AV.str (d ++ [(33 : UInt8)]), AV.bool false]) (by simp) rfl (by simp [List.set_append])) <| .load (show loadA false (1 : Nat) { boxes := bs ++ [[AV.str a, AV.str (d ++ [(33 : UInt8)]), AV.bool false]], toks := tkR encT acc, loops := [] : Heap } (AV.ptr bs.length (1 : Nat)) = some (AV.str (d ++ [(33 : UInt8)])) from load_box (cs := [AV.str a, AV.str (d ++ [(33 : UInt8)]), AV.bool false]) (by simp) rfl) <| .yes (show (!d ++ [(33 : UInt8)] == []) = true from by have hh : ¬ ((d ++ [(33 : UInt8)] == []) = true) := (by simp); simp [hh]) <| .load (show loadA false (1 : Nat) { boxes := bs ++ [[AV.str a, AV.str (d ++ [(33 : UInt8)]), AV.bool false]], toks := tkR encT acc, loops := [] : Heap } (AV.ptr bs.length (1 : Nat)) = some (AV.str (d ++ [(33 : UInt8)])) from load_box (cs := [AV.str a, AV.str (d ++ [(33 : UInt8)]), AV.bool false]) (by simp) rfl) <| .load (show loadA false (1 : Nat) { boxes := bs ++ [[AV.str a, AV.str (d ++ [(33 : UInt8)]), AV.bool false]], toks := tkR encT acc, loops := [] : Heap } (AV.ptr bs.length (1 : Nat)) = some (AV.str (d ++ [(33 : UInt8)])) from load_box (cs := [AV.str a, AV.str (d ++ [(33 : UInt8)]), AV.bool false]) (by simp) rfl) <| .len (show lenA true (AV.str (d ++ [(33 : UInt8)])) = some (AV.int IntKind.i64 (↑(d ++ [(33 : UInt8)]).length : Int)) from len_str _) <| .bin (show binA BinOp.sub (AV.int IntKind.i64 (↑(d ++ [(33 : UInt8)]).length : Int)) (AV.int IntKind.i64 (1 : Int)) = some (AV.int IntKind.i64 (↑d.length : Int)) from hsub) <| .idxs (show idxsA (AV.str (d ++ [(33 : UInt8)])) (AV.int IntKind.i64 (↑d.length : Int)) = some (AV.int IntKind.u8 (33 : Int)) from hidx) <| .tt <| .load (show loadA false (1 : Nat) { boxes := bs ++ [[AV.str a, AV.str (d ++ [(33 : UInt8)]), AV.bool false]], toks := tkR encT acc, loops := [] : Heap } (AV.ptr bs.length (1 : Nat)) = some (AV.str (d ++ [(33 : UInt8)])) from load_box (cs := [AV.str a, AV.str (d ++ [(33 : UInt8)]), AV.bool false]) (by simp) rfl) <| .load (show loadA false (1 : Nat) { boxes := bs ++ [[AV.str a, AV.str (d ++ [(33 : UInt8)]), AV.bool false]], toks := tkR encT acc, loops := [] : Heap } (AV.ptr bs.length (1 : Nat)) = some (AV.str (d ++ [(33 : UInt8)])) from load_box (cs := [AV.str a, AV.str (d ++ [(33 : UInt8)]), AV.bool false]) (by simp) rfl) <| .len (show lenA true (AV.str (d ++ [(33 : UInt8)])) = some (AV.int IntKind.i64 (↑(d ++ [(33 : UInt8)]).length : Int)) from len_str _) <| .bin (show binA BinOp.sub (AV.int IntKind.i64 (↑(d ++ [(33 : UInt8)]).length : Int)) (AV.int IntKind.i64 (1 : Int)) = some (AV.int IntKind.i64 (↑d.length : Int)) from hsub) <| .slice (show sliceA (0 : Nat) (AV.str (d ++ [(33 : UInt8)])) none (some (AV.int IntKind.i64 (↑d.length : Int))) none = some (AV.str d) from hsl) <| .store (show storeA (1 : Nat) { boxes := bs ++ [[AV.str a, AV.str (d ++ [(33 : UInt8)]), AV.bool false]], toks := tkR encT acc, loops := [] : Heap } (AV.ptr bs.length (1 : Nat)) (AV.str d) = some ({ boxes := bs ++ [[AV.str a, AV.str d, AV.bool false]], toks := tkR encT acc, loops := [] : Heap }) from store_box2 (cs := [AV.str a, AV.str (d ++ [(33 : UInt8)]), AV.bool false]) (cs' := [AV.str a, AV.str d, AV.bool false]) (by simp) rfl (by simp [List.set_append])) <| .store (show storeA (1 : Nat) { boxes := bs ++ [[AV.str a, AV.str d, AV.bool false]], toks := tkR encT acc, loops := [] : Heap } (AV.ptr bs.length (2 : Nat)) (AV.bool true) = some ({ boxes := bs ++ [[AV.str a, AV.str d, AV.bool true]], toks := tkR encT acc, loops := [] : Heap }) from store_box2 (cs := [AV.str a, AV.str d, AV.bool false]) (cs' := [AV.str a, AV.str d, AV.bool true]) (by simp) rfl (by simp [List.set_append])) <| .load (show loadA true (3 : Nat) { boxes := bs ++ [[AV.str a, AV.str d, AV.bool true]], toks := tkR encT acc, loops := [] : Heap } (AV.ptr bs.length (0 : Nat)) = some (AV.agg [AV.str a, AV.str d, AV.bool true]) from load_box (cs := [AV.str a, AV.str d, AV.bool true]) (by simp) rfl) <| .append (show appendA (3 : Nat) (40 : Nat) { boxes := bs ++ [[AV.str a, AV.str d, AV.bool true]], toks := tkR encT acc, loops := [] : Heap } (AV.sl (skF acc) (List.map encT acc)) (AV.sl SK.full [AV.agg [AV.str a, AV.str d, AV.bool true]]) = some ((rowF encT (acc ++ [{ key := a, val := d, hard := true : Taint }]), { boxes := bs ++ [[AV.str a, AV.str d, AV.bool true]], toks := tkR encT (acc ++ [{ key := a, val := d, hard := true : Taint }]), loops := [] : Heap })) from hap _) <| .bin (show binA BinOp.add (AV.int IntKind.i64 (↑i : Int)) (AV.int IntKind.i64 (1 : Int)) = some (AV.int IntKind.i64 (↑(i + (1 : Nat)) : Int)) from inc_i (by omega)) <| .cutQ k36_0 [(4, AV.sl SK.sh (List.map AV.str ps)), (5, AV.sl (skF (acc ++ [{ key := a, val := d, hard := true : Taint }])) (List.map encT (acc ++ [{ key := a, val := d, hard := true : Taint }]))), (6, AV.int IntKind.i64 (↑(i + (1 : Nat)) : Int))] ({ boxes := bs ++ [[AV.str a, AV.str d, AV.bool true]], toks := tkR encT (acc ++ [{ key := a, val := d, hard := true : Taint }]), loops := [] : Heap }) (fun T hT => (ih' (bs ++ [[AV.str a, AV.str d, AV.bool true]]) T hT))) (by kernel_rfl)
        · have hx : partT (a ++ 58 :: b) = some ⟨a, b, false⟩ := by simp [partT, hc, hb, hg]
          rw [step _ hx]
          have hap := happ ⟨a, b, false⟩
          have ih' := fun bs => ih (i + 1) (acc ++ [⟨a, b, false⟩]) bs hnx (by simp [ha])
          rcases List.eq_nil_or_concat b with rfl | ⟨d, w, rfl⟩
          · exact goG 60 _  hT  (.len (show lenA false (AV.sl SK.sh (List.map AV.str ps)) = some (AV.int IntKind.i64 (↑ps.length : Int)) from len_map _) <| .yes (show (decide ((↑i : Int) < (↑ps.length : Int))) = true from decide_eq_true (show (↑i : Int) < (↑ps.length : Int) from (by omega))) <| .idx (show idxA (1 : Nat) (AV.sl SK.sh (List.map AV.str ps)) (AV.int IntKind.i64 (↑i : Int)) = some (AV.ref (AV.str (a ++ [(58 : UInt8)])).cells) from idx_row hd (by rfl)) <| .load (show loadA false (1 : Nat) { boxes := bs, toks := tkR encT acc, loops := [] : Heap } (AV.ref [AV.str (a ++ [(58 : UInt8)])]) = some (AV.str (a ++ [(58 : UInt8)])) from rfl) <| .effY (show Does cfg (AOp.call (Opd.c (AV.func (80 : FuncId) [])) [Opd.c (AV.str (a ++ [(58 : UInt8)])), Opd.c (AV.int IntKind.u8 (58 : Int))]) { boxes := bs, toks := tkR encT acc, loops := [] : Heap } (AV.sl SK.sh [AV.str a, AV.str []]) { boxes := bs, toks := tkR encT acc, loops := [] : Heap } from hs' _) <| .len (show lenA false (AV.sl SK.sh [AV.str a, AV.str []]) = some (AV.int IntKind.i64 (↑[AV.str a, AV.str []].length : Int)) from len_sl _ _) <| .ff <| .idx (show idxA (1 : Nat) (AV.sl SK.sh [AV.str a, AV.str []]) (AV.int IntKind.i64 (0 : Int)) = some (AV.ref [AV.str a]) from rfl) <| .load (show loadA false (1 : Nat) { boxes := bs, toks := tkR encT acc, loops := [] : Heap } (AV.ref [AV.str a]) = some (AV.str a) from rfl) <| .idx (show idxA (1 : Nat) (AV.sl SK.sh [AV.str a, AV.str []]) (AV.int IntKind.i64 (1 : Int)) = some (AV.ref [AV.str []]) from rfl) <| .load (show loadA false (1 : Nat) { boxes := bs, toks := tkR encT acc, loops := [] : Heap } (AV.ref [AV.str []]) = some (AV.str []) from rfl) <| .store (show storeA (3 : Nat) { boxes := bs ++ [[AV.str [], AV.str [], AV.bool false]], toks := tkR encT acc, loops := [] : Heap } (AV.ptr bs.length (0 : Nat)) (AV.agg [AV.str a, AV.str [], AV.bool false]) = some ({ boxes := bs ++ [[AV.str a, AV.str [], AV.bool false]], toks := tkR encT acc, loops := [] : Heap }) from store_box2 (cs := [AV.str [], AV.str [], AV.bool false]) (cs' := [AV.str a, AV.str [], AV.bool false]) (by simp) rfl (by simp [List.set_append])) <| .load (show loadA false (1 : Nat) { boxes := bs ++ [[AV.str a, AV.str [], AV.bool false]], toks := tkR encT acc, loops := [] : Heap } (AV.ptr bs.length (1 : Nat)) = some (AV.str []) from load_box (cs := [AV.str a, AV.str [], AV.bool false]) (by simp) rfl) <| .ff <| .ff <| .load (show loadA true (3 : Nat) { boxes := bs ++ [[AV.str a, AV.str [], AV.bool false]], toks := tkR encT acc, loops := [] : Heap } (AV.ptr bs.length (0 : Nat)) = some (AV.agg [AV.str a, AV.str [], AV.bool false]) from load_box (cs := [AV.str a, AV.str [], AV.bool false]) (by simp) rfl) <| .append (show appendA (3 : Nat) (40 : Nat) { boxes := bs ++ [[AV.str a, AV.str [], AV.bool false]], toks := tkR encT acc, loops := [] : Heap } (AV.sl (skF acc) (List.map encT acc)) (AV.sl SK.full [AV.agg [AV.str a, AV.str [], AV.bool false]]) = some ((rowF encT (acc ++ [{ key := a, val := [], hard := false : Taint }]), { boxes := bs ++ [[AV.str a, AV.str [], AV.bool false]], toks := tkR encT (acc ++ [{ key := a, val := [], hard := false : Taint }]), loops := [] : Heap })) from hap _) <| .bin (show binA BinOp.add (AV.int IntKind.i64 (↑i : Int)) (AV.int IntKind.i64 (1 : Int)) = some (AV.int IntKind.i64 (↑(i + (1 : Nat)) : Int)) from inc_i (by omega)) <| .cutQ k36_0 [(4, AV.sl SK.sh (List.map AV.str ps)), (5, AV.sl (skF (acc ++ [{ key := a, val := [], hard := false : Taint }])) (List.map encT (acc ++ [{ key := a, val := [], hard := false : Taint }]))), (6, AV.int IntKind.i64 (↑(i + (1 : Nat)) : Int))] ({ boxes := bs ++ [[AV.str a, AV.str [], AV.bool false]], toks := tkR encT (acc ++ [{ key := a, val := [], hard := false : Taint }]), loops := [] : Heap }) (fun T hT => (ih' (bs ++ [[AV.str a, AV.str [], AV.bool false]]) T hT))) (by kernel_rfl)
          · rw [List.concat_eq_append] at *
            have hw : ¬ w = 33 := fun e => hg (by simp [e])
            have hwn : ((w.toNat : Nat) : Int) ≠ 33 := byte_ne hw
            have hsub : binA .sub (.int .i64 ((d ++ [w]).length : Nat)) (.int .i64 1) = some (.int .i64 (d.length : Nat)) := by
              have : (d ++ [w]).length = d.length + 1 := by simp
              rw [this]; exact dec_i (by simp at hbl; omega)
            have hidx : idxsA (.str (d ++ [w])) (.int .i64 (d.length : Nat)) = some (.int .u8 (w.toNat : Nat)) := idx_strg (c := w) (by simp)
            exact goG 60 _  hT  (.len (show lenA false (AV.sl SK.sh (List.map AV.str ps)) = some (AV.int IntKind.i64 (↑ps.length : Int)) from len_map _) <| .yes (show (decide ((↑i : Int) < (↑ps.length : Int))) = true from decide_eq_true (show (↑i : Int) < (↑ps.length : Int) from (by omega))) <| .idx (show idxA (1 : Nat) (AV.sl SK.sh (List.map AV.str ps)) (AV.int IntKind.i64 (↑i : Int)) = some (AV.ref (AV.str (a ++ (58 : UInt8) :: (d ++ [w]))).cells) from idx_row hd (by rfl)) <| .load (show loadA false (1 : Nat) { boxes := bs, toks := tkR encT acc, loops := [] : Heap } (AV.ref [AV.str (a ++ (58 : UInt8) :: (d ++ [w]))]) = some (AV.str (a ++ (58 : UInt8) :: (d ++ [w]))) from rfl) <| .effY (show Does cfg (AOp.call (Opd.c (AV.func (80 : FuncId) [])) [Opd.c (AV.str (a ++ (58 : UInt8) :: (d ++ [w]))), Opd.c (AV.int IntKind.u8 (58 : Int))]) { boxes := bs, toks := tkR encT acc, loops := [] : Heap } (AV.sl SK.sh [AV.str a, AV.str (d ++ [w])]) { boxes := bs, toks := tkR encT acc, loops := [] : Heap } from hs' _) <| .len (show lenA false (AV.sl SK.sh [AV.str a, AV.str (d ++ [w])]) = some (AV.int IntKind.i64 (↑[AV.str a, AV.str (d ++ [w])].length : Int)) from len_sl _ _) <| .ff <| .idx (show idxA (1 : Nat) (AV.sl SK.sh [AV.str a, AV.str (d ++ [w])]) (AV.int IntKind.i64 (0 : Int)) = some (AV.ref [AV.str a]) from rfl) <| .load (show loadA false (1 : Nat) { boxes := bs, toks := tkR encT acc, loops := [] : Heap } (AV.ref [AV.str a]) = some (AV.str a) from rfl) <| .idx (show idxA (1 : Nat) (AV.sl SK.sh [AV.str a, AV.str (d ++ [w])]) (AV.int IntKind.i64 (1 : Int)) = some (AV.ref [AV.str (d ++ [w])]) from rfl) <| .load (show loadA false (1 : Nat) { boxes := bs, toks := tkR encT acc, loops := [] : Heap } (AV.ref [AV.str (d ++ [w])]) = some (AV.str (d ++ [w])) from rfl) <| .store (show storeA (3 : Nat) { boxes := bs ++ [[AV.str [], AV.str [], AV.bool false]], toks := tkR encT acc, loops := [] : Heap } (AV.ptr bs.length (0 : Nat)) (AV.agg [AV.str a, AV.str (d ++ [w]), AV.bool false]) = some ({ boxes := bs ++ [[AV.str a, AV.str (d ++ [w]), AV.bool false]], toks := tkR encT acc, loops := [] : Heap }) from store_box2 (cs := [AV.str [], AV.str [], AV.bool false]) (cs' := [AV.str a, AV.str (d ++ [w]), AV.bool false]) (by simp) rfl (by simp [List.set_append])) <| .load (show loadA false (1 : Nat) { boxes := bs ++ [[AV.str a, AV.str (d ++ [w]), AV.bool false]], toks := tkR encT acc, loops := [] : Heap } (AV.ptr bs.length (1 : Nat)) = some (AV.str (d ++ [w])) from load_box (cs := [AV.str a, AV.str (d ++ [w]), AV.bool false]) (by simp) rfl) <| .yes (show (!d ++ [w] == []) = true from by have hh : ¬ ((d ++ [w] == []) = true) := (by simp); simp [hh]) <| .load (show loadA false (1 : Nat) { boxes := bs ++ [[AV.str a, AV.str (d ++ [w]), AV.bool false]], toks := tkR encT acc, loops := [] : Heap } (AV.ptr bs.length (1 : Nat)) = some (AV.str (d ++ [w])) from load_box (cs := [AV.str a, AV.str (d ++ [w]), AV.bool false]) (by simp) rfl) <| .load (show loadA false (1 : Nat) { boxes := bs ++ [[AV.str a, AV.str (d ++ [w]), AV.bool false]], toks := tkR encT acc, loops := [] : Heap } (AV.ptr bs.length (1 : Nat)) = some (AV.str (d ++ [w])) from load_box (cs := [AV.str a, AV.str (d ++ [w]), AV.bool false]) (by simp) rfl) <| .len (show lenA true (AV.str (d ++ [w])) = some (AV.int IntKind.i64 (↑(d ++ [w]).length : Int)) from len_str _) <| .bin (show binA BinOp.sub (AV.int IntKind.i64 (↑(d ++ [w]).length : Int)) (AV.int IntKind.i64 (1 : Int)) = some (AV.int IntKind.i64 (↑d.length : Int)) from hsub) <| .idxs (show idxsA (AV.str (d ++ [w])) (AV.int IntKind.i64 (↑d.length : Int)) = some (AV.int IntKind.u8 (↑w.toNat : Int)) from hidx) <| .no (show ((↑w.toNat : Int) == (33 : Int)) = false from Bool.eq_false_iff.2 (show ¬ (((↑w.toNat : Int) == (33 : Int)) = true) from (by simpa using hwn))) <| .load (show loadA true (3 : Nat) { boxes := bs ++ [[AV.str a, AV.str (d ++ [w]), AV.bool false]], toks := tkR encT acc, loops := [] : Heap } (AV.ptr bs.length (0 : Nat)) = some (AV.agg [AV.str a, AV.str (d ++ [w]), AV.bool false]) from load_box (cs := [AV.str a, AV.str (d ++ [w]), AV.bool false]) (by simp) rfl) <| .append (show appendA (3 : Nat) (40 : Nat) { boxes := bs ++ [[AV.str a, AV.str (d ++ [w]), AV.bool false]], toks := tkR encT acc, loops := [] : Heap } (AV.sl (skF acc) (List.map encT acc)) (AV.sl SK.full [AV.agg [AV.str a, AV.str (d ++ [w]), AV.bool false]]) = some ((rowF encT (acc ++ [{ key := a, val := d ++ [w], hard := false : Taint }]), { boxes := bs ++ [[AV.str a, AV.str (d ++ [w]), AV.bool false]], toks := tkR encT (acc ++ [{ key := a, val := d ++ [w], hard := false : Taint }]), loops := [] : Heap })) from hap _) <| .bin (show binA BinOp.add (AV.int IntKind.i64 (↑i : Int)) (AV.int IntKind.i64 (1 : Int)) = some (AV.int IntKind.i64 (↑(i + (1 : Nat)) : Int)) from inc_i (by omega)) <| .cutQ k36_0 [(4, AV.sl SK.sh (List.map AV.str ps)), (5, AV.sl (skF (acc ++ [{ key := a, val := d ++ [w], hard := false : Taint }])) (List.map encT (acc ++ [{ key := a, val := d ++ [w], hard := false : Taint }]))), (6, AV.int IntKind.i64 (↑(i + (1 : Nat)) : Int))] ({ boxes := bs ++ [[AV.str a, AV.str (d ++ [w]), AV.bool false]], toks := tkR encT (acc ++ [{ key := a, val := d ++ [w], hard := false : Taint }]), loops := [] : Heap }) (fun T hT => (ih' (bs ++ [[AV.str a, AV.str (d ++ [w]), AV.bool false]]) T hT))) (by kernel_rfl)
theorem readT_ref (s : List UInt8) (hl : s.length ≤ 1000) (H : Heap) : Does cfg (.call (.c (.func 36 [])) [.c (.str s)]) H (.tuple [.sl .sh ((parsed partT ckT s).1.map encT), .int .i64 (parsed partT ckT s).2]) H := by
  refine does_callF (cfg := cfg) (g := 36) (xs := [.str s]) ?_ rfl rfl H
  refine GivesF.run (l36 _ _) ?_
  by_cases h45 : s = [45]
  · subst h45
    exact goG 60 []  trivial  (.tt <| .fin ((ARes.ret (AV.tuple [AV.sl SK.full [], AV.int IntKind.i64 (0 : Int)]), { boxes := [], toks := [], loops := [] : Heap })) (by exact out_bad _ _)) (by kernel_rfl)
  · obtain ⟨h1, h2⟩ := parts_len (c := 44) s
    have hs' : ∀ H, Does cfg (.call (.c (.func 80 [])) [.c (.str s), .c (.int .u8 44)]) H (.sl .sh ((parts 44 s).map .str)) H := split_does 44 hl rfl
    have h := readT_loop (parts 44 s) (by omega) (fun p hp => Nat.le_trans (h2 p hp) hl) _ 0 [] [] rfl rfl
    have e : refV encT ckT (foldE (collect partT) [] (parts 44 s)) = .tuple [.sl .sh ((parsed partT ckT s).1.map encT), .int .i64 (parsed partT ckT s).2] := by
      unfold parsed
      rw [if_neg h45]
      cases foldE (collect partT) [] (parts 44 s) with
      | none => rfl
      | some l => simp only [refV]; split <;> rfl
    rw [List.drop_zero, e] at h
    exact goG 60 []  trivial  (.no (show (s == [(45 : UInt8)]) = false from Bool.eq_false_iff.2 (show ¬ ((s == [(45 : UInt8)]) = true) from (by simpa using h45))) <| .effY (show Does cfg (AOp.call (Opd.c (AV.func (80 : FuncId) [])) [Opd.c (AV.str s), Opd.c (AV.int IntKind.u8 (44 : Int))]) { boxes := [], toks := [], loops := [] : Heap } (AV.sl SK.sh (List.map AV.str (parts (44 : UInt8) s))) { boxes := [], toks := [], loops := [] : Heap } from hs' _) <| .cutQ k36_0 [(4, AV.sl SK.sh (List.map AV.str (parts (44 : UInt8) s))), (5, AV.sl SK.full []), (6, AV.int IntKind.i64 (0 : Int))] ({ boxes := [], toks := [], loops := [] : Heap }) (fun T hT => (h T hT))) (by kernel_rfl)
end Go.Aa.T

set_option linter.unusedVariables false
set_option linter.unusedSimpArgs false
set_option maxRecDepth 100000
namespace Go.Aa.T
open Go.Aa Go.Proofs

theorem readL_loop (ps : List (List UInt8)) (hn : ps.length ≤ 1001) (hl : ∀ p ∈ ps, p.length ≤ 1000) : ∀ (post : List (List UInt8)) (i : Nat) (acc : List Tol) (bs : List (List AV)) (hd : ps.drop i = post) (ha : acc.length = i) (T : Env)
    (hT : Has T [(4, .sl .sh (ps.map AV.str)), (5, rowF encL acc), (6, .int .i64 i)]),
    Goes cfg a37 k37_0 T ⟨bs, tkR encL acc, []⟩ (IsOut (refV encL ckL (foldE (collect partL) acc post))) := by
  intro post
  induction post with
  | nil =>
    intro i acc bs hd ha T hT
    have hge := drop_ge hd
    by_cases hc : ckL acc = 0
    · have e : refV encL ckL (foldE (collect partL) acc []) = .tuple [.sl .sh (acc.map encL), .int .i64 0] := by simp [foldE, refV, hc]
      rw [e]
      exact goG 60 _  hT  (.len (show lenA false (AV.sl SK.sh (List.map AV.str ps)) = some (AV.int IntKind.i64 (↑ps.length : Int)) from len_map _) <| .no (show (decide ((↑i : Int) < (↑ps.length : Int))) = false from decide_eq_false (show ¬ ((↑i : Int) < (↑ps.length : Int)) from (by omega))) <| .callG ([AV.sl (skF acc) (List.map encL acc)]) (AV.int IntKind.i64 (ckL acc)) (show Gives cfg (19 : FuncId) [AV.sl SK.sh (List.map encL acc)] (AV.int IntKind.i64 (ckL acc)) from ckL_any _) Shuts.p ⟨rfl, rfl⟩ <| .no (show (ckL acc != (0 : Int)) = false from Bool.eq_false_iff.2 (show ¬ ((ckL acc != (0 : Int)) = true) from (by simpa using hc))) <| .fin ((ARes.ret (AV.tuple [AV.sl (skF acc) (List.map encL acc), AV.int IntKind.i64 (0 : Int)]), { boxes := bs, toks := tkR encL acc, loops := [] : Heap })) (by exact out_row _ _ _ _)) (by kernel_rfl)
    · have e : refV encL ckL (foldE (collect partL) acc []) = .tuple [.sl .sh [], .int .i64 (ckL acc)] := by simp [foldE, refV, hc]
      rw [e]
      exact goG 60 _  hT  (.len (show lenA false (AV.sl SK.sh (List.map AV.str ps)) = some (AV.int IntKind.i64 (↑ps.length : Int)) from len_map _) <| .no (show (decide ((↑i : Int) < (↑ps.length : Int))) = false from decide_eq_false (show ¬ ((↑i : Int) < (↑ps.length : Int)) from (by omega))) <| .callG ([AV.sl (skF acc) (List.map encL acc)]) (AV.int IntKind.i64 (ckL acc)) (show Gives cfg (19 : FuncId) [AV.sl SK.sh (List.map encL acc)] (AV.int IntKind.i64 (ckL acc)) from ckL_any _) Shuts.p ⟨rfl, rfl⟩ <| .yes (show (ckL acc != (0 : Int)) = true from (by simpa using hc)) <| .fin ((ARes.ret (AV.tuple [AV.sl SK.full [], AV.int IntKind.i64 (ckL acc)]), { boxes := bs, toks := tkR encL acc, loops := [] : Heap })) (by exact out_bad _ _)) (by kernel_rfl)
  | cons y post ih =>
    intro i acc bs hd ha T hT
    have hlt := drop_lt hd
    have hnx := drop_next hd
    have hyl := hl y (drop_mem hd)
    have step : ∀ x, y ≠ [] → partL y = some x → foldE (collect partL) acc (y :: post) = foldE (collect partL) (acc ++ [x]) post := fun x h0 hx => by
      simp [foldE, collect, hx, h0]
    have bad : y = [] ∨ partL y = none → refV encL ckL (foldE (collect partL) acc (y :: post)) = .tuple [.sl .sh [], .int .i64 2] := fun h => by
      have : collect partL acc y = none := by
        unfold collect
        rcases h with h | h
        · rw [if_pos h]
        · split
          · rfl
          · rw [h]; rfl
      simp [foldE, this, refV]
    have happ : ∀ (x : Tol) (bs : List (List AV)), appendA 3 40 ⟨bs, tkR encL acc, []⟩ (rowF encL acc) (.sl .full [.agg [.str x.key, .str x.val, .bool x.any]]) = some (rowF encL (acc ++ [x]), ⟨bs, tkR encL (acc ++ [x]), []⟩) := fun x bs =>
      row_append_T encL (x := x) (by rw [List.length_map]; omega) lenL rfl rfl
    cases hc : cutAt 58 y with
    | none =>
      have hs' : ∀ H, Does cfg (.call (.c (.func 80 [])) [.c (.str y), .c (.int .u8 58)]) H (.sl .sh [.str y]) H := split_does 58 hyl (parts_none (cutAt_none hc))
      by_cases hy : y = []
      · rw [bad (.inl hy)]
        exact goG 60 _  hT  (.len (show lenA false (AV.sl SK.sh (List.map AV.str ps)) = some (AV.int IntKind.i64 (↑ps.length : Int)) from len_map _) <| .yes (show (decide ((↑i : Int) < (↑ps.length : Int))) = true from decide_eq_true (show (↑i : Int) < (↑ps.length : Int) from (by omega))) <| .idx (show idxA (1 : Nat) (AV.sl SK.sh (List.map AV.str ps)) (AV.int IntKind.i64 (↑i : Int)) = some (AV.ref (AV.str y).cells) from idx_row hd (by rfl)) <| .load (show loadA false (1 : Nat) { boxes := bs, toks := tkR encL acc, loops := [] : Heap } (AV.ref [AV.str y]) = some (AV.str y) from rfl) <| .effY (show Does cfg (AOp.call (Opd.c (AV.func (80 : FuncId) [])) [Opd.c (AV.str y), Opd.c (AV.int IntKind.u8 (58 : Int))]) { boxes := bs, toks := tkR encL acc, loops := [] : Heap } (AV.sl SK.sh [AV.str y]) { boxes := bs, toks := tkR encL acc, loops := [] : Heap } from hs' _) <| .idx (show idxA (1 : Nat) (AV.sl SK.sh (List.map AV.str ps)) (AV.int IntKind.i64 (↑i : Int)) = some (AV.ref (AV.str y).cells) from idx_row hd (by rfl)) <| .load (show loadA false (1 : Nat) { boxes := bs, toks := tkR encL acc, loops := [] : Heap } (AV.ref [AV.str y]) = some (AV.str y) from rfl) <| .yes (show (y == []) = true from (by simpa using hy)) <| .tt <| .tt <| .fin ((ARes.ret (AV.tuple [AV.sl SK.full [], AV.int IntKind.i64 (2 : Int)]), { boxes := bs, toks := tkR encL acc, loops := [] : Heap })) (by exact out_bad _ _)) (by kernel_rfl)
      · by_cases h42 : y = [42]
        · have hx : partL y = some ⟨[], [], true⟩ := by simp only [partL, hc, if_neg hy, if_pos h42]
          rw [step _ hy hx]
          have hap := happ ⟨[], [], true⟩
          have ih' := fun bs => ih (i + 1) (acc ++ [⟨[], [], true⟩]) bs hnx (by simp [ha])
          exact goG 60 _  hT  (.len (show lenA false (AV.sl SK.sh (List.map AV.str ps)) = some (AV.int IntKind.i64 (↑ps.length : Int)) from len_map _) <| .yes (show (decide ((↑i : Int) < (↑ps.length : Int))) = true from decide_eq_true (show (↑i : Int) < (↑ps.length : Int) from (by omega))) <| .idx (show idxA (1 : Nat) (AV.sl SK.sh (List.map AV.str ps)) (AV.int IntKind.i64 (↑i : Int)) = some (AV.ref (AV.str y).cells) from idx_row hd (by rfl)) <| .load (show loadA false (1 : Nat) { boxes := bs, toks := tkR encL acc, loops := [] : Heap } (AV.ref [AV.str y]) = some (AV.str y) from rfl) <| .effY (show Does cfg (AOp.call (Opd.c (AV.func (80 : FuncId) [])) [Opd.c (AV.str y), Opd.c (AV.int IntKind.u8 (58 : Int))]) { boxes := bs, toks := tkR encL acc, loops := [] : Heap } (AV.sl SK.sh [AV.str y]) { boxes := bs, toks := tkR encL acc, loops := [] : Heap } from hs' _) <| .idx (show idxA (1 : Nat) (AV.sl SK.sh (List.map AV.str ps)) (AV.int IntKind.i64 (↑i : Int)) = some (AV.ref (AV.str y).cells) from idx_row hd (by rfl)) <| .load (show loadA false (1 : Nat) { boxes := bs, toks := tkR encL acc, loops := [] : Heap } (AV.ref [AV.str y]) = some (AV.str y) from rfl) <| .no (show (y == []) = false from Bool.eq_false_iff.2 (show ¬ ((y == []) = true) from (by simpa using hy))) <| .len (show lenA false (AV.sl SK.sh [AV.str y]) = some (AV.int IntKind.i64 (↑[AV.str y].length : Int)) from len_sl _ _) <| .ff <| .idx (show idxA (1 : Nat) (AV.sl SK.sh [AV.str y]) (AV.int IntKind.i64 (0 : Int)) = some (AV.ref [AV.str y]) from rfl) <| .load (show loadA false (1 : Nat) { boxes := bs, toks := tkR encL acc, loops := [] : Heap } (AV.ref [AV.str y]) = some (AV.str y) from rfl) <| .no (show (y == []) = false from Bool.eq_false_iff.2 (show ¬ ((y == []) = true) from (by simpa using hy))) <| .idx (show idxA (1 : Nat) (AV.sl SK.sh [AV.str y]) (AV.int IntKind.i64 (0 : Int)) = some (AV.ref [AV.str y]) from rfl) <| .load (show loadA false (1 : Nat) { boxes := bs, toks := tkR encL acc, loops := [] : Heap } (AV.ref [AV.str y]) = some (AV.str y) from rfl) <| .len (show lenA false (AV.sl SK.sh [AV.str y]) = some (AV.int IntKind.i64 (↑[AV.str y].length : Int)) from len_sl _ _) <| .store (show storeA (3 : Nat) { boxes := bs ++ [[AV.str [], AV.str [], AV.bool false]], toks := tkR encL acc, loops := [] : Heap } (AV.ptr bs.length (0 : Nat)) (AV.agg [AV.str y, AV.str [], AV.bool ((↑[AV.str y].length : Int) == (1 : Int))]) = some ({ boxes := bs ++ [[AV.str y, AV.str [], AV.bool true]], toks := tkR encL acc, loops := [] : Heap }) from store_box2 (cs := [AV.str [], AV.str [], AV.bool false]) (cs' := [AV.str y, AV.str [], AV.bool ((↑[AV.str y].length : Int) == (1 : Int))]) (by simp) rfl (by simp [List.set_append])) <| .load (show loadA false (1 : Nat) { boxes := bs ++ [[AV.str y, AV.str [], AV.bool true]], toks := tkR encL acc, loops := [] : Heap } (AV.ptr bs.length (0 : Nat)) = some (AV.str y) from load_box (cs := [AV.str y, AV.str [], AV.bool true]) (by simp) rfl) <| .yes (show (y == [(42 : UInt8)]) = true from (by simpa using h42)) <| .store (show storeA (1 : Nat) { boxes := bs ++ [[AV.str y, AV.str [], AV.bool true]], toks := tkR encL acc, loops := [] : Heap } (AV.ptr bs.length (0 : Nat)) (AV.str []) = some ({ boxes := bs ++ [[AV.str [], AV.str [], AV.bool true]], toks := tkR encL acc, loops := [] : Heap }) from store_box2 (cs := [AV.str y, AV.str [], AV.bool true]) (cs' := [AV.str [], AV.str [], AV.bool true]) (by simp) rfl (by simp [List.set_append])) <| .len (show lenA false (AV.sl SK.sh [AV.str y]) = some (AV.int IntKind.i64 (↑[AV.str y].length : Int)) from len_sl _ _) <| .ff <| .load (show loadA true (3 : Nat) { boxes := bs ++ [[AV.str [], AV.str [], AV.bool true]], toks := tkR encL acc, loops := [] : Heap } (AV.ptr bs.length (0 : Nat)) = some (AV.agg [AV.str [], AV.str [], AV.bool true]) from load_box (cs := [AV.str [], AV.str [], AV.bool true]) (by simp) rfl) <| .append (show appendA (3 : Nat) (40 : Nat) { boxes := bs ++ [[AV.str [], AV.str [], AV.bool true]], toks := tkR encL acc, loops := [] : Heap } (AV.sl (skF acc) (List.map encL acc)) (AV.sl SK.full [AV.agg [AV.str [], AV.str [], AV.bool true]]) = some ((rowF encL (acc ++ [{ key := [], val := [], any := true : Tol }]), { boxes := bs ++ [[AV.str [], AV.str [], AV.bool true]], toks := tkR encL (acc ++ [{ key := [], val := [], any := true : Tol }]), loops := [] : Heap })) from hap _) <| .bin (show binA BinOp.add (AV.int IntKind.i64 (↑i : Int)) (AV.int IntKind.i64 (1 : Int)) = some (AV.int IntKind.i64 (↑(i + (1 : Nat)) : Int)) from inc_i (by omega)) <| .cutQ k37_0 [(4, AV.sl SK.sh (List.map AV.str ps)), (5, AV.sl (skF (acc ++ [{ key := [], val := [], any := true : Tol }])) (List.map encL (acc ++ [{ key := [], val := [], any := true : Tol }]))), (6, AV.int IntKind.i64 (↑(i + (1 : Nat)) : Int))] ({ boxes := bs ++ [[AV.str [], AV.str [], AV.bool true]], toks := tkR encL (acc ++ [{ key := [], val := [], any := true : Tol }]), loops := [] : Heap }) (fun T hT => (ih' (bs ++ [[AV.str [], AV.str [], AV.bool true]]) T hT))) (by kernel_rfl)
        · have hx : partL y = some ⟨y, [], true⟩ := by simp only [partL, hc, if_neg hy, if_neg h42]
          rw [step _ hy hx]
          have hap := happ ⟨y, [], true⟩
          have ih' := fun bs => ih (i + 1) (acc ++ [⟨y, [], true⟩]) bs hnx (by simp [ha])
          exact goG 60 _  hT  (.len (show lenA false (AV.sl SK.sh (List.map AV.str ps)) = some (AV.int IntKind.i64 (↑ps.length : Int)) from len_map _) <| .yes (show (decide ((↑i : Int) < (↑ps.length : Int))) = true from decide_eq_true (show (↑i : Int) < (↑ps.length : Int) from (by omega))) <| .idx (show idxA (1 : Nat) (AV.sl SK.sh (List.map AV.str ps)) (AV.int IntKind.i64 (↑i : Int)) = some (AV.ref (AV.str y).cells) from idx_row hd (by rfl)) <| .load (show loadA false (1 : Nat) { boxes := bs, toks := tkR encL acc, loops := [] : Heap } (AV.ref [AV.str y]) = some (AV.str y) from rfl) <| .effY (show Does cfg (AOp.call (Opd.c (AV.func (80 : FuncId) [])) [Opd.c (AV.str y), Opd.c (AV.int IntKind.u8 (58 : Int))]) { boxes := bs, toks := tkR encL acc, loops := [] : Heap } (AV.sl SK.sh [AV.str y]) { boxes := bs, toks := tkR encL acc, loops := [] : Heap } from hs' _) <| .idx (show idxA (1 : Nat) (AV.sl SK.sh (List.map AV.str ps)) (AV.int IntKind.i64 (↑i : Int)) = some (AV.ref (AV.str y).cells) from idx_row hd (by rfl)) <| .load (show loadA false (1 : Nat) { boxes := bs, toks := tkR encL acc, loops := [] : Heap } (AV.ref [AV.str y]) = some (AV.str y) from rfl) <| .no (show (y == []) = false from Bool.eq_false_iff.2 (show ¬ ((y == []) = true) from (by simpa using hy))) <| .len (show lenA false (AV.sl SK.sh [AV.str y]) = some (AV.int IntKind.i64 (↑[AV.str y].length : Int)) from len_sl _ _) <| .ff <| .idx (show idxA (1 : Nat) (AV.sl SK.sh [AV.str y]) (AV.int IntKind.i64 (0 : Int)) = some (AV.ref [AV.str y]) from rfl) <| .load (show loadA false (1 : Nat) { boxes := bs, toks := tkR encL acc, loops := [] : Heap } (AV.ref [AV.str y]) = some (AV.str y) from rfl) <| .no (show (y == []) = false from Bool.eq_false_iff.2 (show ¬ ((y == []) = true) from (by simpa using hy))) <| .idx (show idxA (1 : Nat) (AV.sl SK.sh [AV.str y]) (AV.int IntKind.i64 (0 : Int)) = some (AV.ref [AV.str y]) from rfl) <| .load (show loadA false (1 : Nat) { boxes := bs, toks := tkR encL acc, loops := [] : Heap } (AV.ref [AV.str y]) = some (AV.str y) from rfl) <| .len (show lenA false (AV.sl SK.sh [AV.str y]) = some (AV.int IntKind.i64 (↑[AV.str y].length : Int)) from len_sl _ _) <| .store (show storeA (3 : Nat) { boxes := bs ++ [[AV.str [], AV.str [], AV.bool false]], toks := tkR encL acc, loops := [] : Heap } (AV.ptr bs.length (0 : Nat)) (AV.agg [AV.str y, AV.str [], AV.bool ((↑[AV.str y].length : Int) == (1 : Int))]) = some ({ boxes := bs ++ [[AV.str y, AV.str [], AV.bool true]], toks := tkR encL acc, loops := [] : Heap }) from store_box2 (cs := [AV.str [], AV.str [], AV.bool false]) (cs' := [AV.str y, AV.str [], AV.bool ((↑[AV.str y].length : Int) == (1 : Int))]) (by simp) rfl (by simp [List.set_append])) <| .load (show loadA false (1 : Nat) { boxes := bs ++ [[AV.str y, AV.str [], AV.bool true]], toks := tkR encL acc, loops := [] : Heap } (AV.ptr bs.length (0 : Nat)) = some (AV.str y) from load_box (cs := [AV.str y, AV.str [], AV.bool true]) (by simp) rfl) <| .no (show (y == [(42 : UInt8)]) = false from Bool.eq_false_iff.2 (show ¬ ((y == [(42 : UInt8)]) = true) from (by simpa using h42))) <| .len (show lenA false (AV.sl SK.sh [AV.str y]) = some (AV.int IntKind.i64 (↑[AV.str y].length : Int)) from len_sl _ _) <| .ff <| .load (show loadA true (3 : Nat) { boxes := bs ++ [[AV.str y, AV.str [], AV.bool true]], toks := tkR encL acc, loops := [] : Heap } (AV.ptr bs.length (0 : Nat)) = some (AV.agg [AV.str y, AV.str [], AV.bool true]) from load_box (cs := [AV.str y, AV.str [], AV.bool true]) (by simp) rfl) <| .append (show appendA (3 : Nat) (40 : Nat) { boxes := bs ++ [[AV.str y, AV.str [], AV.bool true]], toks := tkR encL acc, loops := [] : Heap } (AV.sl (skF acc) (List.map encL acc)) (AV.sl SK.full [AV.agg [AV.str y, AV.str [], AV.bool true]]) = some ((rowF encL (acc ++ [{ key := y, val := [], any := true : Tol }]), { boxes := bs ++ [[AV.str y, AV.str [], AV.bool true]], toks := tkR encL (acc ++ [{ key := y, val := [], any := true : Tol }]), loops := [] : Heap })) from hap _) <| .bin (show binA BinOp.add (AV.int IntKind.i64 (↑i : Int)) (AV.int IntKind.i64 (1 : Int)) = some (AV.int IntKind.i64 (↑(i + (1 : Nat)) : Int)) from inc_i (by omega)) <| .cutQ k37_0 [(4, AV.sl SK.sh (List.map AV.str ps)), (5, AV.sl (skF (acc ++ [{ key := y, val := [], any := true : Tol }])) (List.map encL (acc ++ [{ key := y, val := [], any := true : Tol }]))), (6, AV.int IntKind.i64 (↑(i + (1 : Nat)) : Int))] ({ boxes := bs ++ [[AV.str y, AV.str [], AV.bool true]], toks := tkR encL (acc ++ [{ key := y, val := [], any := true : Tol }]), loops := [] : Heap }) (fun T hT => (ih' (bs ++ [[AV.str y, AV.str [], AV.bool true]]) T hT))) (by kernel_rfl)
    | some p =>
      obtain ⟨a, b⟩ := p
      obtain ⟨rfl, hna⟩ := cutAt_some hc
      have hy : a ++ 58 :: b ≠ [] := by simp
      by_cases hb : 58 ∈ b
      · obtain ⟨x, z, r, hp⟩ := parts_three hna hb
        have hs' : ∀ H, Does cfg (.call (.c (.func 80 [])) [.c (.str (a ++ 58 :: b)), .c (.int .u8 58)]) H (.sl .sh (.str a :: .str x :: .str z :: r.map AV.str)) H := split_does 58 hyl hp
        rw [bad (.inr (by simp only [partL, hc]; rw [if_pos (.inr hb)]))]
        exact goG 60 _  hT  (.len (show lenA false (AV.sl SK.sh (List.map AV.str ps)) = some (AV.int IntKind.i64 (↑ps.length : Int)) from len_map _) <| .yes (show (decide ((↑i : Int) < (↑ps.length : Int))) = true from decide_eq_true (show (↑i : Int) < (↑ps.length : Int) from (by simp; omega))) <| .idx (show idxA (1 : Nat) (AV.sl SK.sh (List.map AV.str ps)) (AV.int IntKind.i64 (↑i : Int)) = some (AV.ref (AV.str (a ++ (58 : UInt8) :: b)).cells) from idx_row hd (by rfl)) <| .load (show loadA false (1 : Nat) { boxes := bs, toks := tkR encL acc, loops := [] : Heap } (AV.ref [AV.str (a ++ (58 : UInt8) :: b)]) = some (AV.str (a ++ (58 : UInt8) :: b)) from rfl) <| .effY (show Does cfg (AOp.call (Opd.c (AV.func (80 : FuncId) [])) [Opd.c (AV.str (a ++ (58 : UInt8) :: b)), Opd.c (AV.int IntKind.u8 (58 : Int))]) { boxes := bs, toks := tkR encL acc, loops := [] : Heap } (AV.sl SK.sh (AV.str a :: AV.str x :: AV.str z :: List.map AV.str r)) { boxes := bs, toks := tkR encL acc, loops := [] : Heap } from hs' _) <| .idx (show idxA (1 : Nat) (AV.sl SK.sh (List.map AV.str ps)) (AV.int IntKind.i64 (↑i : Int)) = some (AV.ref (AV.str (a ++ (58 : UInt8) :: b)).cells) from idx_row hd (by rfl)) <| .load (show loadA false (1 : Nat) { boxes := bs, toks := tkR encL acc, loops := [] : Heap } (AV.ref [AV.str (a ++ (58 : UInt8) :: b)]) = some (AV.str (a ++ (58 : UInt8) :: b)) from rfl) <| .no (show (a ++ (58 : UInt8) :: b == []) = false from Bool.eq_false_iff.2 (show ¬ ((a ++ (58 : UInt8) :: b == []) = true) from (by simp))) <| .len (show lenA false (AV.sl SK.sh (AV.str a :: AV.str x :: AV.str z :: List.map AV.str r)) = some (AV.int IntKind.i64 (↑(AV.str a :: AV.str x :: AV.str z :: List.map AV.str r).length : Int)) from len_sl _ _) <| .yes (show (decide ((2 : Int) < (↑(AV.str a :: AV.str x :: AV.str z :: List.map AV.str r).length : Int))) = true from decide_eq_true (show (2 : Int) < (↑(AV.str a :: AV.str x :: AV.str z :: List.map AV.str r).length : Int) from (by simp; omega))) <| .tt <| .fin ((ARes.ret (AV.tuple [AV.sl SK.full [], AV.int IntKind.i64 (2 : Int)]), { boxes := bs, toks := tkR encL acc, loops := [] : Heap })) (by exact out_bad _ _)) (by kernel_rfl)
      · have hs' : ∀ H, Does cfg (.call (.c (.func 80 [])) [.c (.str (a ++ 58 :: b)), .c (.int .u8 58)]) H (.sl .sh [.str a, .str b]) H := split_does 58 hyl (parts_two hna hb)
        by_cases h0 : a = []
        · rw [bad (.inr (by simp only [partL, hc]; rw [if_pos (.inl h0)]))]
          exact goG 60 _  hT  (.len (show lenA false (AV.sl SK.sh (List.map AV.str ps)) = some (AV.int IntKind.i64 (↑ps.length : Int)) from len_map _) <| .yes (show (decide ((↑i : Int) < (↑ps.length : Int))) = true from decide_eq_true (show (↑i : Int) < (↑ps.length : Int) from (by omega))) <| .idx (show idxA (1 : Nat) (AV.sl SK.sh (List.map AV.str ps)) (AV.int IntKind.i64 (↑i : Int)) = some (AV.ref (AV.str (a ++ (58 : UInt8) :: b)).cells) from idx_row hd (by rfl)) <| .load (show loadA false (1 : Nat) { boxes := bs, toks := tkR encL acc, loops := [] : Heap } (AV.ref [AV.str (a ++ (58 : UInt8) :: b)]) = some (AV.str (a ++ (58 : UInt8) :: b)) from rfl) <| .effY (show Does cfg (AOp.call (Opd.c (AV.func (80 : FuncId) [])) [Opd.c (AV.str (a ++ (58 : UInt8) :: b)), Opd.c (AV.int IntKind.u8 (58 : Int))]) { boxes := bs, toks := tkR encL acc, loops := [] : Heap } (AV.sl SK.sh [AV.str a, AV.str b]) { boxes := bs, toks := tkR encL acc, loops := [] : Heap } from hs' _) <| .idx (show idxA (1 : Nat) (AV.sl SK.sh (List.map AV.str ps)) (AV.int IntKind.i64 (↑i : Int)) = some (AV.ref (AV.str (a ++ (58 : UInt8) :: b)).cells) from idx_row hd (by rfl)) <| .load (show loadA false (1 : Nat) { boxes := bs, toks := tkR encL acc, loops := [] : Heap } (AV.ref [AV.str (a ++ (58 : UInt8) :: b)]) = some (AV.str (a ++ (58 : UInt8) :: b)) from rfl) <| .no (show (a ++ (58 : UInt8) :: b == []) = false from Bool.eq_false_iff.2 (show ¬ ((a ++ (58 : UInt8) :: b == []) = true) from (by simp))) <| .len (show lenA false (AV.sl SK.sh [AV.str a, AV.str b]) = some (AV.int IntKind.i64 (↑[AV.str a, AV.str b].length : Int)) from len_sl _ _) <| .ff <| .idx (show idxA (1 : Nat) (AV.sl SK.sh [AV.str a, AV.str b]) (AV.int IntKind.i64 (0 : Int)) = some (AV.ref [AV.str a]) from rfl) <| .load (show loadA false (1 : Nat) { boxes := bs, toks := tkR encL acc, loops := [] : Heap } (AV.ref [AV.str a]) = some (AV.str a) from rfl) <| .yes (show (a == []) = true from (by simpa using h0)) <| .fin ((ARes.ret (AV.tuple [AV.sl SK.full [], AV.int IntKind.i64 (2 : Int)]), { boxes := bs, toks := tkR encL acc, loops := [] : Heap })) (by exact out_bad _ _)) (by kernel_rfl)
        · by_cases h42 : a = [42]
          · have hx : partL (a ++ 58 :: b) = some ⟨[], b, false⟩ := by simp only [partL, hc]; rw [if_neg (not_or.2 ⟨h0, hb⟩), if_pos h42]
            rw [step _ hy hx]
            have hap := happ ⟨[], b, false⟩
            have ih' := fun bs => ih (i + 1) (acc ++ [⟨[], b, false⟩]) bs hnx (by simp [ha])
            exact goG 60 _  hT  (.len (show lenA false (AV.sl SK.sh (List.map AV.str ps)) = some (AV.int IntKind.i64 (↑ps.length : Int)) from len_map _) <| .yes (show (decide ((↑i : Int) < (↑ps.length : Int))) = true from decide_eq_true (show (↑i : Int) < (↑ps.length : Int) from (by omega))) <| .idx (show idxA (1 : Nat) (AV.sl SK.sh (List.map AV.str ps)) (AV.int IntKind.i64 (↑i : Int)) = some (AV.ref (AV.str (a ++ (58 : UInt8) :: b)).cells) from idx_row hd (by rfl)) <| .load (show loadA false (1 : Nat) { boxes := bs, toks := tkR encL acc, loops := [] : Heap } (AV.ref [AV.str (a ++ (58 : UInt8) :: b)]) = some (AV.str (a ++ (58 : UInt8) :: b)) from rfl) <| .effY (show Does cfg (AOp.call (Opd.c (AV.func (80 : FuncId) [])) [Opd.c (AV.str (a ++ (58 : UInt8) :: b)), Opd.c (AV.int IntKind.u8 (58 : Int))]) { boxes := bs, toks := tkR encL acc, loops := [] : Heap } (AV.sl SK.sh [AV.str a, AV.str b]) { boxes := bs, toks := tkR encL acc, loops := [] : Heap } from hs' _) <| .idx (show idxA (1 : Nat) (AV.sl SK.sh (List.map AV.str ps)) (AV.int IntKind.i64 (↑i : Int)) = some (AV.ref (AV.str (a ++ (58 : UInt8) :: b)).cells) from idx_row hd (by rfl)) <| .load (show loadA false (1 : Nat) { boxes := bs, toks := tkR encL acc, loops := [] : Heap } (AV.ref [AV.str (a ++ (58 : UInt8) :: b)]) = some (AV.str (a ++ (58 : UInt8) :: b)) from rfl) <| .no (show (a ++ (58 : UInt8) :: b == []) = false from Bool.eq_false_iff.2 (show ¬ ((a ++ (58 : UInt8) :: b == []) = true) from (by simp))) <| .len (show lenA false (AV.sl SK.sh [AV.str a, AV.str b]) = some (AV.int IntKind.i64 (↑[AV.str a, AV.str b].length : Int)) from len_sl _ _) <| .ff <| .idx (show idxA (1 : Nat) (AV.sl SK.sh [AV.str a, AV.str b]) (AV.int IntKind.i64 (0 : Int)) = some (AV.ref [AV.str a]) from rfl) <| .load (show loadA false (1 : Nat) { boxes := bs, toks := tkR encL acc, loops := [] : Heap } (AV.ref [AV.str a]) = some (AV.str a) from rfl) <| .no (show (a == []) = false from Bool.eq_false_iff.2 (show ¬ ((a == []) = true) from (by simpa using h0))) <| .idx (show idxA (1 : Nat) (AV.sl SK.sh [AV.str a, AV.str b]) (AV.int IntKind.i64 (0 : Int)) = some (AV.ref [AV.str a]) from rfl) <| .load (show loadA false (1 : Nat) { boxes := bs, toks := tkR encL acc, loops := [] : Heap } (AV.ref [AV.str a]) = some (AV.str a) from rfl) <| .len (show lenA false (AV.sl SK.sh [AV.str a, AV.str b]) = some (AV.int IntKind.i64 (↑[AV.str a, AV.str b].length : Int)) from len_sl _ _) <| .store (show storeA (3 : Nat) { boxes := bs ++ [[AV.str [], AV.str [], AV.bool false]], toks := tkR encL acc, loops := [] : Heap } (AV.ptr bs.length (0 : Nat)) (AV.agg [AV.str a, AV.str [], AV.bool ((↑[AV.str a, AV.str b].length : Int) == (1 : Int))]) = some ({ boxes := bs ++ [[AV.str a, AV.str [], AV.bool false]], toks := tkR encL acc, loops := [] : Heap }) from store_box2 (cs := [AV.str [], AV.str [], AV.bool false]) (cs' := [AV.str a, AV.str [], AV.bool ((↑[AV.str a, AV.str b].length : Int) == (1 : Int))]) (by simp) rfl (by simp [List.set_append])) <| .load (show loadA false (1 : Nat) { boxes := bs ++ [[AV.str a, AV.str [], AV.bool false]], toks := tkR encL acc, loops := [] : Heap } (AV.ptr bs.length (0 : Nat)) = some (AV.str a) from load_box (cs := [AV.str a, AV.str [], AV.bool false]) (by simp) rfl) <| .yes (show (a == [(42 : UInt8)]) = true from (by simpa using h42)) <| .store (show storeA (1 : Nat) { boxes := bs ++ [[AV.str a, AV.str [], AV.bool false]], toks := tkR encL acc, loops := [] : Heap } (AV.ptr bs.length (0 : Nat)) (AV.str []) = some ({ boxes := bs ++ [[AV.str [], AV.str [], AV.bool false]], toks := tkR encL acc, loops := [] : Heap }) from store_box2 (cs := [AV.str a, AV.str [], AV.bool false]) (cs' := [AV.str [], AV.str [], AV.bool false]) (by simp) rfl (by simp [List.set_append])) <| .len (show lenA false (AV.sl SK.sh [AV.str a, AV.str b]) = some (AV.int IntKind.i64 (↑[AV.str a, AV.str b].length : Int)) from len_sl _ _) <| .tt <| .idx (show idxA (1 : Nat) (AV.sl SK.sh [AV.str a, AV.str b]) (AV.int IntKind.i64 (1 : Int)) = some (AV.ref [AV.str b]) from rfl) <| .load (show loadA false (1 : Nat) { boxes := bs ++ [[AV.str [], AV.str [], AV.bool false]], toks := tkR encL acc, loops := [] : Heap } (AV.ref [AV.str b]) = some (AV.str b) from rfl) <| .store (show storeA (1 : Nat) { boxes := bs ++ [[AV.str [], AV.str [], AV.bool false]], toks := tkR encL acc, loops := [] : Heap } (AV.ptr bs.length (1 : Nat)) (AV.str b) = some ({ boxes := bs ++ [[AV.str [], AV.str b, AV.bool false]], toks := tkR encL acc, loops := [] : Heap }) from store_box2 (cs := [AV.str [], AV.str [], AV.bool false]) (cs' := [AV.str [], AV.str b, AV.bool false]) (by simp) rfl (by simp [List.set_append])) <| .load (show loadA true (3 : Nat) { boxes := bs ++ [[AV.str [], AV.str b, AV.bool false]], toks := tkR encL acc, loops := [] : Heap } (AV.ptr bs.length (0 : Nat)) = some (AV.agg [AV.str [], AV.str b, AV.bool false]) from load_box (cs := [AV.str [], AV.str b, AV.bool false]) (by simp) rfl) <| .append (show appendA (3 : Nat) (40 : Nat) { boxes := bs ++ [[AV.str [], AV.str b, AV.bool false]], toks := tkR encL acc, loops := [] : Heap } (AV.sl (skF acc) (List.map encL acc)) (AV.sl SK.full [AV.agg [AV.str [], AV.str b, AV.bool false]]) = some ((rowF encL (acc ++ [{ key := [], val := b, any := false : Tol }]), { boxes := bs ++ [[AV.str [], AV.str b, AV.bool false]], toks := tkR encL (acc ++ [{ key := [], val := b, any := false : Tol }]), loops := [] : Heap })) from hap _) <| .bin (show binA BinOp.add (AV.int IntKind.i64 (↑i : Int)) (AV.int IntKind.i64 (1 : Int)) = some (AV.int IntKind.i64 (↑(i + (1 : Nat)) : Int)) from inc_i (by omega)) <| .cutQ k37_0 [(4, AV.sl SK.sh (List.map AV.str ps)), (5, AV.sl (skF (acc ++ [{ key := [], val := b, any := false : Tol }])) (List.map encL (acc ++ [{ key := [], val := b, any := false : Tol }]))), (6, AV.int IntKind.i64 (↑(i + (1 : Nat)) : Int))] ({ boxes := bs ++ [[AV.str [], AV.str b, AV.bool false]], toks := tkR encL (acc ++ [{ key := [], val := b, any := false : Tol }]), loops := [] : Heap }) (fun T hT => (ih' (bs ++ [[AV.str [], AV.str b, AV.bool false]]) T hT))) (by kernel_rfl)
          · have hx : partL (a ++ 58 :: b) = some ⟨a, b, false⟩ := by simp only [partL, hc]; rw [if_neg (not_or.2 ⟨h0, hb⟩), if_neg h42]
            rw [step _ hy hx]
            have hap := happ ⟨a, b, false⟩
            have ih' := fun bs => ih (i + 1) (acc ++ [⟨a, b, false⟩]) bs hnx (by simp [ha])
            exact goG 60 _  hT  (.len (show lenA false (AV.sl SK.sh (List.map AV.str ps)) = some (AV.int IntKind.i64 (↑ps.length : Int)) from len_map _) <| .yes (show (decide ((↑i : Int) < (↑ps.length : Int))) = true from decide_eq_true (show (↑i : Int) < (↑ps.length : Int) from (by omega))) <| .idx (show idxA (1 : Nat) (AV.sl SK.sh (List.map AV.str ps)) (AV.int IntKind.i64 (↑i : Int)) = some (AV.ref (AV.str (a ++ (58 : UInt8) :: b)).cells) from idx_row hd (by rfl)) <| .load (show loadA false (1 : Nat) { boxes := bs, toks := tkR encL acc, loops := [] : Heap } (AV.ref [AV.str (a ++ (58 : UInt8) :: b)]) = some (AV.str (a ++ (58 : UInt8) :: b)) from rfl) <| .effY (show Does cfg (AOp.call (Opd.c (AV.func (80 : FuncId) [])) [Opd.c (AV.str (a ++ (58 : UInt8) :: b)), Opd.c (AV.int IntKind.u8 (58 : Int))]) { boxes := bs, toks := tkR encL acc, loops := [] : Heap } (AV.sl SK.sh [AV.str a, AV.str b]) { boxes := bs, toks := tkR encL acc, loops := [] : Heap } from hs' _) <| .idx (show idxA (1 : Nat) (AV.sl SK.sh (List.map AV.str ps)) (AV.int IntKind.i64 (↑i : Int)) = some (AV.ref (AV.str (a ++ (58 : UInt8) :: b)).cells) from idx_row hd (by rfl)) <| .load (show loadA false (1 : Nat) { boxes := bs, toks := tkR encL acc, loops := [] : Heap } (AV.ref [AV.str (a ++ (58 : UInt8) :: b)]) = some (AV.str (a ++ (58 : UInt8) :: b)) from rfl) <| .no (show (a ++ (58 : UInt8) :: b == []) = false from Bool.eq_false_iff.2 (show ¬ ((a ++ (58 : UInt8) :: b == []) = true) from (by simp))) <| .len (show lenA false (AV.sl SK.sh [AV.str a, AV.str b]) = some (AV.int IntKind.i64 (↑[AV.str a, AV.str b].length : Int)) from len_sl _ _) <| .ff <| .idx (show idxA (1 : Nat) (AV.sl SK.sh [AV.str a, AV.str b]) (AV.int IntKind.i64 (0 : Int)) = some (AV.ref [AV.str a]) from rfl) <| .load (show loadA false (1 : Nat) { boxes := bs, toks := tkR encL acc, loops := [] : Heap } (AV.ref [AV.str a]) = some (AV.str a) from rfl) <| .no (show (a == []) = false from Bool.eq_false_iff.2 (show ¬ ((a == []) = true) from (by simpa using h0))) <| .idx (show idxA (1 : Nat) (AV.sl SK.sh [AV.str a, AV.str b]) (AV.int IntKind.i64 (0 : Int)) = some (AV.ref [AV.str a]) from rfl) <| .load (show loadA false (1 : Nat) { boxes := bs, toks := tkR encL acc, loops := [] : Heap } (AV.ref [AV.str a]) = some (AV.str a) from rfl) <| .len (show lenA false (AV.sl SK.sh [AV.str a, AV.str b]) = some (AV.int IntKind.i64 (↑[AV.str a, AV.str b].length : Int)) from len_sl _ _) <| .store (show storeA (3 : Nat) { boxes := bs ++ [[AV.str [], AV.str [], AV.bool false]], toks := tkR encL acc, loops := [] : Heap } (AV.ptr bs.length (0 : Nat)) (AV.agg [AV.str a, AV.str [], AV.bool ((↑[AV.str a, AV.str b].length : Int) == (1 : Int))]) = some ({ boxes := bs ++ [[AV.str a, AV.str [], AV.bool false]], toks := tkR encL acc, loops := [] : Heap }) from store_box2 (cs := [AV.str [], AV.str [], AV.bool false]) (cs' := [AV.str a, AV.str [], AV.bool ((↑[AV.str a, AV.str b].length : Int) == (1 : Int))]) (by simp) rfl (by simp [List.set_append])) <| .load (show loadA false (1 : Nat) { boxes := bs ++ [[AV.str a, AV.str [], AV.bool false]], toks := tkR encL acc, loops := [] : Heap } (AV.ptr bs.length (0 : Nat)) = some (AV.str a) from load_box (cs := [AV.str a, AV.str [], AV.bool false]) (by simp) rfl) <| .no (show (a == [(42 : UInt8)]) = false from Bool.eq_false_iff.2 (show ¬ ((a == [(42 : UInt8)]) = true) from (by simpa using h42))) <| .len (show lenA false (AV.sl SK.sh [AV.str a, AV.str b]) = some (AV.int IntKind.i64 (↑[AV.str a, AV.str b].length : Int)) from len_sl _ _) <| .tt <| .idx (show idxA (1 : Nat) (AV.sl SK.sh [AV.str a, AV.str b]) (AV.int IntKind.i64 (1 : Int)) = some (AV.ref [AV.str b]) from rfl) <| .load (show loadA false (1 : Nat) { boxes := bs ++ [[AV.str a, AV.str [], AV.bool false]], toks := tkR encL acc, loops := [] : Heap } (AV.ref [AV.str b]) = some (AV.str b) from rfl) <| .store (show storeA (1 : Nat) { boxes := bs ++ [[AV.str a, AV.str [], AV.bool false]], toks := tkR encL acc, loops := [] : Heap } (AV.ptr bs.length (1 : Nat)) (AV.str b) = some ({ boxes := bs ++ [[AV.str a, AV.str b, AV.bool false]], toks := tkR encL acc, loops := [] : Heap }) from store_box2 (cs := [AV.str a, AV.str [], AV.bool false]) (cs' := [AV.str a, AV.str b, AV.bool false]) (by simp) rfl (by simp [List.set_append])) <| .load (show loadA true (3 : Nat) { boxes := bs ++ [[AV.str a, AV.str b, AV.bool false]], toks := tkR encL acc, loops := [] : Heap } (AV.ptr bs.length (0 : Nat)) = some (AV.agg [AV.str a, AV.str b, AV.bool false]) from load_box (cs := [AV.str a, AV.str b, AV.bool false]) (by simp) rfl) <| .append (show appendA (3 : Nat) (40 : Nat) { boxes := bs ++ [[AV.str a, AV.str b, AV.bool false]], toks := tkR encL acc, loops := [] : Heap } (AV.sl (skF acc) (List.map encL acc)) (AV.sl SK.full [AV.agg [AV.str a, AV.str b, AV.bool false]]) = some ((rowF encL (acc ++ [{ key := a, val := b, any := false : Tol }]), { boxes := bs ++ [[AV.str a, AV.str b, AV.bool false]], toks := tkR encL (acc ++ [{ key := a, val := b, any := false : Tol }]), loops := [] : Heap })) from hap _) <| .bin (show binA BinOp.add (AV.int IntKind.i64 (↑i : Int)) (AV.int IntKind.i64 (1 : Int)) = some (AV.int IntKind.i64 (↑(i + (1 : Nat)) : Int)) from inc_i (by omega)) <| .cutQ k37_0 [(4, AV.sl SK.sh (List.map AV.str ps)), (5, AV.sl (skF (acc ++ [{ key := a, val := b, any := false : Tol }])) (List.map encL (acc ++ [{ key := a, val := b, any := false : Tol }]))), (6, AV.int IntKind.i64 (↑(i + (1 : Nat)) : Int))] ({ boxes := bs ++ [[AV.str a, AV.str b, AV.bool false]], toks := tkR encL (acc ++ [{ key := a, val := b, any := false : Tol }]), loops := [] : Heap }) (fun T hT => (ih' (bs ++ [[AV.str a, AV.str b, AV.bool false]]) T hT))) (by kernel_rfl)
theorem ref_parsed {X : Type} (enc : X → AV) (ck : List X → Int) (pf : List UInt8 → Option X) (s : List UInt8) (h45 : ¬ s = [45]) :
    refV enc ck (foldE (collect pf) [] (parts 44 s)) = .tuple [.sl .sh ((parsed pf ck s).1.map enc), .int .i64 (parsed pf ck s).2] := by
  unfold parsed
  rw [if_neg h45]
  cases foldE (collect pf) [] (parts 44 s) with
  | none => rfl
  | some l => simp only [refV]; split <;> rfl
theorem readL_ref (s : List UInt8) (hl : s.length ≤ 1000) (H : Heap) : Does cfg (.call (.c (.func 37 [])) [.c (.str s)]) H (.tuple [.sl .sh ((parsed partL ckL s).1.map encL), .int .i64 (parsed partL ckL s).2]) H := by
  refine does_callF (cfg := cfg) (g := 37) (xs := [.str s]) ?_ rfl rfl H
  refine GivesF.run (l37 _ _) ?_
  by_cases h45 : s = [45]
  · subst h45
    exact goG 60 []  trivial  (.tt <| .fin ((ARes.ret (AV.tuple [AV.sl SK.full [], AV.int IntKind.i64 (0 : Int)]), { boxes := [], toks := [], loops := [] : Heap })) (by exact out_bad _ _)) (by kernel_rfl)
  · obtain ⟨h1, h2⟩ := parts_len (c := 44) s
    have hs' : ∀ H, Does cfg (.call (.c (.func 80 [])) [.c (.str s), .c (.int .u8 44)]) H (.sl .sh ((parts 44 s).map .str)) H := split_does 44 hl rfl
    have h := readL_loop (parts 44 s) (by omega) (fun p hp => Nat.le_trans (h2 p hp) hl) _ 0 [] [] rfl rfl
    rw [List.drop_zero, ref_parsed encL ckL partL s h45] at h
    exact goG 60 []  trivial  (.no (show (s == [(45 : UInt8)]) = false from Bool.eq_false_iff.2 (show ¬ ((s == [(45 : UInt8)]) = true) from (by simpa using h45))) <| .effY (show Does cfg (AOp.call (Opd.c (AV.func (80 : FuncId) [])) [Opd.c (AV.str s), Opd.c (AV.int IntKind.u8 (44 : Int))]) { boxes := [], toks := [], loops := [] : Heap } (AV.sl SK.sh (List.map AV.str (parts (44 : UInt8) s))) { boxes := [], toks := [], loops := [] : Heap } from hs' _) <| .cutQ k37_0 [(4, AV.sl SK.sh (List.map AV.str (parts (44 : UInt8) s))), (5, AV.sl SK.full []), (6, AV.int IntKind.i64 (0 : Int))] ({ boxes := [], toks := [], loops := [] : Heap }) (fun T hT => (h T hT))) (by kernel_rfl)

end Go.Aa.T

set_option linter.unusedVariables false
set_option linter.unusedSimpArgs false
set_option maxRecDepth 100000
namespace Go.Aa.T
open Go.Aa Go.Proofs
theorem few_names {X : Type} (f : X → List UInt8 × List UInt8) (l : List X) (h : ∀ x ∈ l, (f x).1.length ≤ 12 ∧ (f x).2.length ≤ 12) : few f l = true := by
  induction l with
  | nil => rfl
  | cons x l ih =>
    have h1 := h x (by simp)
    have h2 := ih (fun y hy => h y (by simp [hy]))
    simp only [few, Bool.and_eq_true, decide_eq_true_eq] at h2 ⊢
    grind [few]
theorem ckT_few {l : List Taint} (h : ckT l = 0) : fewT l = true := by
  have hn : l.length ≤ 8 := by unfold ckT at h; split at h <;> first | assumption | cases h
  simp only [fewT, Bool.and_eq_true, decide_eq_true_eq]
  refine ⟨by omega, few_names _ l fun x hx => ?_⟩
  have hg := ckT_good h x hx
  simp only [goodT, Bool.and_eq_true] at hg
  exact ⟨name_len hg.1, name_len hg.2⟩
theorem ckL_few {l : List Tol} (h : ckL l = 0) : fewL l = true := by
  have hn : l.length ≤ 8 := by unfold ckL at h; split at h <;> first | assumption | cases h
  simp only [fewL, Bool.and_eq_true, decide_eq_true_eq]
  refine ⟨by omega, few_names _ l fun x hx => ?_⟩
  have hg := ckL_good h x hx
  simp only [okL, Bool.and_eq_true, Bool.or_eq_true, decide_eq_true_eq] at hg
  refine ⟨?_, ?_⟩
  · rcases hg.1 with e | e
    · rw [e]; simp
    · exact name_len e
  · have := hg.2
    split at this
    · have : x.val = [] := by simpa using this
      rw [this]; simp
    · exact name_len this
theorem parsed_ck {X : Type} (pf : List UInt8 → Option X) (ck : List X → Int) (s : List UInt8) (h0 : ck [] = 0) : ck (parsed pf ck s).1 = 0 := by
  unfold parsed
  split
  · exact h0
  · split
    · exact h0
    · split
      · assumption
      · exact h0
theorem ckT_nil : ckT [] = 0 := rfl
theorem ckL_nil : ckL [] = 0 := rfl
theorem taintWords (s : List UInt8) : Gives cfg 4 [.str s] (.bool true) := by
  refine Gives.run (l4 _ _) ?_
  have hk := known'
  by_cases hlen : 300 < s.length
  · exact goG 60 []  trivial  (.callG ([]) (AV.bool true) (Gives.of (show lim cfg (Key.fn (13 : FuncId)) [] Heap.nil = some (ARes.ret (AV.bool true), Classical.choose known_ret13) from known')) ⟨rfl, rfl⟩ ⟨rfl, rfl⟩ <| .ff <| .len (show lenA true (AV.str s) = some (AV.int IntKind.i64 (↑s.length : Int)) from len_str _) <| .yes (show (decide ((300 : Int) < (↑s.length : Int))) = true from decide_eq_true (show (300 : Int) < (↑s.length : Int) from (by omega))) <| .fin ((ARes.ret (AV.bool true), { boxes := [], toks := [], loops := [] : Heap })) rfl) (by kernel_rfl)
  · have hs : s.length ≤ 1000 := by omega
    have fa := ckT_few (parsed_ck partT ckT s ckT_nil)
    have fb := ckL_few (parsed_ck partL ckL s ckL_nil)
    have na := fewT_len fa
    have nb := fewL_len fb
    have p1 := parseT s hs
    have p2 := parseL s hs
    have q1 := readT_ref s hs
    have q2 := readL_ref s hs
    have t1 : (parsed partT ckT s).2 = 0 → Gives cfg 26 [.sl .sh ((parsed partT ckT s).1.map encT)] (.str s) := fun h => by
      have := tText_any _ fa
      rwa [read_told partT_text s h] at this
    have t2 : (parsed partL ckL s).2 = 0 → Gives cfg 28 [.sl .sh ((parsed partL ckL s).1.map encL)] (.str s) := fun h => by
      have := lText_any _ fb
      rwa [read_told partL_text s h] at this
    generalize parsed partT ckT s = A at *
    generalize parsed partL ckL s = B at *
    obtain ⟨a, e⟩ := A
    obtain ⟨b, f⟩ := B
    simp only at *
    exact goG 120 []  trivial  (.callG ([]) (AV.bool true) (Gives.of (show lim cfg (Key.fn (13 : FuncId)) [] Heap.nil = some (ARes.ret (AV.bool true), Classical.choose known_ret13) from known')) ⟨rfl, rfl⟩ ⟨rfl, rfl⟩ <| .ff <| .len (show lenA true (AV.str s) = some (AV.int IntKind.i64 (↑s.length : Int)) from len_str _) <| .no (show (decide ((300 : Int) < (↑s.length : Int))) = false from decide_eq_false (show ¬ ((300 : Int) < (↑s.length : Int)) from (by omega))) <| .callG ([AV.str s]) (AV.tuple [AV.sl SK.sh (List.map encT a), AV.int IntKind.i64 e]) (show Gives cfg (32 : FuncId) [AV.str s] (AV.tuple [AV.sl SK.sh (List.map encT a), AV.int IntKind.i64 e]) from p1) ⟨rfl, rfl⟩ ⟨rfl, rfl⟩ <| .effY (show Does cfg (AOp.call (Opd.c (AV.func (36 : FuncId) [])) [Opd.c (AV.str s)]) { boxes := [], toks := [], loops := [] : Heap } (AV.tuple [AV.sl SK.sh (List.map encT a), AV.int IntKind.i64 e]) { boxes := [], toks := [], loops := [] : Heap } from q1 _) <| .callG ([AV.str s]) (AV.tuple [AV.sl SK.sh (List.map encL b), AV.int IntKind.i64 f]) (show Gives cfg (33 : FuncId) [AV.str s] (AV.tuple [AV.sl SK.sh (List.map encL b), AV.int IntKind.i64 f]) from p2) ⟨rfl, rfl⟩ ⟨rfl, rfl⟩ <| .effY (show Does cfg (AOp.call (Opd.c (AV.func (37 : FuncId) [])) [Opd.c (AV.str s)]) { boxes := [], toks := [], loops := [] : Heap } (AV.tuple [AV.sl SK.sh (List.map encL b), AV.int IntKind.i64 f]) { boxes := [], toks := [], loops := [] : Heap } from q2 _) <| .no (show (e != e) = false from Bool.eq_false_iff.2 (show ¬ ((e != e) = true) from (by simp_all))) <| .callG ([AV.sl SK.sh (List.map encT a)]) (AV.sl SK.sh (List.map encT a)) (show Gives cfg (16 : FuncId) [AV.sl SK.sh (List.map encT a)] (rowS Heap.nil (List.map encT a)) from ofT_any _ na) ⟨rfl, rfl⟩ Res.p <| .callG ([AV.sl SK.sh (List.map encT a), AV.sl SK.sh (List.map encT a)]) (AV.bool true) (show Gives cfg (34 : FuncId) [AV.sl SK.sh (List.map encT a), AV.sl SK.sh (List.map encT a)] (AV.bool true) from sameT _ (by omega)) ⟨rfl, rfl⟩ ⟨rfl, rfl⟩ <| .ff <| .no (show (f != f) = false from Bool.eq_false_iff.2 (show ¬ ((f != f) = true) from (by simp_all))) <| .callG ([AV.sl SK.sh (List.map encL b)]) (AV.sl SK.sh (List.map encL b)) (show Gives cfg (17 : FuncId) [AV.sl SK.sh (List.map encL b)] (rowS Heap.nil (List.map encL b)) from ofL_any _ nb) ⟨rfl, rfl⟩ Res.p <| .callG ([AV.sl SK.sh (List.map encL b), AV.sl SK.sh (List.map encL b)]) (AV.bool true) (show Gives cfg (35 : FuncId) [AV.sl SK.sh (List.map encL b), AV.sl SK.sh (List.map encL b)] (AV.bool true) from sameL _ (by omega)) ⟨rfl, rfl⟩ ⟨rfl, rfl⟩ <| .ff <| .split ((e != (0 : Int)) = true) (fun h1 => .yes (show (e != (0 : Int)) = true from h1) <| .tt <| .split ((f != (0 : Int)) = true) (fun h2 => .yes (show (f != (0 : Int)) = true from h2) <| .fin ((ARes.ret (AV.bool true), { boxes := [], toks := [], loops := [] : Heap })) rfl) (fun h2 => .no (show (f != (0 : Int)) = false from Bool.eq_false_iff.2 (show ¬ ((f != (0 : Int)) = true) from h2)) <| .callG ([AV.sl SK.sh (List.map encL b)]) (AV.str s) (show Gives cfg (28 : FuncId) [AV.sl SK.sh (List.map encL b)] (AV.str s) from t2 (by simp_all)) ⟨rfl, rfl⟩ ⟨rfl, rfl⟩ <| .fin ((ARes.ret (AV.bool (s == s)), { boxes := [], toks := [], loops := [] : Heap })) (by simp [IsRet]))) (fun h1 => .no (show (e != (0 : Int)) = false from Bool.eq_false_iff.2 (show ¬ ((e != (0 : Int)) = true) from h1)) <| .callG ([AV.sl SK.sh (List.map encT a)]) (AV.str s) (show Gives cfg (26 : FuncId) [AV.sl SK.sh (List.map encT a)] (AV.str s) from t1 (by simp_all)) ⟨rfl, rfl⟩ ⟨rfl, rfl⟩ <| .yes (show (s == s) = true from (by simp_all)) <| .split ((f != (0 : Int)) = true) (fun h2 => .yes (show (f != (0 : Int)) = true from h2) <| .fin ((ARes.ret (AV.bool true), { boxes := [], toks := [], loops := [] : Heap })) rfl) (fun h2 => .no (show (f != (0 : Int)) = false from Bool.eq_false_iff.2 (show ¬ ((f != (0 : Int)) = true) from h2)) <| .callG ([AV.sl SK.sh (List.map encL b)]) (AV.str s) (show Gives cfg (28 : FuncId) [AV.sl SK.sh (List.map encL b)] (AV.str s) from t2 (by simp_all)) ⟨rfl, rfl⟩ ⟨rfl, rfl⟩ <| .fin ((ARes.ret (AV.bool (s == s)), { boxes := [], toks := [], loops := [] : Heap })) (by simp [IsRet])))) (by kernel_rfl)
end Go.Aa.T

set_option linter.unusedVariables false
set_option linter.unusedSimpArgs false
set_option maxRecDepth 100000
namespace Go.Aa.T
open Go.Aa Go.Proofs
theorem law4 (xs : List AV) (h : TyAll Tryd.prog 5 [9] xs) (hz : SzAll Tryd.prog [9] xs) : ∃ H', lim cfg (.fn 4) xs Heap.nil = some (.ret (.bool true), H') := by
  obtain ⟨x, rfl, hx⟩ := tyall_1 h
  obtain ⟨k, rfl, -⟩ := tyv_string Tryd.underlying9 hx
  exact (taintWords k).ret
end Go.Aa.T
