/-
  WHAT THE LAW LEANS ON, part 6 of 6: a machine of values and its soundness; the functions of the law upon it; what they come to.
-/
import Derived.Test.YtmlipdlbeddijaaDoorQde

set_option linter.unusedVariables false
set_option linter.unusedSimpArgs false
set_option maxRecDepth 100000
namespace Go.Aa.T
open Go.Aa Go.Proofs
def stopV (e : Int) : AV := .iface 159 (.agg [.int .i64 e])
theorem stop_ok : Gives cfg 76 [.int .i64 0] (.tuple []) := by
  refine Gives.run (l76 _ _) ?_
  exact goG 60 []  trivial  (.ff <| .fin ((ARes.ret (AV.tuple []), { boxes := [], toks := [], loops := [] : Heap })) rfl) (by kernel_rfl)
theorem stop_pan {e : Int} (h : ¬ e = 0) : Pans cfg 76 [.int .i64 e] (stopV e) := by
  refine Pans.run (l76 _ _) ?_
  exact goG 60 [] trivial (.op (.bin .neq (.c (.int .i64 e)) (.c (.int .i64 0))) (.bool true) (pure_step (fun _ => neqT (k := .i64) h) fun _ _ _ => rfl) <| .tt <| .panicI 159 (.agg [.int .i64 e]) Heap.nil rfl) (by kernel_rfl)
def collect {X : Type} (pf : List UInt8 → Option X) (acc : List X) (p : List UInt8) : Option (List X) := if p = [] then none else (pf p).map fun x => acc ++ [x]
def parsed {X : Type} (pf : List UInt8 → Option X) (ck : List X → Int) (s : List UInt8) : List X × Int :=
  if s = [45] then ([], 0) else match foldE (collect pf) [] (parts 44 s) with
  | none => ([], 2)
  | some l => if ck l = 0 then (l, 0) else ([], ck l)
def skF {X : Type} : List X → SK
  | [] => .full
  | _ :: _ => .own 0
instance {X : Type} (l : List X) (xs : List AV) : Shut (.sl (skF l) xs) (.sl .sh xs) := ⟨by cases l <;> exact ⟨rfl, rfl⟩⟩
section
variable {X : Type} (enc : X → AV)
def tkR (acc : List X) : List Nat := (rowH Heap.nil (acc.map enc)).toks
theorem tk_nil : tkR enc [] = [] := rfl
theorem tk_cons (x : X) (l : List X) : tkR enc (x :: l) = [l.length + 1] := by simp [tkR, rowH, Heap.nil]
def rowF (l : List X) : AV := .sl (skF l) (l.map enc)
instance (l : List X) : Shut (rowF enc l) (.sl .sh (l.map enc)) := ⟨by cases l <;> exact ⟨rfl, rfl⟩⟩
theorem rowF_eq (l : List X) : rowF enc l = rowS Heap.nil (l.map enc) := by cases l <;> rfl
theorem row_append_T {x : X} {es bytes : Nat} {bs : List (List AV)} {ls : List LRec} {ys : List X} (h : ((ys.map enc).length + 1) * bytes ≤ 140737488355328) (hl : lenOk es (ys.map enc) = true) (hv : cellsN es (enc x) = true) (hd : dataOk [enc x] = true) :
    appendA es bytes ⟨bs, tkR enc ys, ls⟩ (rowF enc ys) (.sl .full [enc x]) = some (rowF enc (ys ++ [x]), ⟨bs, tkR enc (ys ++ [x]), ls⟩) := by
  rw [rowF_eq, rowF_eq]
  have hh := row_append_map (f := enc) (x := x) (H := Heap.nil) h hl hv hd
  cases ys with
  | nil =>
    simp only [rowS, rowH, List.map_nil, List.nil_append, List.map_cons, tkR, Heap.nil] at hh ⊢
    simp only [appendA] at hh ⊢
    split at hh
    · rename_i hc; rw [if_pos hc]; rfl
    · cases hh
  | cons y ys =>
    simp only [rowS, rowH, List.cons_append, List.map_cons, tkR, Heap.nil] at hh ⊢
    simp only [appendA] at hh ⊢
    split at hh
    · rename_i hc
      rw [if_pos hc]
      split at hh
      · rename_i hc2
        rw [if_pos hc2]
        simp only [Option.some.injEq, Prod.mk.injEq, Heap.mk.injEq, true_and, and_true] at hh ⊢
        exact hh
      · cases hh
    · cases hh
end

section
variable (s0 : List UInt8)
end

section
variable (s0 : List UInt8)
end

section
variable (s0 : List UInt8)
def oPair0 (_ : List Pair) : List AV := [.str s0]
def oPair1 (_ : List Pair) : List AV := [.func 89 []]
def oPair2 (_ : List Pair) : List AV := [.func 90 []]
def oPair3 (acc : List Pair) : List AV := [rowF encP acc]
theorem trPair (rc : LRec) (h1 : rc.nb = 7) (h2 : rc.nt = 0) (acc : List Pair) (rest : List UInt8) (n : Nat) (hn : n ≤ 1) (h0 : n = 1 → acc ≠ []) (v : AV) (hv : within 7 n v = true) :
    trunc 7 n v ⟨[oPair0 s0 acc, oPair1 acc, oPair2 acc, oPair3 acc, [.str rest], [.str [44]], [.int .i64 0]], tkR encP acc, [rc]⟩ = ⟨[oPair0 s0 acc, oPair1 acc, oPair2 acc, oPair3 acc, [.str rest], [.str [44]], [.int .i64 0]], tkR encP acc, [rc]⟩ := by
  have hb : ∀ (b : Bool) (l : List (List AV)), l.length = 7 → (if b = true then l.take 7 else l) = l := fun b l hl => by
    split
    · exact List.take_of_length_le (by omega)
    · rfl
  unfold trunc
  simp only
  rw [hb _ _ rfl]
  simp only [Heap.mk.injEq, true_and, and_true]
  cases acc with
  | nil => simp [tk_nil]
  | cons x l =>
    rw [tk_cons]
    rcases Nat.lt_or_ge n 1 with h | h
    · have : n = 0 := by omega
      subst this
      have hf : (([oPair0 s0 (x :: l), oPair1 (x :: l), oPair2 (x :: l), oPair3 (x :: l), [.str rest], [.str [44]], [.int .i64 0]] : List (List AV)).all fun x_1 => x_1.all (in2 ([oPair0 s0 (x :: l), oPair1 (x :: l), oPair2 (x :: l), oPair3 (x :: l), [.str rest], [.str [44]], [.int .i64 0]] : List (List AV)).length 0)) = false := rfl
      rw [hf]
      simp
    · have : n = 1 := by omega
      subst this
      split <;> rfl
theorem ylPair (pf : List UInt8 → Option Pair) (rc : LRec) (T0 : Env) (hA : rc.A = a109) (hT0 : rc.T = T0) (hps : rc.ps = [7]) (has : rc.assign = ra109_0) (hbd : rc.body = rb109_0) (hbu : rc.busy = false) (h1 : rc.nb = 7) (h2 : rc.nt = 0) (hT : Has T0 [(1, .ptr 3 0), (2, .ptr 1 0)])
    (hp : ∀ p x, p.length ≤ 1000 → pf p = some x → Gives cfg 89 [.str p] (encP x)) (acc : List Pair) (p rest : List UInt8) (acc' : List Pair) (hl : p.length ≤ 1000) (hacc : acc.length ≤ 100000) (hf : collect pf acc p = some acc') :
    Does cfg (.call (.c (.yield 0)) [.c (.str p)]) (hS (oPair0 s0) oPair1 oPair2 oPair3 (tkR encP) rc acc rest) (.bool true) (hS (oPair0 s0) oPair1 oPair2 oPair3 (tkR encP) rc acc' rest) := by
  unfold collect at hf
  split at hf
  · cases hf
  rename_i hne
  simp only [Option.map_eq_some_iff] at hf
  obtain ⟨x, hx, rfl⟩ := hf
  have hg := hp p x hl hx
  have key : Goes cfg roundA [.c rb109_0] (upd (psetA T0 [7] [.str p]) 4 (.str p)) (hB (oPair0 s0) oPair1 oPair2 oPair3 (tkR encP) rc acc rest) (fun r => r = (.ret (.tuple []), hB (oPair0 s0) oPair1 oPair2 oPair3 (tkR encP) rc (acc ++ [x]) rest)) := by
    have hT' : Has (upd (psetA T0 [7] [.str p]) 4 (.str p)) [(1, .ptr 3 0), (2, .ptr 1 0), (4, .str p)] := ⟨hT.1, hT.2.1, rfl, trivial⟩
    exact goG 60 _  hT'  (.no (show (p == []) = false from Bool.eq_false_iff.2 (show ¬ ((p == []) = true) from (by simpa using hne))) <| .callG ([AV.str p]) (AV.agg [AV.str x.key, AV.str x.val]) (show Gives cfg (89 : FuncId) [AV.str p] (encP x) from hg) ⟨rfl, rfl⟩ ⟨rfl, rfl⟩ <| .append (show appendA (2 : Nat) (32 : Nat) { boxes := [[AV.str s0], [AV.func (89 : Nat) []], [AV.func (90 : Nat) []], [AV.sl (skF acc) (List.map encP acc)], [AV.str rest], [AV.str [(44 : UInt8)]], [AV.int IntKind.i64 (0 : Int)]], toks := tkR encP acc, loops := [{ A := rc.A, T := rc.T, ps := rc.ps, assign := rc.assign, body := rc.body, busy := true, nb := rc.nb, nt := rc.nt, nl := rc.nl : LRec }] : Heap } (AV.sl (skF acc) (List.map encP acc)) (AV.sl SK.full [AV.agg [AV.str x.key, AV.str x.val]]) = some ((rowF encP (acc ++ [x]), { boxes := [[AV.str s0], [AV.func (89 : Nat) []], [AV.func (90 : Nat) []], [AV.sl (skF acc) (List.map encP acc)], [AV.str rest], [AV.str [(44 : UInt8)]], [AV.int IntKind.i64 (0 : Int)]], toks := tkR encP (acc ++ [x]), loops := [{ A := rc.A, T := rc.T, ps := rc.ps, assign := rc.assign, body := rc.body, busy := true, nb := rc.nb, nt := rc.nt, nl := rc.nl : LRec }] : Heap })) from row_append_T _ (by simp; omega) (by exact lenP) (by rfl) (by rfl)) <| .fin ((ARes.ret (AV.tuple []), { boxes := [[AV.str s0], [AV.func (89 : Nat) []], [AV.func (90 : Nat) []], [AV.sl (skF (acc ++ [x])) (List.map encP (acc ++ [x]))], [AV.str rest], [AV.str [(44 : UInt8)]], [AV.int IntKind.i64 (0 : Int)]], toks := tkR encP (acc ++ [x]), loops := [{ A := rc.A, T := rc.T, ps := rc.ps, assign := rc.assign, body := rc.body, busy := true, nb := rc.nb, nt := rc.nt, nl := rc.nl : LRec }] : Heap })) rfl) (by kernel_rfl)
  obtain ⟨r, hr, rfl⟩ := key
  have hrun : runL cfg roundA [.c rc.assign, .beg 0, .c rc.body] (psetA rc.T rc.ps [.str p]) (hS (oPair0 s0) oPair1 oPair2 oPair3 (tkR encP) rc acc rest) = some (.ret (.tuple []), hB (oPair0 s0) oPair1 oPair2 oPair3 (tkR encP) rc (acc ++ [x]) rest) := by
    rw [hT0, hps, has, hbd]
    rw [show (ra109_0 : ACode) = .region [⟨some 4, .mov (.t 7), none, []⟩] false from rfl, runL_assign, runL_beg (r := rc) rfl hbu]
    exact hr
  have h3 := yl_ret (cfg := cfg) (l := 0) (args := [.str p]) (r := rc) (r' := { rc with busy := true }) rfl (by rw [hps]; rfl) hrun rfl
  have e1 : ({ ({ rc with busy := true } : LRec) with busy := false } : LRec) = rc := by cases rc; simp only at hbu; subst hbu; rfl
  have h4 := does_yield h3 rfl
  refine Eq.mp ?_ h4
  congr 1
  show trunc 7 (tkR encP acc).length (.bool true) ⟨[oPair0 s0 (acc ++ [x]), oPair1 (acc ++ [x]), oPair2 (acc ++ [x]), oPair3 (acc ++ [x]), [.str rest], [.str [44]], [.int .i64 0]], tkR encP (acc ++ [x]), [{ ({ rc with busy := true } : LRec) with busy := false }]⟩ = _
  rw [e1]
  refine trPair s0 rc h1 h2 _ rest _ ?_ (fun _ => by simp) _ rfl
  cases acc with
  | nil => simp [tk_nil]
  | cons y l => simp [tk_cons]
theorem ynPair (pf : List UInt8 → Option Pair) (rc : LRec) (T0 : Env) (hA : rc.A = a109) (hT0 : rc.T = T0) (hps : rc.ps = [7]) (has : rc.assign = ra109_0) (hbd : rc.body = rb109_0) (hbu : rc.busy = false) (h1 : rc.nb = 7) (h2 : rc.nt = 0) (hT : Has T0 [(1, .ptr 3 0), (2, .ptr 1 0)])
    (hp : ∀ p, p.length ≤ 1000 → p ≠ [] → pf p = none → Pans cfg 89 [.str p] (stopV 2)) (acc : List Pair) (p rest : List UInt8) (hl : p.length ≤ 1000) (hf : collect pf acc p = none) :
    DoesP cfg (.call (.c (.yield 0)) [.c (.str p)]) (hS (oPair0 s0) oPair1 oPair2 oPair3 (tkR encP) rc acc rest) (stopV 2) (hB (oPair0 s0) oPair1 oPair2 oPair3 (tkR encP) rc acc rest) := by
  have key : Goes cfg roundA [.c rb109_0] (upd (psetA T0 [7] [.str p]) 4 (.str p)) (hB (oPair0 s0) oPair1 oPair2 oPair3 (tkR encP) rc acc rest) (fun r => r = (.pan (stopV 2), hB (oPair0 s0) oPair1 oPair2 oPair3 (tkR encP) rc acc rest)) := by
    have hT' : Has (upd (psetA T0 [7] [.str p]) 4 (.str p)) [(1, .ptr 3 0), (2, .ptr 1 0), (4, .str p)] := ⟨hT.1, hT.2.1, rfl, trivial⟩
    by_cases hne : p = []
    · subst hne
      have hs : Pans cfg 76 [.int .i64 2] (stopV 2) := stop_pan (by decide)
      exact goG 60 _  hT'  (.tt <| .callP ([AV.int IntKind.i64 (2 : Int)]) ({ boxes := [[AV.str s0], [AV.func (89 : Nat) []], [AV.func (90 : Nat) []], [AV.sl (skF acc) (List.map encP acc)], [AV.str rest], [AV.str [(44 : UInt8)]], [AV.int IntKind.i64 (0 : Int)]], toks := tkR encP acc, loops := [{ A := rc.A, T := rc.T, ps := rc.ps, assign := rc.assign, body := rc.body, busy := true, nb := rc.nb, nt := rc.nt, nl := rc.nl : LRec }] : Heap }) (show Pans cfg (76 : FuncId) [AV.int IntKind.i64 (2 : Int)] (stopV (2 : Int)) from hs) ⟨rfl, rfl⟩ rfl rfl) (by kernel_rfl)
    · have hx : pf p = none := by
        unfold collect at hf
        rw [if_neg hne] at hf
        simpa using hf
      have hg := hp p hl hne hx
      exact goG 60 _  hT'  (.no (show (p == []) = false from Bool.eq_false_iff.2 (show ¬ ((p == []) = true) from (by simpa using hne))) <| .callP ([AV.str p]) ({ boxes := [[AV.str s0], [AV.func (89 : Nat) []], [AV.func (90 : Nat) []], [AV.sl (skF acc) (List.map encP acc)], [AV.str rest], [AV.str [(44 : UInt8)]], [AV.int IntKind.i64 (0 : Int)]], toks := tkR encP acc, loops := [{ A := rc.A, T := rc.T, ps := rc.ps, assign := rc.assign, body := rc.body, busy := true, nb := rc.nb, nt := rc.nt, nl := rc.nl : LRec }] : Heap }) (show Pans cfg (89 : FuncId) [AV.str p] (stopV (2 : Int)) from hg) ⟨rfl, rfl⟩ rfl rfl) (by kernel_rfl)
  obtain ⟨r, hr, rfl⟩ := key
  have hrun : runL cfg roundA [.c rc.assign, .beg 0, .c rc.body] (psetA rc.T rc.ps [.str p]) (hS (oPair0 s0) oPair1 oPair2 oPair3 (tkR encP) rc acc rest) = some (.pan (stopV 2), hB (oPair0 s0) oPair1 oPair2 oPair3 (tkR encP) rc acc rest) := by
    rw [hT0, hps, has, hbd]
    rw [show (ra109_0 : ACode) = .region [⟨some 4, .mov (.t 7), none, []⟩] false from rfl, runL_assign, runL_beg (r := rc) rfl hbu]
    exact hr
  have h3 := yl_pan (cfg := cfg) (l := 0) (args := [.str p]) (r := rc) rfl (by rw [hps]; rfl) hrun
  have h4 := does_yieldP h3 rfl
  refine Eq.mp ?_ h4
  congr 1
  refine trPair s0 { rc with busy := true } h1 h2 _ rest _ ?_ (fun h => ?_) _ rfl
  · show (tkR encP acc).length ≤ 1
    cases acc with
    | nil => simp [tk_nil]
    | cons y l => simp [tk_cons]
  · rintro rfl
    change (tkR encP []).length = 1 at h
    simp [tk_nil] at h
theorem inPair (acc : List Pair) (rest : List UInt8) : ([oPair0 s0 acc, oPair1 acc, oPair2 acc, oPair3 acc, [.str rest], [.str [44]], [.int .i64 0]] : List (List AV)).all (fun b => b.all (in2 7 (tkR encP acc).length)) = true := by
  cases acc with
  | nil => rfl
  | cons x l => rw [tk_cons]; rfl
theorem rgPair (pf : List UInt8 → Option Pair) (hp : ∀ p x, p.length ≤ 1000 → pf p = some x → Gives cfg 89 [.str p] (encP x)) (hpn : ∀ p, p.length ≤ 1000 → p ≠ [] → pf p = none → Pans cfg 89 [.str p] (stopV 2))
    (s : List UInt8) (hl : s.length ≤ 1000) (T : Env) (hT : Has T [(0, .ptr 0 0), (1, .ptr 3 0), (2, .ptr 1 0), (3, .ptr 2 0), (6, .func 136 [.ptr 5 0, .ptr 4 0, .ptr 6 0])]) :
    (∀ l, foldE (collect pf) [] (parts 44 s) = some l → ∃ last, runL cfg a109 kr109_0 T ⟨[oPair0 s0 [], oPair1 [], oPair2 [], oPair3 [], [.str s], [.str [44]], [.int .i64 0]], [], []⟩ = runL cfg a109 kr109_0.tail T ⟨[oPair0 s0 l, oPair1 l, oPair2 l, oPair3 l, [.str last], [.str [44]], [.int .i64 0]], tkR encP l, []⟩) ∧
    (foldE (collect pf) [] (parts 44 s) = none → ∃ H', runL cfg a109 kr109_0 T ⟨[oPair0 s0 [], oPair1 [], oPair2 [], oPair3 [], [.str s], [.str [44]], [.int .i64 0]], [], []⟩ = some (.pan (stopV 2), H')) := by
  let rc : LRec := ⟨a109, T, [7], ra109_0, rb109_0, false, 7, 0, 0⟩
  have hT12 : Has T [(1, .ptr 3 0), (2, .ptr 1 0)] := ⟨hT.2.1, hT.2.2.1, trivial⟩
  obtain ⟨r, hr, hs⟩ := seq_call (oPair0 s0) oPair1 oPair2 oPair3 (tkR encP) rc (stopV 2) (fun acc m => acc.length + m ≤ 2000) (collect pf)
    (fun a x a' m h hc => by
      unfold collect at hc
      split at hc
      · cases hc
      · simp only [Option.map_eq_some_iff] at hc
        obtain ⟨y, -, rfl⟩ := hc
        simp only [List.length_append, List.length_cons, List.length_nil]
        omega)
    (fun a p rest a' h1 h2 h3 => ylPair s0 pf rc T rfl rfl rfl rfl rfl rfl rfl rfl hT12 hp a p rest a' h1 (by omega) h3)
    (fun a p rest h1 h2 h3 => ynPair s0 pf rc T rfl rfl rfl rfl rfl rfl rfl rfl hT12 hpn a p rest h1 h3)
    s hl [] (by simp; omega)
  have hfv : ev T (.t 6) = .func 136 [.ptr 5 0, .ptr 4 0, .ptr 6 0] := hT.2.2.2.2.1
  have hcall : callV (lim cfg) (.func 136 [.ptr 5 0, .ptr 4 0, .ptr 6 0]) [.yield 0] (hS (oPair0 s0) oPair1 oPair2 oPair3 (tkR encP) rc [] s) = callE (lim cfg) 136 [.yield 0, .ptr 5 0, .ptr 4 0, .ptr 6 0] (hS (oPair0 s0) oPair1 oPair2 oPair3 (tkR encP) rc [] s) := by
    rw [callV_func]; rfl
  constructor
  · intro l hf
    simp only [SeqR, hf] at hs
    obtain ⟨last, rfl⟩ := hs
    refine ⟨last, ?_⟩
    have h1 : callV (lim cfg) (.func 136 [.ptr 5 0, .ptr 4 0, .ptr 6 0]) [.yield 0] (hS (oPair0 s0) oPair1 oPair2 oPair3 (tkR encP) rc [] s) = some (.val (.tuple []) (hS (oPair0 s0) oPair1 oPair2 oPair3 (tkR encP) rc l last)) := by
      rw [hcall]
      simp only [callE, hr]
      congr 2
      exact trPair s0 rc rfl rfl l last 0 (by omega) (by intro h; cases h) (.tuple []) rfl
    have h2 : dropL 0 (hS (oPair0 s0) oPair1 oPair2 oPair3 (tkR encP) rc l last) = some ⟨[oPair0 s0 l, oPair1 l, oPair2 l, oPair3 l, [.str last], [.str [44]], [.int .i64 0]], tkR encP l, []⟩ := by
      exact dropL_of (r := rc) rfl rfl rfl (inPair s0 l last)
    have h3 := rangeA_val (call := lim cfg) (A := a109) (T := T) (ps := [7]) (a := ra109_0) (b := rb109_0) (H := ⟨[oPair0 s0 [], oPair1 [], oPair2 [], oPair3 [], [.str s], [.str [44]], [.int .i64 0]], [], []⟩) h1 h2
    rw [← hfv] at h3
    exact runL_range rfl h3
  · intro hf
    simp only [SeqR, hf] at hs
    obtain ⟨a', last, rfl⟩ := hs
    have h1 : callV (lim cfg) (.func 136 [.ptr 5 0, .ptr 4 0, .ptr 6 0]) [.yield 0] (hS (oPair0 s0) oPair1 oPair2 oPair3 (tkR encP) rc [] s) = some (.pan (stopV 2) (hB (oPair0 s0) oPair1 oPair2 oPair3 (tkR encP) rc a' last)) := by
      rw [hcall]
      simp only [callE, hr]
      congr 2
      exact trPair s0 { rc with busy := true } rfl rfl a' last 0 (by omega) (by intro h; cases h) (stopV 2) rfl
    have h2 : dropP 0 (hB (oPair0 s0) oPair1 oPair2 oPair3 (tkR encP) rc a' last) = some ⟨[oPair0 s0 a', oPair1 a', oPair2 a', oPair3 a', [.str last], [.str [44]], [.int .i64 0]], tkR encP a', []⟩ := by
      exact dropP_of (Nat.lt_add_one 0) rfl (inPair s0 a' last)
    have h3 := rangeA_pan (call := lim cfg) (A := a109) (T := T) (ps := [7]) (a := ra109_0) (b := rb109_0) (H := ⟨[oPair0 s0 [], oPair1 [], oPair2 [], oPair3 [], [.str s], [.str [44]], [.int .i64 0]], [], []⟩) h1 rfl h2
    rw [← hfv] at h3
    exact ⟨_, runL_rangeP rfl h3⟩
end
theorem seq0Pair (s : List UInt8) : ∃ v0 H0, lim cfg (.fn 103) [.str s, .str [44]] Heap.nil = some (.ret v0, H0) ∧ dataOut H0 v0 = none := by
  have h1 : lim cfg (.fn 124) [.str s, .str [44], .int .i64 0] Heap.nil = some (.ret (.func 136 [.ptr 1 0, .ptr 0 0, .ptr 2 0]), ⟨[[.str s], [.str [44]], [.int .i64 0]], [], []⟩) := by
    rw [l124]
    exact go 60 []  trivial  (.fin ((ARes.ret (AV.func (136 : Nat) [AV.ptr (1 : Nat) (0 : Nat), AV.ptr (0 : Nat) (0 : Nat), AV.ptr (2 : Nat) (0 : Nat)]), { boxes := [[AV.str s], [AV.str [(44 : UInt8)]], [AV.int IntKind.i64 (0 : Int)]], toks := [], loops := [] : Heap })) rfl) (by kernel_rfl)
  have hd : Does cfg (.call (.c (.func 124 [])) [.c (.str s), .c (.str [44]), .c (.int .i64 0)]) Heap.nil (.func 136 [.ptr 1 0, .ptr 0 0, .ptr 2 0]) ⟨[[.str s], [.str [44]], [.int .i64 0]], [], []⟩ :=
    does_callN h1 rfl h1 rfl rfl
  refine ⟨.func 136 [.ptr 1 0, .ptr 0 0, .ptr 2 0], ⟨[[.str s], [.str [44]], [.int .i64 0]], [], []⟩, ?_, rfl⟩
  rw [l103]
  exact go 60 []  trivial  (.effY (show Does cfg (AOp.call (Opd.c (AV.func (124 : FuncId) [])) [Opd.c (AV.str s), Opd.c (AV.str [(44 : UInt8)]), Opd.c (AV.int IntKind.i64 (0 : Int))]) Heap.nil (AV.func (136 : FuncId) [AV.ptr (1 : Nat) (0 : Nat), AV.ptr (0 : Nat) (0 : Nat), AV.ptr (2 : Nat) (0 : Nat)]) { boxes := [[AV.str s], [AV.str [(44 : UInt8)]], [AV.int IntKind.i64 (0 : Int)]], toks := [], loops := [] : Heap } from hd) <| .fin ((ARes.ret (AV.func (136 : Nat) [AV.ptr (1 : Nat) (0 : Nat), AV.ptr (0 : Nat) (0 : Nat), AV.ptr (2 : Nat) (0 : Nat)]), { boxes := [[AV.str s], [AV.str [(44 : UInt8)]], [AV.int IntKind.i64 (0 : Int)]], toks := [], loops := [] : Heap })) rfl) (by kernel_rfl)
theorem seq1Pair (s0 s : List UInt8) : lim cfg (.fn 103) [.str s, .str [44]] ⟨[oPair0 s0 [], oPair1 [], oPair2 [], oPair3 []], [], []⟩ = some (.ret (.func 136 [.ptr 5 0, .ptr 4 0, .ptr 6 0]), ⟨[oPair0 s0 [], oPair1 [], oPair2 [], oPair3 [], [.str s], [.str [44]], [.int .i64 0]], [], []⟩) := by
  have h0 : lim cfg (.fn 124) [.str s, .str [44], .int .i64 0] Heap.nil = some (.ret (.func 136 [.ptr 1 0, .ptr 0 0, .ptr 2 0]), ⟨[[.str s], [.str [44]], [.int .i64 0]], [], []⟩) := by
    rw [l124]
    exact go 60 []  trivial  (.fin ((ARes.ret (AV.func (136 : Nat) [AV.ptr (1 : Nat) (0 : Nat), AV.ptr (0 : Nat) (0 : Nat), AV.ptr (2 : Nat) (0 : Nat)]), { boxes := [[AV.str s], [AV.str [(44 : UInt8)]], [AV.int IntKind.i64 (0 : Int)]], toks := [], loops := [] : Heap })) rfl) (by kernel_rfl)
  have h1 : lim cfg (.fn 124) [.str s, .str [44], .int .i64 0] ⟨[oPair0 s0 [], oPair1 [], oPair2 [], oPair3 []], [], []⟩ = some (.ret (.func 136 [.ptr 5 0, .ptr 4 0, .ptr 6 0]), ⟨[oPair0 s0 [], oPair1 [], oPair2 [], oPair3 [], [.str s], [.str [44]], [.int .i64 0]], [], []⟩) := by
    rw [l124]
    exact go 60 []  trivial  (.fin ((ARes.ret (AV.func (136 : Nat) [AV.ptr (5 : Nat) (0 : Nat), AV.ptr (4 : Nat) (0 : Nat), AV.ptr (6 : Nat) (0 : Nat)]), { boxes := [[AV.str s0], [AV.func (89 : Nat) []], [AV.func (90 : Nat) []], [AV.sl SK.full []], [AV.str s], [AV.str [(44 : UInt8)]], [AV.int IntKind.i64 (0 : Int)]], toks := [], loops := [] : Heap })) rfl) (by kernel_rfl)
  have hd : Does cfg (.call (.c (.func 124 [])) [.c (.str s), .c (.str [44]), .c (.int .i64 0)]) ⟨[oPair0 s0 [], oPair1 [], oPair2 [], oPair3 []], [], []⟩ (.func 136 [.ptr 5 0, .ptr 4 0, .ptr 6 0]) ⟨[oPair0 s0 [], oPair1 [], oPair2 [], oPair3 [], [.str s], [.str [44]], [.int .i64 0]], [], []⟩ :=
    does_callN h0 rfl h1 rfl rfl
  rw [l103]
  exact go 60 []  trivial  (.effY (show Does cfg (AOp.call (Opd.c (AV.func (124 : FuncId) [])) [Opd.c (AV.str s), Opd.c (AV.str [(44 : UInt8)]), Opd.c (AV.int IntKind.i64 (0 : Int))]) { boxes := [oPair0 s0 [], oPair1 [], oPair2 [], oPair3 []], toks := [], loops := [] : Heap } (AV.func (136 : FuncId) [AV.ptr (5 : Nat) (0 : Nat), AV.ptr (4 : Nat) (0 : Nat), AV.ptr (6 : Nat) (0 : Nat)]) { boxes := [oPair0 s0 [], oPair1 [], oPair2 [], oPair3 [], [AV.str s], [AV.str [(44 : UInt8)]], [AV.int IntKind.i64 (0 : Int)]], toks := [], loops := [] : Heap } from hd) <| .fin ((ARes.ret (AV.func (136 : Nat) [AV.ptr (5 : Nat) (0 : Nat), AV.ptr (4 : Nat) (0 : Nat), AV.ptr (6 : Nat) (0 : Nat)]), { boxes := [[AV.str s0], [AV.func (89 : Nat) []], [AV.func (90 : Nat) []], [AV.sl SK.full []], [AV.str s], [AV.str [(44 : UInt8)]], [AV.int IntKind.i64 (0 : Int)]], toks := [], loops := [] : Heap })) rfl) (by kernel_rfl)
theorem tryPair (pf : List UInt8 → Option Pair) (ck : List Pair → Int) (hp : ∀ p x, p.length ≤ 1000 → pf p = some x → Gives cfg 89 [.str p] (encP x)) (hpn : ∀ p, p.length ≤ 1000 → p ≠ [] → pf p = none → Pans cfg 89 [.str p] (stopV 2))
    (hck : ∀ l : List Pair, Gives cfg 90 [.sl .sh (l.map encP)] (.int .i64 (ck l))) (s : List UInt8) (hl : s.length ≤ 1000) :
    match foldE (collect pf) [] (parts 44 s) with
    | none => ∃ H', lim cfg (.fn 101) [.func 109 [.ptr 0 0, .ptr 3 0, .ptr 1 0, .ptr 2 0]] ⟨[oPair0 s [], oPair1 [], oPair2 [], oPair3 []], [], []⟩ = some (.ret (.int .i64 2), H')
    | some l => if ck l = 0 then ∃ last, lim cfg (.fn 101) [.func 109 [.ptr 0 0, .ptr 3 0, .ptr 1 0, .ptr 2 0]] ⟨[oPair0 s [], oPair1 [], oPair2 [], oPair3 []], [], []⟩ = some (.ret (.int .i64 0), ⟨[oPair0 s l, oPair1 l, oPair2 l, oPair3 l, [.str last], [.str [44]], [.int .i64 0]], tkR encP l, []⟩)
      else ∃ H', lim cfg (.fn 101) [.func 109 [.ptr 0 0, .ptr 3 0, .ptr 1 0, .ptr 2 0]] ⟨[oPair0 s [], oPair1 [], oPair2 [], oPair3 []], [], []⟩ = some (.ret (.int .i64 (ck l)), H') := by
  obtain ⟨v0, H0, h0, hn0⟩ := seq0Pair s
  have hd : Does cfg (.call (.c (.func 103 [])) [.c (.str s), .c (.str [44])]) ⟨[oPair0 s [], oPair1 [], oPair2 [], oPair3 []], [], []⟩ (.func 136 [.ptr 5 0, .ptr 4 0, .ptr 6 0]) ⟨[oPair0 s [], oPair1 [], oPair2 [], oPair3 [], [.str s], [.str [44]], [.int .i64 0]], [], []⟩ :=
    does_callN h0 hn0 (seq1Pair s s) rfl rfl
  have clo : ∀ R, (∀ T (hT : Has T [(0, .ptr 0 0), (1, .ptr 3 0), (2, .ptr 1 0), (3, .ptr 2 0), (6, .func 136 [.ptr 5 0, .ptr 4 0, .ptr 6 0])]), Goes cfg a109 kr109_0 T ⟨[oPair0 s [], oPair1 [], oPair2 [], oPair3 [], [.str s], [.str [44]], [.int .i64 0]], [], []⟩ R) →
      ∃ r, lim cfg (.fn 109) [.ptr 0 0, .ptr 3 0, .ptr 1 0, .ptr 2 0] ⟨[oPair0 s [], oPair1 [], oPair2 [], oPair3 []], [], []⟩ = some r ∧ R r := by
    intro R h
    rw [l109]
    have key : Goes cfg a109 [.c c109] (initEnv [.ptr 0 0, .ptr 3 0, .ptr 1 0, .ptr 2 0]) ⟨[oPair0 s [], oPair1 [], oPair2 [], oPair3 []], [], []⟩ R := by
      exact goG 60 []  trivial  (.effY (show Does cfg (AOp.call (Opd.c (AV.func (103 : FuncId) [])) [Opd.c (AV.str s), Opd.c (AV.str [(44 : UInt8)])]) { boxes := [oPair0 s [], oPair1 [], oPair2 [], oPair3 []], toks := [], loops := [] : Heap } (AV.func (136 : FuncId) [AV.ptr (5 : Nat) (0 : Nat), AV.ptr (4 : Nat) (0 : Nat), AV.ptr (6 : Nat) (0 : Nat)]) { boxes := [oPair0 s [], oPair1 [], oPair2 [], oPair3 [], [AV.str s], [AV.str [(44 : UInt8)]], [AV.int IntKind.i64 (0 : Int)]], toks := [], loops := [] : Heap } from hd) <| .cutQ kr109_0 [(0, AV.ptr (0 : Nat) (0 : Nat)), (1, AV.ptr (3 : Nat) (0 : Nat)), (2, AV.ptr (1 : Nat) (0 : Nat)), (3, AV.ptr (2 : Nat) (0 : Nat)), (6, AV.func (136 : Nat) [AV.ptr (5 : Nat) (0 : Nat), AV.ptr (4 : Nat) (0 : Nat), AV.ptr (6 : Nat) (0 : Nat)])] ({ boxes := [[AV.str s], [AV.func (89 : Nat) []], [AV.func (90 : Nat) []], [AV.sl SK.full []], [AV.str s], [AV.str [(44 : UInt8)]], [AV.int IntKind.i64 (0 : Int)]], toks := [], loops := [] : Heap }) (fun T hT => (h T hT))) (by kernel_rfl)
    exact key
  cases hf : foldE (collect pf) [] (parts 44 s) with
  | none =>
    obtain ⟨r, h1, h2⟩ := clo (fun r => r.1 = .pan (stopV 2)) (fun T hT => by
      obtain ⟨H', e⟩ := (rgPair s pf hp hpn s hl T hT).2 hf
      exact ⟨_, e, rfl⟩)
    obtain ⟨x, H'⟩ := r
    simp only at h2
    subst h2
    exact ⟨H', by rw [lim_try rfl, h1]; rfl⟩
  | some l =>
    simp only
    have hg := hck l
    by_cases hc : ck l = 0
    · rw [if_pos hc]
      rw [hc] at hg
      obtain ⟨r, h1, h2⟩ := clo (fun r => ∃ last, r = (.ret (.tuple []), ⟨[oPair0 s l, oPair1 l, oPair2 l, oPair3 l, [.str last], [.str [44]], [.int .i64 0]], tkR encP l, []⟩)) (fun T hT => by
        obtain ⟨last, e⟩ := (rgPair s pf hp hpn s hl T hT).1 l hf
        have key : Goes cfg a109 kr109_0.tail T ⟨[oPair0 s l, oPair1 l, oPair2 l, oPair3 l, [.str last], [.str [44]], [.int .i64 0]], tkR encP l, []⟩ (fun r => r = (.ret (.tuple []), ⟨[oPair0 s l, oPair1 l, oPair2 l, oPair3 l, [.str last], [.str [44]], [.int .i64 0]], tkR encP l, []⟩)) := by
          exact goG 60 _  hT  (.callG ([AV.sl (skF l) (List.map encP l)]) (AV.int IntKind.i64 (0 : Int)) (show Gives cfg (90 : FuncId) [AV.sl SK.sh (List.map encP l)] (AV.int IntKind.i64 (0 : Int)) from hg) Shuts.p ⟨rfl, rfl⟩ <| .callG ([AV.int IntKind.i64 (0 : Int)]) (AV.tuple []) (show Gives cfg (76 : FuncId) [AV.int IntKind.i64 (0 : Int)] (AV.tuple []) from stop_ok) ⟨rfl, rfl⟩ ⟨rfl, rfl⟩ <| .fin ((ARes.ret (AV.tuple []), { boxes := [[AV.str s], [AV.func (89 : Nat) []], [AV.func (90 : Nat) []], [AV.sl (skF l) (List.map encP l)], [AV.str last], [AV.str [(44 : UInt8)]], [AV.int IntKind.i64 (0 : Int)]], toks := tkR encP l, loops := [] : Heap })) rfl) (by kernel_rfl)
        obtain ⟨r, k1, k2⟩ := key
        exact ⟨r, e.trans k1, last, k2⟩)
      obtain ⟨last, rfl⟩ := h2
      exact ⟨last, by rw [lim_try rfl, h1]; rfl⟩
    · rw [if_neg hc]
      obtain ⟨r, h1, h2⟩ := clo (fun r => r.1 = .pan (stopV (ck l))) (fun T hT => by
        obtain ⟨last, e⟩ := (rgPair s pf hp hpn s hl T hT).1 l hf
        have hst := stop_pan hc
        have key : Goes cfg a109 kr109_0.tail T ⟨[oPair0 s l, oPair1 l, oPair2 l, oPair3 l, [.str last], [.str [44]], [.int .i64 0]], tkR encP l, []⟩ (fun r => r.1 = .pan (stopV (ck l))) := by
          exact goG 60 _  hT  (.callG ([AV.sl (skF l) (List.map encP l)]) (AV.int IntKind.i64 (ck l)) (show Gives cfg (90 : FuncId) [AV.sl SK.sh (List.map encP l)] (AV.int IntKind.i64 (ck l)) from hg) Shuts.p ⟨rfl, rfl⟩ <| .callP ([AV.int IntKind.i64 (ck l)]) ({ boxes := [[AV.str s], [AV.func (89 : Nat) []], [AV.func (90 : Nat) []], [AV.sl (skF l) (List.map encP l)], [AV.str last], [AV.str [(44 : UInt8)]], [AV.int IntKind.i64 (0 : Int)]], toks := tkR encP l, loops := [] : Heap }) (show Pans cfg (76 : FuncId) [AV.int IntKind.i64 (ck l)] (stopV (ck l)) from hst) ⟨rfl, rfl⟩ rfl rfl) (by kernel_rfl)
        obtain ⟨r, k1, k2⟩ := key
        exact ⟨r, e.trans k1, k2⟩)
      obtain ⟨x, H'⟩ := r
      simp only at h2
      subst h2
      exact ⟨H', by rw [lim_try rfl, h1]; rfl⟩
theorem partsPair (pf : List UInt8 → Option Pair) (ck : List Pair → Int) (hp : ∀ p x, p.length ≤ 1000 → pf p = some x → Gives cfg 89 [.str p] (encP x)) (hpn : ∀ p, p.length ≤ 1000 → p ≠ [] → pf p = none → Pans cfg 89 [.str p] (stopV 2))
    (hck : ∀ l : List Pair, Gives cfg 90 [.sl .sh (l.map encP)] (.int .i64 (ck l))) (s : List UInt8) (hl : s.length ≤ 1000) :
    Gives cfg 88 [.str s, .func 89 [], .func 90 []] (.tuple [rowF encP (parsed pf ck s).1, .int .i64 (parsed pf ck s).2]) := by
  refine Gives.run (l88 _ _) ?_
  by_cases hs : s = [45]
  · subst hs
    exact goG 60 []  trivial  (.tt <| .fin ((ARes.ret (AV.tuple [AV.sl SK.full [], AV.int IntKind.i64 (0 : Int)]), { boxes := [[AV.str [(45 : UInt8)]], [AV.func (89 : Nat) []], [AV.func (90 : Nat) []]], toks := [], loops := [] : Heap })) rfl) (by kernel_rfl)
  · have ht := tryPair pf ck hp hpn hck s hl
    simp only [parsed, if_neg hs]
    cases hf : foldE (collect pf) [] (parts 44 s) with
    | none =>
      simp only [hf] at ht ⊢
      obtain ⟨H', ht⟩ := ht
      have hd := does_callE (xs := [.func 109 [.ptr 0 0, .ptr 3 0, .ptr 1 0, .ptr 2 0]]) (caps := []) ht rfl rfl
      generalize trunc _ _ _ H' = H2 at hd
      exact goG 60 []  trivial  (.no (show (s == [(45 : UInt8)]) = false from Bool.eq_false_iff.2 (show ¬ ((s == [(45 : UInt8)]) = true) from (by simpa using hs))) <| .effY (show Does cfg (AOp.call (Opd.c (AV.func (101 : FuncId) [])) (List.map Opd.c [AV.func (109 : FuncId) [AV.ptr (0 : Nat) (0 : Nat), AV.ptr (3 : Nat) (0 : Nat), AV.ptr (1 : Nat) (0 : Nat), AV.ptr (2 : Nat) (0 : Nat)]])) { boxes := [oPair0 s [], oPair1 [], oPair2 [], oPair3 []], toks := [], loops := [] : Heap } (shutA (AV.int IntKind.i64 (2 : Int))) H2 from hd) <| .tt <| .fin ((ARes.ret (AV.tuple [AV.sl SK.full [], AV.int IntKind.i64 (2 : Int)]), H2)) rfl) (by kernel_rfl)
    | some l =>
      simp only [hf] at ht ⊢
      by_cases hc : ck l = 0
      · rw [if_pos hc] at ht
        simp only [if_pos hc]
        obtain ⟨last, ht⟩ := ht
        have hd : Does cfg (.call (.c (.func 101 [])) [.c (.func 109 [.ptr 0 0, .ptr 3 0, .ptr 1 0, .ptr 2 0])]) ⟨[oPair0 s [], oPair1 [], oPair2 [], oPair3 []], [], []⟩ (.int .i64 0) ⟨[oPair0 s l, oPair1 l, oPair2 l, oPair3 l], tkR encP l, []⟩ := by
          have hd := does_callE (xs := [.func 109 [.ptr 0 0, .ptr 3 0, .ptr 1 0, .ptr 2 0]]) (caps := []) ht rfl rfl
          refine Eq.mp ?_ hd
          congr 1
          cases l <;> rfl
        exact goG 60 []  trivial  (.no (show (s == [(45 : UInt8)]) = false from Bool.eq_false_iff.2 (show ¬ ((s == [(45 : UInt8)]) = true) from (by simpa using hs))) <| .effY (show Does cfg (AOp.call (Opd.c (AV.func (101 : FuncId) [])) [Opd.c (AV.func (109 : FuncId) [AV.ptr (0 : Nat) (0 : Nat), AV.ptr (3 : Nat) (0 : Nat), AV.ptr (1 : Nat) (0 : Nat), AV.ptr (2 : Nat) (0 : Nat)])]) { boxes := [oPair0 s [], oPair1 [], oPair2 [], oPair3 []], toks := [], loops := [] : Heap } (AV.int IntKind.i64 (0 : Int)) { boxes := [oPair0 s l, oPair1 l, oPair2 l, oPair3 l], toks := tkR encP l, loops := [] : Heap } from hd) <| .ff <| .fin ((ARes.ret (AV.tuple [AV.sl (skF l) (List.map encP l), AV.int IntKind.i64 (0 : Int)]), { boxes := [[AV.str s], [AV.func (89 : Nat) []], [AV.func (90 : Nat) []], [AV.sl (skF l) (List.map encP l)]], toks := tkR encP l, loops := [] : Heap })) rfl) (by kernel_rfl)
      · rw [if_neg hc] at ht
        simp only [if_neg hc]
        obtain ⟨H', ht⟩ := ht
        have hd := does_callE (xs := [.func 109 [.ptr 0 0, .ptr 3 0, .ptr 1 0, .ptr 2 0]]) (caps := []) ht rfl rfl
        generalize trunc _ _ _ H' = H2 at hd
        exact goG 60 []  trivial  (.no (show (s == [(45 : UInt8)]) = false from Bool.eq_false_iff.2 (show ¬ ((s == [(45 : UInt8)]) = true) from (by simpa using hs))) <| .effY (show Does cfg (AOp.call (Opd.c (AV.func (101 : FuncId) [])) (List.map Opd.c [AV.func (109 : FuncId) [AV.ptr (0 : Nat) (0 : Nat), AV.ptr (3 : Nat) (0 : Nat), AV.ptr (1 : Nat) (0 : Nat), AV.ptr (2 : Nat) (0 : Nat)]])) { boxes := [oPair0 s [], oPair1 [], oPair2 [], oPair3 []], toks := [], loops := [] : Heap } (shutA (AV.int IntKind.i64 (ck l))) H2 from hd) <| .yes (show (ck l != (0 : Int)) = true from (by simpa using hc)) <| .fin ((ARes.ret (AV.tuple [AV.sl SK.full [], AV.int IntKind.i64 (ck l)]), H2)) rfl) (by kernel_rfl)

section
variable (s0 : List UInt8)
def oTerm0 (_ : List Term) : List AV := [.str s0]
def oTerm1 (_ : List Term) : List AV := [.func 92 []]
def oTerm2 (_ : List Term) : List AV := [.func 95 []]
def oTerm3 (acc : List Term) : List AV := [rowF encM acc]
theorem trTerm (rc : LRec) (h1 : rc.nb = 7) (h2 : rc.nt = 0) (acc : List Term) (rest : List UInt8) (n : Nat) (hn : n ≤ 1) (h0 : n = 1 → acc ≠ []) (v : AV) (hv : within 7 n v = true) :
    trunc 7 n v ⟨[oTerm0 s0 acc, oTerm1 acc, oTerm2 acc, oTerm3 acc, [.str rest], [.str [44]], [.int .i64 0]], tkR encM acc, [rc]⟩ = ⟨[oTerm0 s0 acc, oTerm1 acc, oTerm2 acc, oTerm3 acc, [.str rest], [.str [44]], [.int .i64 0]], tkR encM acc, [rc]⟩ := by
  have hb : ∀ (b : Bool) (l : List (List AV)), l.length = 7 → (if b = true then l.take 7 else l) = l := fun b l hl => by
    split
    · exact List.take_of_length_le (by omega)
    · rfl
  unfold trunc
  simp only
  rw [hb _ _ rfl]
  simp only [Heap.mk.injEq, true_and, and_true]
  cases acc with
  | nil => simp [tk_nil]
  | cons x l =>
    rw [tk_cons]
    rcases Nat.lt_or_ge n 1 with h | h
    · have : n = 0 := by omega
      subst this
      have hf : (([oTerm0 s0 (x :: l), oTerm1 (x :: l), oTerm2 (x :: l), oTerm3 (x :: l), [.str rest], [.str [44]], [.int .i64 0]] : List (List AV)).all fun x_1 => x_1.all (in2 ([oTerm0 s0 (x :: l), oTerm1 (x :: l), oTerm2 (x :: l), oTerm3 (x :: l), [.str rest], [.str [44]], [.int .i64 0]] : List (List AV)).length 0)) = false := rfl
      rw [hf]
      simp
    · have : n = 1 := by omega
      subst this
      split <;> rfl
theorem ylTerm (pf : List UInt8 → Option Term) (rc : LRec) (T0 : Env) (hA : rc.A = a110) (hT0 : rc.T = T0) (hps : rc.ps = [7]) (has : rc.assign = ra110_0) (hbd : rc.body = rb110_0) (hbu : rc.busy = false) (h1 : rc.nb = 7) (h2 : rc.nt = 0) (hT : Has T0 [(1, .ptr 3 0), (2, .ptr 1 0)])
    (hp : ∀ p x, p.length ≤ 1000 → pf p = some x → Gives cfg 92 [.str p] (encM x)) (acc : List Term) (p rest : List UInt8) (acc' : List Term) (hl : p.length ≤ 1000) (hacc : acc.length ≤ 100000) (hf : collect pf acc p = some acc') :
    Does cfg (.call (.c (.yield 0)) [.c (.str p)]) (hS (oTerm0 s0) oTerm1 oTerm2 oTerm3 (tkR encM) rc acc rest) (.bool true) (hS (oTerm0 s0) oTerm1 oTerm2 oTerm3 (tkR encM) rc acc' rest) := by
  unfold collect at hf
  split at hf
  · cases hf
  rename_i hne
  simp only [Option.map_eq_some_iff] at hf
  obtain ⟨x, hx, rfl⟩ := hf
  have hg := hp p x hl hx
  have key : Goes cfg roundA [.c rb110_0] (upd (psetA T0 [7] [.str p]) 4 (.str p)) (hB (oTerm0 s0) oTerm1 oTerm2 oTerm3 (tkR encM) rc acc rest) (fun r => r = (.ret (.tuple []), hB (oTerm0 s0) oTerm1 oTerm2 oTerm3 (tkR encM) rc (acc ++ [x]) rest)) := by
    have hT' : Has (upd (psetA T0 [7] [.str p]) 4 (.str p)) [(1, .ptr 3 0), (2, .ptr 1 0), (4, .str p)] := ⟨hT.1, hT.2.1, rfl, trivial⟩
    exact goG 60 _  hT'  (.no (show (p == []) = false from Bool.eq_false_iff.2 (show ¬ ((p == []) = true) from (by simpa using hne))) <| .callG ([AV.str p]) (AV.agg [AV.int IntKind.i64 x.op, AV.str x.key, AV.str x.val]) (show Gives cfg (92 : FuncId) [AV.str p] (encM x) from hg) ⟨rfl, rfl⟩ ⟨rfl, rfl⟩ <| .append (show appendA (3 : Nat) (40 : Nat) { boxes := [[AV.str s0], [AV.func (92 : Nat) []], [AV.func (95 : Nat) []], [AV.sl (skF acc) (List.map encM acc)], [AV.str rest], [AV.str [(44 : UInt8)]], [AV.int IntKind.i64 (0 : Int)]], toks := tkR encM acc, loops := [{ A := rc.A, T := rc.T, ps := rc.ps, assign := rc.assign, body := rc.body, busy := true, nb := rc.nb, nt := rc.nt, nl := rc.nl : LRec }] : Heap } (AV.sl (skF acc) (List.map encM acc)) (AV.sl SK.full [AV.agg [AV.int IntKind.i64 x.op, AV.str x.key, AV.str x.val]]) = some ((rowF encM (acc ++ [x]), { boxes := [[AV.str s0], [AV.func (92 : Nat) []], [AV.func (95 : Nat) []], [AV.sl (skF acc) (List.map encM acc)], [AV.str rest], [AV.str [(44 : UInt8)]], [AV.int IntKind.i64 (0 : Int)]], toks := tkR encM (acc ++ [x]), loops := [{ A := rc.A, T := rc.T, ps := rc.ps, assign := rc.assign, body := rc.body, busy := true, nb := rc.nb, nt := rc.nt, nl := rc.nl : LRec }] : Heap })) from row_append_T _ (by simp; omega) (by exact lenM) (by rfl) (by rfl)) <| .fin ((ARes.ret (AV.tuple []), { boxes := [[AV.str s0], [AV.func (92 : Nat) []], [AV.func (95 : Nat) []], [AV.sl (skF (acc ++ [x])) (List.map encM (acc ++ [x]))], [AV.str rest], [AV.str [(44 : UInt8)]], [AV.int IntKind.i64 (0 : Int)]], toks := tkR encM (acc ++ [x]), loops := [{ A := rc.A, T := rc.T, ps := rc.ps, assign := rc.assign, body := rc.body, busy := true, nb := rc.nb, nt := rc.nt, nl := rc.nl : LRec }] : Heap })) rfl) (by kernel_rfl)
  obtain ⟨r, hr, rfl⟩ := key
  have hrun : runL cfg roundA [.c rc.assign, .beg 0, .c rc.body] (psetA rc.T rc.ps [.str p]) (hS (oTerm0 s0) oTerm1 oTerm2 oTerm3 (tkR encM) rc acc rest) = some (.ret (.tuple []), hB (oTerm0 s0) oTerm1 oTerm2 oTerm3 (tkR encM) rc (acc ++ [x]) rest) := by
    rw [hT0, hps, has, hbd]
    rw [show (ra110_0 : ACode) = .region [⟨some 4, .mov (.t 7), none, []⟩] false from rfl, runL_assign, runL_beg (r := rc) rfl hbu]
    exact hr
  have h3 := yl_ret (cfg := cfg) (l := 0) (args := [.str p]) (r := rc) (r' := { rc with busy := true }) rfl (by rw [hps]; rfl) hrun rfl
  have e1 : ({ ({ rc with busy := true } : LRec) with busy := false } : LRec) = rc := by cases rc; simp only at hbu; subst hbu; rfl
  have h4 := does_yield h3 rfl
  refine Eq.mp ?_ h4
  congr 1
  show trunc 7 (tkR encM acc).length (.bool true) ⟨[oTerm0 s0 (acc ++ [x]), oTerm1 (acc ++ [x]), oTerm2 (acc ++ [x]), oTerm3 (acc ++ [x]), [.str rest], [.str [44]], [.int .i64 0]], tkR encM (acc ++ [x]), [{ ({ rc with busy := true } : LRec) with busy := false }]⟩ = _
  rw [e1]
  refine trTerm s0 rc h1 h2 _ rest _ ?_ (fun _ => by simp) _ rfl
  cases acc with
  | nil => simp [tk_nil]
  | cons y l => simp [tk_cons]
theorem ynTerm (pf : List UInt8 → Option Term) (rc : LRec) (T0 : Env) (hA : rc.A = a110) (hT0 : rc.T = T0) (hps : rc.ps = [7]) (has : rc.assign = ra110_0) (hbd : rc.body = rb110_0) (hbu : rc.busy = false) (h1 : rc.nb = 7) (h2 : rc.nt = 0) (hT : Has T0 [(1, .ptr 3 0), (2, .ptr 1 0)])
    (hp : ∀ p, p.length ≤ 1000 → p ≠ [] → pf p = none → Pans cfg 92 [.str p] (stopV 2)) (acc : List Term) (p rest : List UInt8) (hl : p.length ≤ 1000) (hf : collect pf acc p = none) :
    DoesP cfg (.call (.c (.yield 0)) [.c (.str p)]) (hS (oTerm0 s0) oTerm1 oTerm2 oTerm3 (tkR encM) rc acc rest) (stopV 2) (hB (oTerm0 s0) oTerm1 oTerm2 oTerm3 (tkR encM) rc acc rest) := by
  have key : Goes cfg roundA [.c rb110_0] (upd (psetA T0 [7] [.str p]) 4 (.str p)) (hB (oTerm0 s0) oTerm1 oTerm2 oTerm3 (tkR encM) rc acc rest) (fun r => r = (.pan (stopV 2), hB (oTerm0 s0) oTerm1 oTerm2 oTerm3 (tkR encM) rc acc rest)) := by
    have hT' : Has (upd (psetA T0 [7] [.str p]) 4 (.str p)) [(1, .ptr 3 0), (2, .ptr 1 0), (4, .str p)] := ⟨hT.1, hT.2.1, rfl, trivial⟩
    by_cases hne : p = []
    · subst hne
      have hs : Pans cfg 76 [.int .i64 2] (stopV 2) := stop_pan (by decide)
      exact goG 60 _  hT'  (.tt <| .callP ([AV.int IntKind.i64 (2 : Int)]) ({ boxes := [[AV.str s0], [AV.func (92 : Nat) []], [AV.func (95 : Nat) []], [AV.sl (skF acc) (List.map encM acc)], [AV.str rest], [AV.str [(44 : UInt8)]], [AV.int IntKind.i64 (0 : Int)]], toks := tkR encM acc, loops := [{ A := rc.A, T := rc.T, ps := rc.ps, assign := rc.assign, body := rc.body, busy := true, nb := rc.nb, nt := rc.nt, nl := rc.nl : LRec }] : Heap }) (show Pans cfg (76 : FuncId) [AV.int IntKind.i64 (2 : Int)] (stopV (2 : Int)) from hs) ⟨rfl, rfl⟩ rfl rfl) (by kernel_rfl)
    · have hx : pf p = none := by
        unfold collect at hf
        rw [if_neg hne] at hf
        simpa using hf
      have hg := hp p hl hne hx
      exact goG 60 _  hT'  (.no (show (p == []) = false from Bool.eq_false_iff.2 (show ¬ ((p == []) = true) from (by simpa using hne))) <| .callP ([AV.str p]) ({ boxes := [[AV.str s0], [AV.func (92 : Nat) []], [AV.func (95 : Nat) []], [AV.sl (skF acc) (List.map encM acc)], [AV.str rest], [AV.str [(44 : UInt8)]], [AV.int IntKind.i64 (0 : Int)]], toks := tkR encM acc, loops := [{ A := rc.A, T := rc.T, ps := rc.ps, assign := rc.assign, body := rc.body, busy := true, nb := rc.nb, nt := rc.nt, nl := rc.nl : LRec }] : Heap }) (show Pans cfg (92 : FuncId) [AV.str p] (stopV (2 : Int)) from hg) ⟨rfl, rfl⟩ rfl rfl) (by kernel_rfl)
  obtain ⟨r, hr, rfl⟩ := key
  have hrun : runL cfg roundA [.c rc.assign, .beg 0, .c rc.body] (psetA rc.T rc.ps [.str p]) (hS (oTerm0 s0) oTerm1 oTerm2 oTerm3 (tkR encM) rc acc rest) = some (.pan (stopV 2), hB (oTerm0 s0) oTerm1 oTerm2 oTerm3 (tkR encM) rc acc rest) := by
    rw [hT0, hps, has, hbd]
    rw [show (ra110_0 : ACode) = .region [⟨some 4, .mov (.t 7), none, []⟩] false from rfl, runL_assign, runL_beg (r := rc) rfl hbu]
    exact hr
  have h3 := yl_pan (cfg := cfg) (l := 0) (args := [.str p]) (r := rc) rfl (by rw [hps]; rfl) hrun
  have h4 := does_yieldP h3 rfl
  refine Eq.mp ?_ h4
  congr 1
  refine trTerm s0 { rc with busy := true } h1 h2 _ rest _ ?_ (fun h => ?_) _ rfl
  · show (tkR encM acc).length ≤ 1
    cases acc with
    | nil => simp [tk_nil]
    | cons y l => simp [tk_cons]
  · rintro rfl
    change (tkR encM []).length = 1 at h
    simp [tk_nil] at h
theorem inTerm (acc : List Term) (rest : List UInt8) : ([oTerm0 s0 acc, oTerm1 acc, oTerm2 acc, oTerm3 acc, [.str rest], [.str [44]], [.int .i64 0]] : List (List AV)).all (fun b => b.all (in2 7 (tkR encM acc).length)) = true := by
  cases acc with
  | nil => rfl
  | cons x l => rw [tk_cons]; rfl
theorem rgTerm (pf : List UInt8 → Option Term) (hp : ∀ p x, p.length ≤ 1000 → pf p = some x → Gives cfg 92 [.str p] (encM x)) (hpn : ∀ p, p.length ≤ 1000 → p ≠ [] → pf p = none → Pans cfg 92 [.str p] (stopV 2))
    (s : List UInt8) (hl : s.length ≤ 1000) (T : Env) (hT : Has T [(0, .ptr 0 0), (1, .ptr 3 0), (2, .ptr 1 0), (3, .ptr 2 0), (6, .func 136 [.ptr 5 0, .ptr 4 0, .ptr 6 0])]) :
    (∀ l, foldE (collect pf) [] (parts 44 s) = some l → ∃ last, runL cfg a110 kr110_0 T ⟨[oTerm0 s0 [], oTerm1 [], oTerm2 [], oTerm3 [], [.str s], [.str [44]], [.int .i64 0]], [], []⟩ = runL cfg a110 kr110_0.tail T ⟨[oTerm0 s0 l, oTerm1 l, oTerm2 l, oTerm3 l, [.str last], [.str [44]], [.int .i64 0]], tkR encM l, []⟩) ∧
    (foldE (collect pf) [] (parts 44 s) = none → ∃ H', runL cfg a110 kr110_0 T ⟨[oTerm0 s0 [], oTerm1 [], oTerm2 [], oTerm3 [], [.str s], [.str [44]], [.int .i64 0]], [], []⟩ = some (.pan (stopV 2), H')) := by
  let rc : LRec := ⟨a110, T, [7], ra110_0, rb110_0, false, 7, 0, 0⟩
  have hT12 : Has T [(1, .ptr 3 0), (2, .ptr 1 0)] := ⟨hT.2.1, hT.2.2.1, trivial⟩
  obtain ⟨r, hr, hs⟩ := seq_call (oTerm0 s0) oTerm1 oTerm2 oTerm3 (tkR encM) rc (stopV 2) (fun acc m => acc.length + m ≤ 2000) (collect pf)
    (fun a x a' m h hc => by
      unfold collect at hc
      split at hc
      · cases hc
      · simp only [Option.map_eq_some_iff] at hc
        obtain ⟨y, -, rfl⟩ := hc
        simp only [List.length_append, List.length_cons, List.length_nil]
        omega)
    (fun a p rest a' h1 h2 h3 => ylTerm s0 pf rc T rfl rfl rfl rfl rfl rfl rfl rfl hT12 hp a p rest a' h1 (by omega) h3)
    (fun a p rest h1 h2 h3 => ynTerm s0 pf rc T rfl rfl rfl rfl rfl rfl rfl rfl hT12 hpn a p rest h1 h3)
    s hl [] (by simp; omega)
  have hfv : ev T (.t 6) = .func 136 [.ptr 5 0, .ptr 4 0, .ptr 6 0] := hT.2.2.2.2.1
  have hcall : callV (lim cfg) (.func 136 [.ptr 5 0, .ptr 4 0, .ptr 6 0]) [.yield 0] (hS (oTerm0 s0) oTerm1 oTerm2 oTerm3 (tkR encM) rc [] s) = callE (lim cfg) 136 [.yield 0, .ptr 5 0, .ptr 4 0, .ptr 6 0] (hS (oTerm0 s0) oTerm1 oTerm2 oTerm3 (tkR encM) rc [] s) := by
    rw [callV_func]; rfl
  constructor
  · intro l hf
    simp only [SeqR, hf] at hs
    obtain ⟨last, rfl⟩ := hs
    refine ⟨last, ?_⟩
    have h1 : callV (lim cfg) (.func 136 [.ptr 5 0, .ptr 4 0, .ptr 6 0]) [.yield 0] (hS (oTerm0 s0) oTerm1 oTerm2 oTerm3 (tkR encM) rc [] s) = some (.val (.tuple []) (hS (oTerm0 s0) oTerm1 oTerm2 oTerm3 (tkR encM) rc l last)) := by
      rw [hcall]
      simp only [callE, hr]
      congr 2
      exact trTerm s0 rc rfl rfl l last 0 (by omega) (by intro h; cases h) (.tuple []) rfl
    have h2 : dropL 0 (hS (oTerm0 s0) oTerm1 oTerm2 oTerm3 (tkR encM) rc l last) = some ⟨[oTerm0 s0 l, oTerm1 l, oTerm2 l, oTerm3 l, [.str last], [.str [44]], [.int .i64 0]], tkR encM l, []⟩ := by
      exact dropL_of (r := rc) rfl rfl rfl (inTerm s0 l last)
    have h3 := rangeA_val (call := lim cfg) (A := a110) (T := T) (ps := [7]) (a := ra110_0) (b := rb110_0) (H := ⟨[oTerm0 s0 [], oTerm1 [], oTerm2 [], oTerm3 [], [.str s], [.str [44]], [.int .i64 0]], [], []⟩) h1 h2
    rw [← hfv] at h3
    exact runL_range rfl h3
  · intro hf
    simp only [SeqR, hf] at hs
    obtain ⟨a', last, rfl⟩ := hs
    have h1 : callV (lim cfg) (.func 136 [.ptr 5 0, .ptr 4 0, .ptr 6 0]) [.yield 0] (hS (oTerm0 s0) oTerm1 oTerm2 oTerm3 (tkR encM) rc [] s) = some (.pan (stopV 2) (hB (oTerm0 s0) oTerm1 oTerm2 oTerm3 (tkR encM) rc a' last)) := by
      rw [hcall]
      simp only [callE, hr]
      congr 2
      exact trTerm s0 { rc with busy := true } rfl rfl a' last 0 (by omega) (by intro h; cases h) (stopV 2) rfl
    have h2 : dropP 0 (hB (oTerm0 s0) oTerm1 oTerm2 oTerm3 (tkR encM) rc a' last) = some ⟨[oTerm0 s0 a', oTerm1 a', oTerm2 a', oTerm3 a', [.str last], [.str [44]], [.int .i64 0]], tkR encM a', []⟩ := by
      exact dropP_of (Nat.lt_add_one 0) rfl (inTerm s0 a' last)
    have h3 := rangeA_pan (call := lim cfg) (A := a110) (T := T) (ps := [7]) (a := ra110_0) (b := rb110_0) (H := ⟨[oTerm0 s0 [], oTerm1 [], oTerm2 [], oTerm3 [], [.str s], [.str [44]], [.int .i64 0]], [], []⟩) h1 rfl h2
    rw [← hfv] at h3
    exact ⟨_, runL_rangeP rfl h3⟩
end
theorem seq0Term (s : List UInt8) : ∃ v0 H0, lim cfg (.fn 103) [.str s, .str [44]] Heap.nil = some (.ret v0, H0) ∧ dataOut H0 v0 = none := by
  have h1 : lim cfg (.fn 124) [.str s, .str [44], .int .i64 0] Heap.nil = some (.ret (.func 136 [.ptr 1 0, .ptr 0 0, .ptr 2 0]), ⟨[[.str s], [.str [44]], [.int .i64 0]], [], []⟩) := by
    rw [l124]
    exact go 60 []  trivial  (.fin ((ARes.ret (AV.func (136 : Nat) [AV.ptr (1 : Nat) (0 : Nat), AV.ptr (0 : Nat) (0 : Nat), AV.ptr (2 : Nat) (0 : Nat)]), { boxes := [[AV.str s], [AV.str [(44 : UInt8)]], [AV.int IntKind.i64 (0 : Int)]], toks := [], loops := [] : Heap })) rfl) (by kernel_rfl)
  have hd : Does cfg (.call (.c (.func 124 [])) [.c (.str s), .c (.str [44]), .c (.int .i64 0)]) Heap.nil (.func 136 [.ptr 1 0, .ptr 0 0, .ptr 2 0]) ⟨[[.str s], [.str [44]], [.int .i64 0]], [], []⟩ :=
    does_callN h1 rfl h1 rfl rfl
  refine ⟨.func 136 [.ptr 1 0, .ptr 0 0, .ptr 2 0], ⟨[[.str s], [.str [44]], [.int .i64 0]], [], []⟩, ?_, rfl⟩
  rw [l103]
  exact go 60 []  trivial  (.effY (show Does cfg (AOp.call (Opd.c (AV.func (124 : FuncId) [])) [Opd.c (AV.str s), Opd.c (AV.str [(44 : UInt8)]), Opd.c (AV.int IntKind.i64 (0 : Int))]) Heap.nil (AV.func (136 : FuncId) [AV.ptr (1 : Nat) (0 : Nat), AV.ptr (0 : Nat) (0 : Nat), AV.ptr (2 : Nat) (0 : Nat)]) { boxes := [[AV.str s], [AV.str [(44 : UInt8)]], [AV.int IntKind.i64 (0 : Int)]], toks := [], loops := [] : Heap } from hd) <| .fin ((ARes.ret (AV.func (136 : Nat) [AV.ptr (1 : Nat) (0 : Nat), AV.ptr (0 : Nat) (0 : Nat), AV.ptr (2 : Nat) (0 : Nat)]), { boxes := [[AV.str s], [AV.str [(44 : UInt8)]], [AV.int IntKind.i64 (0 : Int)]], toks := [], loops := [] : Heap })) rfl) (by kernel_rfl)
theorem seq1Term (s0 s : List UInt8) : lim cfg (.fn 103) [.str s, .str [44]] ⟨[oTerm0 s0 [], oTerm1 [], oTerm2 [], oTerm3 []], [], []⟩ = some (.ret (.func 136 [.ptr 5 0, .ptr 4 0, .ptr 6 0]), ⟨[oTerm0 s0 [], oTerm1 [], oTerm2 [], oTerm3 [], [.str s], [.str [44]], [.int .i64 0]], [], []⟩) := by
  have h0 : lim cfg (.fn 124) [.str s, .str [44], .int .i64 0] Heap.nil = some (.ret (.func 136 [.ptr 1 0, .ptr 0 0, .ptr 2 0]), ⟨[[.str s], [.str [44]], [.int .i64 0]], [], []⟩) := by
    rw [l124]
    exact go 60 []  trivial  (.fin ((ARes.ret (AV.func (136 : Nat) [AV.ptr (1 : Nat) (0 : Nat), AV.ptr (0 : Nat) (0 : Nat), AV.ptr (2 : Nat) (0 : Nat)]), { boxes := [[AV.str s], [AV.str [(44 : UInt8)]], [AV.int IntKind.i64 (0 : Int)]], toks := [], loops := [] : Heap })) rfl) (by kernel_rfl)
  have h1 : lim cfg (.fn 124) [.str s, .str [44], .int .i64 0] ⟨[oTerm0 s0 [], oTerm1 [], oTerm2 [], oTerm3 []], [], []⟩ = some (.ret (.func 136 [.ptr 5 0, .ptr 4 0, .ptr 6 0]), ⟨[oTerm0 s0 [], oTerm1 [], oTerm2 [], oTerm3 [], [.str s], [.str [44]], [.int .i64 0]], [], []⟩) := by
    rw [l124]
    exact go 60 []  trivial  (.fin ((ARes.ret (AV.func (136 : Nat) [AV.ptr (5 : Nat) (0 : Nat), AV.ptr (4 : Nat) (0 : Nat), AV.ptr (6 : Nat) (0 : Nat)]), { boxes := [[AV.str s0], [AV.func (92 : Nat) []], [AV.func (95 : Nat) []], [AV.sl SK.full []], [AV.str s], [AV.str [(44 : UInt8)]], [AV.int IntKind.i64 (0 : Int)]], toks := [], loops := [] : Heap })) rfl) (by kernel_rfl)
  have hd : Does cfg (.call (.c (.func 124 [])) [.c (.str s), .c (.str [44]), .c (.int .i64 0)]) ⟨[oTerm0 s0 [], oTerm1 [], oTerm2 [], oTerm3 []], [], []⟩ (.func 136 [.ptr 5 0, .ptr 4 0, .ptr 6 0]) ⟨[oTerm0 s0 [], oTerm1 [], oTerm2 [], oTerm3 [], [.str s], [.str [44]], [.int .i64 0]], [], []⟩ :=
    does_callN h0 rfl h1 rfl rfl
  rw [l103]
  exact go 60 []  trivial  (.effY (show Does cfg (AOp.call (Opd.c (AV.func (124 : FuncId) [])) [Opd.c (AV.str s), Opd.c (AV.str [(44 : UInt8)]), Opd.c (AV.int IntKind.i64 (0 : Int))]) { boxes := [oTerm0 s0 [], oTerm1 [], oTerm2 [], oTerm3 []], toks := [], loops := [] : Heap } (AV.func (136 : FuncId) [AV.ptr (5 : Nat) (0 : Nat), AV.ptr (4 : Nat) (0 : Nat), AV.ptr (6 : Nat) (0 : Nat)]) { boxes := [oTerm0 s0 [], oTerm1 [], oTerm2 [], oTerm3 [], [AV.str s], [AV.str [(44 : UInt8)]], [AV.int IntKind.i64 (0 : Int)]], toks := [], loops := [] : Heap } from hd) <| .fin ((ARes.ret (AV.func (136 : Nat) [AV.ptr (5 : Nat) (0 : Nat), AV.ptr (4 : Nat) (0 : Nat), AV.ptr (6 : Nat) (0 : Nat)]), { boxes := [[AV.str s0], [AV.func (92 : Nat) []], [AV.func (95 : Nat) []], [AV.sl SK.full []], [AV.str s], [AV.str [(44 : UInt8)]], [AV.int IntKind.i64 (0 : Int)]], toks := [], loops := [] : Heap })) rfl) (by kernel_rfl)
theorem tryTerm (pf : List UInt8 → Option Term) (ck : List Term → Int) (hp : ∀ p x, p.length ≤ 1000 → pf p = some x → Gives cfg 92 [.str p] (encM x)) (hpn : ∀ p, p.length ≤ 1000 → p ≠ [] → pf p = none → Pans cfg 92 [.str p] (stopV 2))
    (hck : ∀ l : List Term, Gives cfg 95 [.sl .sh (l.map encM)] (.int .i64 (ck l))) (s : List UInt8) (hl : s.length ≤ 1000) :
    match foldE (collect pf) [] (parts 44 s) with
    | none => ∃ H', lim cfg (.fn 101) [.func 110 [.ptr 0 0, .ptr 3 0, .ptr 1 0, .ptr 2 0]] ⟨[oTerm0 s [], oTerm1 [], oTerm2 [], oTerm3 []], [], []⟩ = some (.ret (.int .i64 2), H')
    | some l => if ck l = 0 then ∃ last, lim cfg (.fn 101) [.func 110 [.ptr 0 0, .ptr 3 0, .ptr 1 0, .ptr 2 0]] ⟨[oTerm0 s [], oTerm1 [], oTerm2 [], oTerm3 []], [], []⟩ = some (.ret (.int .i64 0), ⟨[oTerm0 s l, oTerm1 l, oTerm2 l, oTerm3 l, [.str last], [.str [44]], [.int .i64 0]], tkR encM l, []⟩)
      else ∃ H', lim cfg (.fn 101) [.func 110 [.ptr 0 0, .ptr 3 0, .ptr 1 0, .ptr 2 0]] ⟨[oTerm0 s [], oTerm1 [], oTerm2 [], oTerm3 []], [], []⟩ = some (.ret (.int .i64 (ck l)), H') := by
  obtain ⟨v0, H0, h0, hn0⟩ := seq0Term s
  have hd : Does cfg (.call (.c (.func 103 [])) [.c (.str s), .c (.str [44])]) ⟨[oTerm0 s [], oTerm1 [], oTerm2 [], oTerm3 []], [], []⟩ (.func 136 [.ptr 5 0, .ptr 4 0, .ptr 6 0]) ⟨[oTerm0 s [], oTerm1 [], oTerm2 [], oTerm3 [], [.str s], [.str [44]], [.int .i64 0]], [], []⟩ :=
    does_callN h0 hn0 (seq1Term s s) rfl rfl
  have clo : ∀ R, (∀ T (hT : Has T [(0, .ptr 0 0), (1, .ptr 3 0), (2, .ptr 1 0), (3, .ptr 2 0), (6, .func 136 [.ptr 5 0, .ptr 4 0, .ptr 6 0])]), Goes cfg a110 kr110_0 T ⟨[oTerm0 s [], oTerm1 [], oTerm2 [], oTerm3 [], [.str s], [.str [44]], [.int .i64 0]], [], []⟩ R) →
      ∃ r, lim cfg (.fn 110) [.ptr 0 0, .ptr 3 0, .ptr 1 0, .ptr 2 0] ⟨[oTerm0 s [], oTerm1 [], oTerm2 [], oTerm3 []], [], []⟩ = some r ∧ R r := by
    intro R h
    rw [l110]
    have key : Goes cfg a110 [.c c110] (initEnv [.ptr 0 0, .ptr 3 0, .ptr 1 0, .ptr 2 0]) ⟨[oTerm0 s [], oTerm1 [], oTerm2 [], oTerm3 []], [], []⟩ R := by
      exact goG 60 []  trivial  (.effY (show Does cfg (AOp.call (Opd.c (AV.func (103 : FuncId) [])) [Opd.c (AV.str s), Opd.c (AV.str [(44 : UInt8)])]) { boxes := [oTerm0 s [], oTerm1 [], oTerm2 [], oTerm3 []], toks := [], loops := [] : Heap } (AV.func (136 : FuncId) [AV.ptr (5 : Nat) (0 : Nat), AV.ptr (4 : Nat) (0 : Nat), AV.ptr (6 : Nat) (0 : Nat)]) { boxes := [oTerm0 s [], oTerm1 [], oTerm2 [], oTerm3 [], [AV.str s], [AV.str [(44 : UInt8)]], [AV.int IntKind.i64 (0 : Int)]], toks := [], loops := [] : Heap } from hd) <| .cutQ kr110_0 [(0, AV.ptr (0 : Nat) (0 : Nat)), (1, AV.ptr (3 : Nat) (0 : Nat)), (2, AV.ptr (1 : Nat) (0 : Nat)), (3, AV.ptr (2 : Nat) (0 : Nat)), (6, AV.func (136 : Nat) [AV.ptr (5 : Nat) (0 : Nat), AV.ptr (4 : Nat) (0 : Nat), AV.ptr (6 : Nat) (0 : Nat)])] ({ boxes := [[AV.str s], [AV.func (92 : Nat) []], [AV.func (95 : Nat) []], [AV.sl SK.full []], [AV.str s], [AV.str [(44 : UInt8)]], [AV.int IntKind.i64 (0 : Int)]], toks := [], loops := [] : Heap }) (fun T hT => (h T hT))) (by kernel_rfl)
    exact key
  cases hf : foldE (collect pf) [] (parts 44 s) with
  | none =>
    obtain ⟨r, h1, h2⟩ := clo (fun r => r.1 = .pan (stopV 2)) (fun T hT => by
      obtain ⟨H', e⟩ := (rgTerm s pf hp hpn s hl T hT).2 hf
      exact ⟨_, e, rfl⟩)
    obtain ⟨x, H'⟩ := r
    simp only at h2
    subst h2
    exact ⟨H', by rw [lim_try rfl, h1]; rfl⟩
  | some l =>
    simp only
    have hg := hck l
    by_cases hc : ck l = 0
    · rw [if_pos hc]
      rw [hc] at hg
      obtain ⟨r, h1, h2⟩ := clo (fun r => ∃ last, r = (.ret (.tuple []), ⟨[oTerm0 s l, oTerm1 l, oTerm2 l, oTerm3 l, [.str last], [.str [44]], [.int .i64 0]], tkR encM l, []⟩)) (fun T hT => by
        obtain ⟨last, e⟩ := (rgTerm s pf hp hpn s hl T hT).1 l hf
        have key : Goes cfg a110 kr110_0.tail T ⟨[oTerm0 s l, oTerm1 l, oTerm2 l, oTerm3 l, [.str last], [.str [44]], [.int .i64 0]], tkR encM l, []⟩ (fun r => r = (.ret (.tuple []), ⟨[oTerm0 s l, oTerm1 l, oTerm2 l, oTerm3 l, [.str last], [.str [44]], [.int .i64 0]], tkR encM l, []⟩)) := by
          exact goG 60 _  hT  (.callG ([AV.sl (skF l) (List.map encM l)]) (AV.int IntKind.i64 (0 : Int)) (show Gives cfg (95 : FuncId) [AV.sl SK.sh (List.map encM l)] (AV.int IntKind.i64 (0 : Int)) from hg) Shuts.p ⟨rfl, rfl⟩ <| .callG ([AV.int IntKind.i64 (0 : Int)]) (AV.tuple []) (show Gives cfg (76 : FuncId) [AV.int IntKind.i64 (0 : Int)] (AV.tuple []) from stop_ok) ⟨rfl, rfl⟩ ⟨rfl, rfl⟩ <| .fin ((ARes.ret (AV.tuple []), { boxes := [[AV.str s], [AV.func (92 : Nat) []], [AV.func (95 : Nat) []], [AV.sl (skF l) (List.map encM l)], [AV.str last], [AV.str [(44 : UInt8)]], [AV.int IntKind.i64 (0 : Int)]], toks := tkR encM l, loops := [] : Heap })) rfl) (by kernel_rfl)
        obtain ⟨r, k1, k2⟩ := key
        exact ⟨r, e.trans k1, last, k2⟩)
      obtain ⟨last, rfl⟩ := h2
      exact ⟨last, by rw [lim_try rfl, h1]; rfl⟩
    · rw [if_neg hc]
      obtain ⟨r, h1, h2⟩ := clo (fun r => r.1 = .pan (stopV (ck l))) (fun T hT => by
        obtain ⟨last, e⟩ := (rgTerm s pf hp hpn s hl T hT).1 l hf
        have hst := stop_pan hc
        have key : Goes cfg a110 kr110_0.tail T ⟨[oTerm0 s l, oTerm1 l, oTerm2 l, oTerm3 l, [.str last], [.str [44]], [.int .i64 0]], tkR encM l, []⟩ (fun r => r.1 = .pan (stopV (ck l))) := by
          exact goG 60 _  hT  (.callG ([AV.sl (skF l) (List.map encM l)]) (AV.int IntKind.i64 (ck l)) (show Gives cfg (95 : FuncId) [AV.sl SK.sh (List.map encM l)] (AV.int IntKind.i64 (ck l)) from hg) Shuts.p ⟨rfl, rfl⟩ <| .callP ([AV.int IntKind.i64 (ck l)]) ({ boxes := [[AV.str s], [AV.func (92 : Nat) []], [AV.func (95 : Nat) []], [AV.sl (skF l) (List.map encM l)], [AV.str last], [AV.str [(44 : UInt8)]], [AV.int IntKind.i64 (0 : Int)]], toks := tkR encM l, loops := [] : Heap }) (show Pans cfg (76 : FuncId) [AV.int IntKind.i64 (ck l)] (stopV (ck l)) from hst) ⟨rfl, rfl⟩ rfl rfl) (by kernel_rfl)
        obtain ⟨r, k1, k2⟩ := key
        exact ⟨r, e.trans k1, k2⟩)
      obtain ⟨x, H'⟩ := r
      simp only at h2
      subst h2
      exact ⟨H', by rw [lim_try rfl, h1]; rfl⟩
theorem partsTerm (pf : List UInt8 → Option Term) (ck : List Term → Int) (hp : ∀ p x, p.length ≤ 1000 → pf p = some x → Gives cfg 92 [.str p] (encM x)) (hpn : ∀ p, p.length ≤ 1000 → p ≠ [] → pf p = none → Pans cfg 92 [.str p] (stopV 2))
    (hck : ∀ l : List Term, Gives cfg 95 [.sl .sh (l.map encM)] (.int .i64 (ck l))) (s : List UInt8) (hl : s.length ≤ 1000) :
    Gives cfg 91 [.str s, .func 92 [], .func 95 []] (.tuple [rowF encM (parsed pf ck s).1, .int .i64 (parsed pf ck s).2]) := by
  refine Gives.run (l91 _ _) ?_
  by_cases hs : s = [45]
  · subst hs
    exact goG 60 []  trivial  (.tt <| .fin ((ARes.ret (AV.tuple [AV.sl SK.full [], AV.int IntKind.i64 (0 : Int)]), { boxes := [[AV.str [(45 : UInt8)]], [AV.func (92 : Nat) []], [AV.func (95 : Nat) []]], toks := [], loops := [] : Heap })) rfl) (by kernel_rfl)
  · have ht := tryTerm pf ck hp hpn hck s hl
    simp only [parsed, if_neg hs]
    cases hf : foldE (collect pf) [] (parts 44 s) with
    | none =>
      simp only [hf] at ht ⊢
      obtain ⟨H', ht⟩ := ht
      have hd := does_callE (xs := [.func 110 [.ptr 0 0, .ptr 3 0, .ptr 1 0, .ptr 2 0]]) (caps := []) ht rfl rfl
      generalize trunc _ _ _ H' = H2 at hd
      exact goG 60 []  trivial  (.no (show (s == [(45 : UInt8)]) = false from Bool.eq_false_iff.2 (show ¬ ((s == [(45 : UInt8)]) = true) from (by simpa using hs))) <| .effY (show Does cfg (AOp.call (Opd.c (AV.func (101 : FuncId) [])) (List.map Opd.c [AV.func (110 : FuncId) [AV.ptr (0 : Nat) (0 : Nat), AV.ptr (3 : Nat) (0 : Nat), AV.ptr (1 : Nat) (0 : Nat), AV.ptr (2 : Nat) (0 : Nat)]])) { boxes := [oTerm0 s [], oTerm1 [], oTerm2 [], oTerm3 []], toks := [], loops := [] : Heap } (shutA (AV.int IntKind.i64 (2 : Int))) H2 from hd) <| .tt <| .fin ((ARes.ret (AV.tuple [AV.sl SK.full [], AV.int IntKind.i64 (2 : Int)]), H2)) rfl) (by kernel_rfl)
    | some l =>
      simp only [hf] at ht ⊢
      by_cases hc : ck l = 0
      · rw [if_pos hc] at ht
        simp only [if_pos hc]
        obtain ⟨last, ht⟩ := ht
        have hd : Does cfg (.call (.c (.func 101 [])) [.c (.func 110 [.ptr 0 0, .ptr 3 0, .ptr 1 0, .ptr 2 0])]) ⟨[oTerm0 s [], oTerm1 [], oTerm2 [], oTerm3 []], [], []⟩ (.int .i64 0) ⟨[oTerm0 s l, oTerm1 l, oTerm2 l, oTerm3 l], tkR encM l, []⟩ := by
          have hd := does_callE (xs := [.func 110 [.ptr 0 0, .ptr 3 0, .ptr 1 0, .ptr 2 0]]) (caps := []) ht rfl rfl
          refine Eq.mp ?_ hd
          congr 1
          cases l <;> rfl
        exact goG 60 []  trivial  (.no (show (s == [(45 : UInt8)]) = false from Bool.eq_false_iff.2 (show ¬ ((s == [(45 : UInt8)]) = true) from (by simpa using hs))) <| .effY (show Does cfg (AOp.call (Opd.c (AV.func (101 : FuncId) [])) [Opd.c (AV.func (110 : FuncId) [AV.ptr (0 : Nat) (0 : Nat), AV.ptr (3 : Nat) (0 : Nat), AV.ptr (1 : Nat) (0 : Nat), AV.ptr (2 : Nat) (0 : Nat)])]) { boxes := [oTerm0 s [], oTerm1 [], oTerm2 [], oTerm3 []], toks := [], loops := [] : Heap } (AV.int IntKind.i64 (0 : Int)) { boxes := [oTerm0 s l, oTerm1 l, oTerm2 l, oTerm3 l], toks := tkR encM l, loops := [] : Heap } from hd) <| .ff <| .fin ((ARes.ret (AV.tuple [AV.sl (skF l) (List.map encM l), AV.int IntKind.i64 (0 : Int)]), { boxes := [[AV.str s], [AV.func (92 : Nat) []], [AV.func (95 : Nat) []], [AV.sl (skF l) (List.map encM l)]], toks := tkR encM l, loops := [] : Heap })) rfl) (by kernel_rfl)
      · rw [if_neg hc] at ht
        simp only [if_neg hc]
        obtain ⟨H', ht⟩ := ht
        have hd := does_callE (xs := [.func 110 [.ptr 0 0, .ptr 3 0, .ptr 1 0, .ptr 2 0]]) (caps := []) ht rfl rfl
        generalize trunc _ _ _ H' = H2 at hd
        exact goG 60 []  trivial  (.no (show (s == [(45 : UInt8)]) = false from Bool.eq_false_iff.2 (show ¬ ((s == [(45 : UInt8)]) = true) from (by simpa using hs))) <| .effY (show Does cfg (AOp.call (Opd.c (AV.func (101 : FuncId) [])) (List.map Opd.c [AV.func (110 : FuncId) [AV.ptr (0 : Nat) (0 : Nat), AV.ptr (3 : Nat) (0 : Nat), AV.ptr (1 : Nat) (0 : Nat), AV.ptr (2 : Nat) (0 : Nat)]])) { boxes := [oTerm0 s [], oTerm1 [], oTerm2 [], oTerm3 []], toks := [], loops := [] : Heap } (shutA (AV.int IntKind.i64 (ck l))) H2 from hd) <| .yes (show (ck l != (0 : Int)) = true from (by simpa using hc)) <| .fin ((ARes.ret (AV.tuple [AV.sl SK.full [], AV.int IntKind.i64 (ck l)]), H2)) rfl) (by kernel_rfl)
end Go.Aa.T

set_option linter.unusedVariables false
set_option linter.unusedSimpArgs false
set_option maxRecDepth 100000
namespace Go.Aa.T
open Go.Aa Go.Proofs

section
variable {H : Heap} {k : Nat} {p : Taint → Bool}
end


end Go.Aa.T

set_option linter.unusedVariables false
set_option linter.unusedSimpArgs false
set_option maxRecDepth 100000
namespace Go.Aa.T
open Go.Aa Go.Proofs
theorem contains_yes (a : List UInt8) (c : UInt8) (h : c ∈ a) : Gives cfg 75 [.str a, .str [c]] (.bool true) := by
  obtain ⟨x, y, hc⟩ : ∃ x y, cutAt c a = some (x, y) := by
    cases hc : cutAt c a with
    | none => exact absurd h (cutAt_none hc)
    | some p => exact ⟨p.1, p.2, rfl⟩
  obtain ⟨rfl, hx⟩ := cutAt_some hc
  have hi : Gives cfg 105 [.str (x ++ c :: y), .str [c]] (.int .i64 (x.length : Nat)) := by
    have := index1 105 (x ++ c :: y) c rfl rfl
    rwa [ib_at hx] at this
  refine Gives.run (l75 _ _) ?_
  exact goG 60 []  trivial  (.callG ([AV.str (x ++ c :: y), AV.str [c]]) (AV.int IntKind.i64 (↑x.length : Int)) (show Gives cfg (105 : FuncId) [AV.str (x ++ c :: y), AV.str [c]] (AV.int IntKind.i64 (↑x.length : Int)) from hi) ⟨rfl, rfl⟩ ⟨rfl, rfl⟩ <| .fin ((ARes.ret (AV.bool (decide ((0 : Int) ≤ (↑x.length : Int)))), { boxes := [], toks := [], loops := [] : Heap })) rfl) (by kernel_rfl)

def partP (w : List UInt8) : Option Pair := match cutAt 58 w with
  | none => none
  | some (a, b) => if 58 ∈ b then none else some ⟨a, b⟩
def nSigns (w : List UInt8) : Nat := Lib.countByte w 58 + Lib.countByte w 33
def partM (w : List UInt8) : Option Term :=
  if nSigns w > 1 ∨ (nSigns w > 0 ∧ w.head? = some 45) then none
  else if w.head? = some 45 then some ⟨4, w.tail, []⟩
  else match cutAt 58 w with
  | some (a, b) => some ⟨1, a, b⟩
  | none => match cutAt 33 w with
    | some (a, b) => some ⟨2, a, b⟩
    | none => some ⟨3, w, []⟩
theorem stop2 : Pans cfg 76 [.int .i64 2] (stopV 2) := stop_pan (by decide)
theorem cut_len {w a b : List UInt8} {c : UInt8} (h : cutAt c w = some (a, b)) : w.length = a.length + 1 + b.length := by
  rw [(cutAt_some h).1]; simp; omega
theorem partP_run (w : List UInt8) (hl : w.length ≤ 1000) : (∀ x, partP w = some x → Gives cfg 89 [.str w] (encP x)) ∧ (partP w = none → Pans cfg 89 [.str w] (stopV 2)) := by
  cases hc : cutAt 58 w with
  | none =>
    have h := cut_miss w 58 (cutAt_none hc)
    refine ⟨fun x hx => by simp [partP, hc] at hx, fun _ => ?_⟩
    refine Pans.run (l89 _ _) ?_
    exact goG 60 []  trivial  (.callG ([AV.str w, AV.str [(58 : UInt8)]]) (AV.tuple [AV.str w, AV.str [], AV.bool false]) (show Gives cfg (74 : FuncId) [AV.str w, AV.str [(58 : UInt8)]] (AV.tuple [AV.str w, AV.str [], AV.bool false]) from h) ⟨rfl, rfl⟩ ⟨rfl, rfl⟩ <| .tt <| .tt <| .callP ([AV.int IntKind.i64 (2 : Int)]) ({ boxes := [[AV.str [], AV.str []]], toks := [], loops := [] : Heap }) (show Pans cfg (76 : FuncId) [AV.int IntKind.i64 (2 : Int)] (stopV (2 : Int)) from stop2) ⟨rfl, rfl⟩ rfl rfl) (by kernel_rfl)
  | some p =>
    obtain ⟨a, b⟩ := p
    obtain ⟨rfl, hn⟩ := cutAt_some hc
    have hlen := cut_len hc
    have h := cut_hit a b 58 hn (by omega)
    by_cases hb : 58 ∈ b
    · have h2 := contains_yes b 58 hb
      refine ⟨fun x hx => by simp [partP, hc, hb] at hx, fun _ => ?_⟩
      refine Pans.run (l89 _ _) ?_
      exact goG 60 []  trivial  (.callG ([AV.str (a ++ (58 : UInt8) :: b), AV.str [(58 : UInt8)]]) (AV.tuple [AV.str a, AV.str b, AV.bool true]) (show Gives cfg (74 : FuncId) [AV.str (a ++ (58 : UInt8) :: b), AV.str [(58 : UInt8)]] (AV.tuple [AV.str a, AV.str b, AV.bool true]) from h) ⟨rfl, rfl⟩ ⟨rfl, rfl⟩ <| .ff <| .callG ([AV.str b, AV.str [(58 : UInt8)]]) (AV.bool true) (show Gives cfg (75 : FuncId) [AV.str b, AV.str [(58 : UInt8)]] (AV.bool true) from h2) ⟨rfl, rfl⟩ ⟨rfl, rfl⟩ <| .tt <| .callP ([AV.int IntKind.i64 (2 : Int)]) ({ boxes := [[AV.str [], AV.str []]], toks := [], loops := [] : Heap }) (show Pans cfg (76 : FuncId) [AV.int IntKind.i64 (2 : Int)] (stopV (2 : Int)) from stop2) ⟨rfl, rfl⟩ rfl rfl) (by kernel_rfl)
    · have h2 := contains_no b 58 hb
      refine ⟨fun x hx => ?_, fun hx => by simp [partP, hc, hb] at hx⟩
      have e : x = ⟨a, b⟩ := by simpa [partP, hc, hb] using hx.symm
      subst e
      refine Gives.run (l89 _ _) ?_
      exact goG 60 []  trivial  (.callG ([AV.str (a ++ (58 : UInt8) :: b), AV.str [(58 : UInt8)]]) (AV.tuple [AV.str a, AV.str b, AV.bool true]) (show Gives cfg (74 : FuncId) [AV.str (a ++ (58 : UInt8) :: b), AV.str [(58 : UInt8)]] (AV.tuple [AV.str a, AV.str b, AV.bool true]) from h) ⟨rfl, rfl⟩ ⟨rfl, rfl⟩ <| .ff <| .callG ([AV.str b, AV.str [(58 : UInt8)]]) (AV.bool false) (show Gives cfg (75 : FuncId) [AV.str b, AV.str [(58 : UInt8)]] (AV.bool false) from h2) ⟨rfl, rfl⟩ ⟨rfl, rfl⟩ <| .ff <| .fin ((ARes.ret (AV.agg [AV.str a, AV.str b]), { boxes := [[AV.str a, AV.str b]], toks := [], loops := [] : Heap })) rfl) (by kernel_rfl)
theorem partM_run (w : List UInt8) (hl : w.length ≤ 1000) : (∀ x, partM w = some x → Gives cfg 92 [.str w] (encM x)) ∧ (partM w = none → Pans cfg 92 [.str w] (stopV 2)) := by
  have hs := signs_any w (nSigns w) rfl hl
  by_cases hh : w.head? = some 45
  · obtain ⟨r, rfl⟩ : ∃ r, w = 45 :: r := by
      cases w with
      | nil => cases hh
      | cons b r => simp only [List.head?_cons, Option.some.injEq] at hh; exact ⟨r, by rw [hh]⟩
    have hp := prefix_hit r 45 (by simp at hl; omega)
    by_cases hn : nSigns (45 :: r) > 0
    · refine ⟨fun x hx => by simp [partM, hn] at hx, fun _ => ?_⟩
      refine Pans.run (l92 _ _) ?_
      exact goG 60 []  trivial  (.callG ([AV.str ((45 : UInt8) :: r), AV.str [(45 : UInt8)]]) (AV.tuple [AV.str r, AV.bool true]) (show Gives cfg (93 : FuncId) [AV.str ((45 : UInt8) :: r), AV.str [(45 : UInt8)]] (AV.tuple [AV.str r, AV.bool true]) from hp) ⟨rfl, rfl⟩ ⟨rfl, rfl⟩ <| .callG ([AV.str ((45 : UInt8) :: r)]) (AV.int IntKind.i64 (↑(nSigns ((45 : UInt8) :: r)) : Int)) (show Gives cfg (94 : FuncId) [AV.str ((45 : UInt8) :: r)] (AV.int IntKind.i64 (↑(nSigns ((45 : UInt8) :: r)) : Int)) from hs) ⟨rfl, rfl⟩ ⟨rfl, rfl⟩ <| .split ((1 : Int) < (↑(nSigns ((45 : UInt8) :: r)) : Int)) (fun h1 => .yes (show (decide ((1 : Int) < (↑(nSigns ((45 : UInt8) :: r)) : Int))) = true from decide_eq_true (show (1 : Int) < (↑(nSigns ((45 : UInt8) :: r)) : Int) from h1)) <| .tt <| .callP ([AV.int IntKind.i64 (2 : Int)]) ({ boxes := [[AV.int IntKind.i64 (0 : Int), AV.str [], AV.str []]], toks := [], loops := [] : Heap }) (show Pans cfg (76 : FuncId) [AV.int IntKind.i64 (2 : Int)] (stopV (2 : Int)) from stop2) ⟨rfl, rfl⟩ rfl rfl) (fun h1 => .no (show (decide ((1 : Int) < (↑(nSigns ((45 : UInt8) :: r)) : Int))) = false from decide_eq_false (show ¬ ((1 : Int) < (↑(nSigns ((45 : UInt8) :: r)) : Int)) from h1)) <| .yes (show (decide ((0 : Int) < (↑(nSigns ((45 : UInt8) :: r)) : Int))) = true from decide_eq_true (show (0 : Int) < (↑(nSigns ((45 : UInt8) :: r)) : Int) from (by omega))) <| .tt <| .callP ([AV.int IntKind.i64 (2 : Int)]) ({ boxes := [[AV.int IntKind.i64 (0 : Int), AV.str [], AV.str []]], toks := [], loops := [] : Heap }) (show Pans cfg (76 : FuncId) [AV.int IntKind.i64 (2 : Int)] (stopV (2 : Int)) from stop2) ⟨rfl, rfl⟩ rfl rfl)) (by kernel_rfl)
    · refine ⟨fun x hx => ?_, fun hx => by simp [partM, hn, show ¬ 1 < nSigns (45 :: r) by omega] at hx⟩
      have e : x = ⟨4, r, []⟩ := by simpa [partM, hn, show ¬ 1 < nSigns (45 :: r) by omega] using hx.symm
      subst e
      refine Gives.run (l92 _ _) ?_
      exact goG 60 []  trivial  (.callG ([AV.str ((45 : UInt8) :: r), AV.str [(45 : UInt8)]]) (AV.tuple [AV.str r, AV.bool true]) (show Gives cfg (93 : FuncId) [AV.str ((45 : UInt8) :: r), AV.str [(45 : UInt8)]] (AV.tuple [AV.str r, AV.bool true]) from hp) ⟨rfl, rfl⟩ ⟨rfl, rfl⟩ <| .callG ([AV.str ((45 : UInt8) :: r)]) (AV.int IntKind.i64 (↑(nSigns ((45 : UInt8) :: r)) : Int)) (show Gives cfg (94 : FuncId) [AV.str ((45 : UInt8) :: r)] (AV.int IntKind.i64 (↑(nSigns ((45 : UInt8) :: r)) : Int)) from hs) ⟨rfl, rfl⟩ ⟨rfl, rfl⟩ <| .no (show (decide ((1 : Int) < (↑(nSigns ((45 : UInt8) :: r)) : Int))) = false from decide_eq_false (show ¬ ((1 : Int) < (↑(nSigns ((45 : UInt8) :: r)) : Int)) from (by omega))) <| .no (show (decide ((0 : Int) < (↑(nSigns ((45 : UInt8) :: r)) : Int))) = false from decide_eq_false (show ¬ ((0 : Int) < (↑(nSigns ((45 : UInt8) :: r)) : Int)) from (by omega))) <| .ff <| .tt <| .fin ((ARes.ret (AV.agg [AV.int IntKind.i64 (4 : Int), AV.str r, AV.str []]), { boxes := [[AV.int IntKind.i64 (4 : Int), AV.str r, AV.str []]], toks := [], loops := [] : Heap })) rfl) (by kernel_rfl)
  · have hp := prefix_miss w 45 hh hl
    by_cases hn : nSigns w > 1
    · refine ⟨fun x hx => by simp [partM, hn] at hx, fun _ => ?_⟩
      refine Pans.run (l92 _ _) ?_
      exact goG 60 []  trivial  (.callG ([AV.str w, AV.str [(45 : UInt8)]]) (AV.tuple [AV.str w, AV.bool false]) (show Gives cfg (93 : FuncId) [AV.str w, AV.str [(45 : UInt8)]] (AV.tuple [AV.str w, AV.bool false]) from hp) ⟨rfl, rfl⟩ ⟨rfl, rfl⟩ <| .callG ([AV.str w]) (AV.int IntKind.i64 (↑(nSigns w) : Int)) (show Gives cfg (94 : FuncId) [AV.str w] (AV.int IntKind.i64 (↑(nSigns w) : Int)) from hs) ⟨rfl, rfl⟩ ⟨rfl, rfl⟩ <| .yes (show (decide ((1 : Int) < (↑(nSigns w) : Int))) = true from decide_eq_true (show (1 : Int) < (↑(nSigns w) : Int) from (by omega))) <| .tt <| .callP ([AV.int IntKind.i64 (2 : Int)]) ({ boxes := [[AV.int IntKind.i64 (0 : Int), AV.str [], AV.str []]], toks := [], loops := [] : Heap }) (show Pans cfg (76 : FuncId) [AV.int IntKind.i64 (2 : Int)] (stopV (2 : Int)) from stop2) ⟨rfl, rfl⟩ rfl rfl) (by kernel_rfl)
    · cases hc : cutAt 58 w with
      | some p =>
        obtain ⟨a, b⟩ := p
        refine ⟨fun x hx => ?_, fun hx => by simp [partM, hn, hh, hc] at hx⟩
        have e : x = ⟨1, a, b⟩ := by simpa [partM, hn, hh, hc] using hx.symm
        subst e
        have hlen := cut_len hc
        obtain ⟨rfl, hm⟩ := cutAt_some hc
        have h := cut_hit a b 58 hm (by omega)
        refine Gives.run (l92 _ _) ?_
        exact goG 60 []  trivial  (.callG ([AV.str (a ++ (58 : UInt8) :: b), AV.str [(45 : UInt8)]]) (AV.tuple [AV.str (a ++ (58 : UInt8) :: b), AV.bool false]) (show Gives cfg (93 : FuncId) [AV.str (a ++ (58 : UInt8) :: b), AV.str [(45 : UInt8)]] (AV.tuple [AV.str (a ++ (58 : UInt8) :: b), AV.bool false]) from hp) ⟨rfl, rfl⟩ ⟨rfl, rfl⟩ <| .callG ([AV.str (a ++ (58 : UInt8) :: b)]) (AV.int IntKind.i64 (↑(nSigns (a ++ (58 : UInt8) :: b)) : Int)) (show Gives cfg (94 : FuncId) [AV.str (a ++ (58 : UInt8) :: b)] (AV.int IntKind.i64 (↑(nSigns (a ++ (58 : UInt8) :: b)) : Int)) from hs) ⟨rfl, rfl⟩ ⟨rfl, rfl⟩ <| .no (show (decide ((1 : Int) < (↑(nSigns (a ++ (58 : UInt8) :: b)) : Int))) = false from decide_eq_false (show ¬ ((1 : Int) < (↑(nSigns (a ++ (58 : UInt8) :: b)) : Int)) from (by omega))) <| .split ((0 : Int) < (↑(nSigns (a ++ (58 : UInt8) :: b)) : Int)) (fun h1 => .yes (show (decide ((0 : Int) < (↑(nSigns (a ++ (58 : UInt8) :: b)) : Int))) = true from decide_eq_true (show (0 : Int) < (↑(nSigns (a ++ (58 : UInt8) :: b)) : Int) from h1)) <| .ff <| .ff <| .callG ([AV.str (a ++ (58 : UInt8) :: b), AV.str [(58 : UInt8)]]) (AV.tuple [AV.str a, AV.str b, AV.bool true]) (show Gives cfg (74 : FuncId) [AV.str (a ++ (58 : UInt8) :: b), AV.str [(58 : UInt8)]] (AV.tuple [AV.str a, AV.str b, AV.bool true]) from h) ⟨rfl, rfl⟩ ⟨rfl, rfl⟩ <| .tt <| .fin ((ARes.ret (AV.agg [AV.int IntKind.i64 (1 : Int), AV.str a, AV.str b]), { boxes := [[AV.int IntKind.i64 (1 : Int), AV.str a, AV.str b]], toks := [], loops := [] : Heap })) rfl) (fun h1 => .no (show (decide ((0 : Int) < (↑(nSigns (a ++ (58 : UInt8) :: b)) : Int))) = false from decide_eq_false (show ¬ ((0 : Int) < (↑(nSigns (a ++ (58 : UInt8) :: b)) : Int)) from h1)) <| .ff <| .ff <| .callG ([AV.str (a ++ (58 : UInt8) :: b), AV.str [(58 : UInt8)]]) (AV.tuple [AV.str a, AV.str b, AV.bool true]) (show Gives cfg (74 : FuncId) [AV.str (a ++ (58 : UInt8) :: b), AV.str [(58 : UInt8)]] (AV.tuple [AV.str a, AV.str b, AV.bool true]) from h) ⟨rfl, rfl⟩ ⟨rfl, rfl⟩ <| .tt <| .fin ((ARes.ret (AV.agg [AV.int IntKind.i64 (1 : Int), AV.str a, AV.str b]), { boxes := [[AV.int IntKind.i64 (1 : Int), AV.str a, AV.str b]], toks := [], loops := [] : Heap })) rfl)) (by kernel_rfl)
      | none =>
        have h := cut_miss w 58 (cutAt_none hc)
        cases hc2 : cutAt 33 w with
        | some p =>
          obtain ⟨a, b⟩ := p
          refine ⟨fun x hx => ?_, fun hx => by simp [partM, hn, hh, hc, hc2] at hx⟩
          have e : x = ⟨2, a, b⟩ := by simpa [partM, hn, hh, hc, hc2] using hx.symm
          subst e
          have hlen := cut_len hc2
          obtain ⟨rfl, hm⟩ := cutAt_some hc2
          have h2 := cut_hit a b 33 hm (by omega)
          refine Gives.run (l92 _ _) ?_
          exact goG 60 []  trivial  (.callG ([AV.str (a ++ (33 : UInt8) :: b), AV.str [(45 : UInt8)]]) (AV.tuple [AV.str (a ++ (33 : UInt8) :: b), AV.bool false]) (show Gives cfg (93 : FuncId) [AV.str (a ++ (33 : UInt8) :: b), AV.str [(45 : UInt8)]] (AV.tuple [AV.str (a ++ (33 : UInt8) :: b), AV.bool false]) from hp) ⟨rfl, rfl⟩ ⟨rfl, rfl⟩ <| .callG ([AV.str (a ++ (33 : UInt8) :: b)]) (AV.int IntKind.i64 (↑(nSigns (a ++ (33 : UInt8) :: b)) : Int)) (show Gives cfg (94 : FuncId) [AV.str (a ++ (33 : UInt8) :: b)] (AV.int IntKind.i64 (↑(nSigns (a ++ (33 : UInt8) :: b)) : Int)) from hs) ⟨rfl, rfl⟩ ⟨rfl, rfl⟩ <| .no (show (decide ((1 : Int) < (↑(nSigns (a ++ (33 : UInt8) :: b)) : Int))) = false from decide_eq_false (show ¬ ((1 : Int) < (↑(nSigns (a ++ (33 : UInt8) :: b)) : Int)) from (by omega))) <| .split ((0 : Int) < (↑(nSigns (a ++ (33 : UInt8) :: b)) : Int)) (fun h1 => .yes (show (decide ((0 : Int) < (↑(nSigns (a ++ (33 : UInt8) :: b)) : Int))) = true from decide_eq_true (show (0 : Int) < (↑(nSigns (a ++ (33 : UInt8) :: b)) : Int) from h1)) <| .ff <| .ff <| .callG ([AV.str (a ++ (33 : UInt8) :: b), AV.str [(58 : UInt8)]]) (AV.tuple [AV.str (a ++ (33 : UInt8) :: b), AV.str [], AV.bool false]) (show Gives cfg (74 : FuncId) [AV.str (a ++ (33 : UInt8) :: b), AV.str [(58 : UInt8)]] (AV.tuple [AV.str (a ++ (33 : UInt8) :: b), AV.str [], AV.bool false]) from h) ⟨rfl, rfl⟩ ⟨rfl, rfl⟩ <| .ff <| .callG ([AV.str (a ++ (33 : UInt8) :: b), AV.str [(33 : UInt8)]]) (AV.tuple [AV.str a, AV.str b, AV.bool true]) (show Gives cfg (74 : FuncId) [AV.str (a ++ (33 : UInt8) :: b), AV.str [(33 : UInt8)]] (AV.tuple [AV.str a, AV.str b, AV.bool true]) from h2) ⟨rfl, rfl⟩ ⟨rfl, rfl⟩ <| .tt <| .fin ((ARes.ret (AV.agg [AV.int IntKind.i64 (2 : Int), AV.str a, AV.str b]), { boxes := [[AV.int IntKind.i64 (2 : Int), AV.str a, AV.str b]], toks := [], loops := [] : Heap })) rfl) (fun h1 => .no (show (decide ((0 : Int) < (↑(nSigns (a ++ (33 : UInt8) :: b)) : Int))) = false from decide_eq_false (show ¬ ((0 : Int) < (↑(nSigns (a ++ (33 : UInt8) :: b)) : Int)) from h1)) <| .ff <| .ff <| .callG ([AV.str (a ++ (33 : UInt8) :: b), AV.str [(58 : UInt8)]]) (AV.tuple [AV.str (a ++ (33 : UInt8) :: b), AV.str [], AV.bool false]) (show Gives cfg (74 : FuncId) [AV.str (a ++ (33 : UInt8) :: b), AV.str [(58 : UInt8)]] (AV.tuple [AV.str (a ++ (33 : UInt8) :: b), AV.str [], AV.bool false]) from h) ⟨rfl, rfl⟩ ⟨rfl, rfl⟩ <| .ff <| .callG ([AV.str (a ++ (33 : UInt8) :: b), AV.str [(33 : UInt8)]]) (AV.tuple [AV.str a, AV.str b, AV.bool true]) (show Gives cfg (74 : FuncId) [AV.str (a ++ (33 : UInt8) :: b), AV.str [(33 : UInt8)]] (AV.tuple [AV.str a, AV.str b, AV.bool true]) from h2) ⟨rfl, rfl⟩ ⟨rfl, rfl⟩ <| .tt <| .fin ((ARes.ret (AV.agg [AV.int IntKind.i64 (2 : Int), AV.str a, AV.str b]), { boxes := [[AV.int IntKind.i64 (2 : Int), AV.str a, AV.str b]], toks := [], loops := [] : Heap })) rfl)) (by kernel_rfl)
        | none =>
          refine ⟨fun x hx => ?_, fun hx => by simp [partM, hn, hh, hc, hc2] at hx⟩
          have e : x = ⟨3, w, []⟩ := by simpa [partM, hn, hh, hc, hc2] using hx.symm
          subst e
          have h2 := cut_miss w 33 (cutAt_none hc2)
          refine Gives.run (l92 _ _) ?_
          exact goG 60 []  trivial  (.callG ([AV.str w, AV.str [(45 : UInt8)]]) (AV.tuple [AV.str w, AV.bool false]) (show Gives cfg (93 : FuncId) [AV.str w, AV.str [(45 : UInt8)]] (AV.tuple [AV.str w, AV.bool false]) from hp) ⟨rfl, rfl⟩ ⟨rfl, rfl⟩ <| .callG ([AV.str w]) (AV.int IntKind.i64 (↑(nSigns w) : Int)) (show Gives cfg (94 : FuncId) [AV.str w] (AV.int IntKind.i64 (↑(nSigns w) : Int)) from hs) ⟨rfl, rfl⟩ ⟨rfl, rfl⟩ <| .no (show (decide ((1 : Int) < (↑(nSigns w) : Int))) = false from decide_eq_false (show ¬ ((1 : Int) < (↑(nSigns w) : Int)) from (by omega))) <| .split ((0 : Int) < (↑(nSigns w) : Int)) (fun h1 => .yes (show (decide ((0 : Int) < (↑(nSigns w) : Int))) = true from decide_eq_true (show (0 : Int) < (↑(nSigns w) : Int) from h1)) <| .ff <| .ff <| .callG ([AV.str w, AV.str [(58 : UInt8)]]) (AV.tuple [AV.str w, AV.str [], AV.bool false]) (show Gives cfg (74 : FuncId) [AV.str w, AV.str [(58 : UInt8)]] (AV.tuple [AV.str w, AV.str [], AV.bool false]) from h) ⟨rfl, rfl⟩ ⟨rfl, rfl⟩ <| .ff <| .callG ([AV.str w, AV.str [(33 : UInt8)]]) (AV.tuple [AV.str w, AV.str [], AV.bool false]) (show Gives cfg (74 : FuncId) [AV.str w, AV.str [(33 : UInt8)]] (AV.tuple [AV.str w, AV.str [], AV.bool false]) from h2) ⟨rfl, rfl⟩ ⟨rfl, rfl⟩ <| .ff <| .fin ((ARes.ret (AV.agg [AV.int IntKind.i64 (3 : Int), AV.str w, AV.str []]), { boxes := [[AV.int IntKind.i64 (3 : Int), AV.str w, AV.str []]], toks := [], loops := [] : Heap })) rfl) (fun h1 => .no (show (decide ((0 : Int) < (↑(nSigns w) : Int))) = false from decide_eq_false (show ¬ ((0 : Int) < (↑(nSigns w) : Int)) from h1)) <| .ff <| .ff <| .callG ([AV.str w, AV.str [(58 : UInt8)]]) (AV.tuple [AV.str w, AV.str [], AV.bool false]) (show Gives cfg (74 : FuncId) [AV.str w, AV.str [(58 : UInt8)]] (AV.tuple [AV.str w, AV.str [], AV.bool false]) from h) ⟨rfl, rfl⟩ ⟨rfl, rfl⟩ <| .ff <| .callG ([AV.str w, AV.str [(33 : UInt8)]]) (AV.tuple [AV.str w, AV.str [], AV.bool false]) (show Gives cfg (74 : FuncId) [AV.str w, AV.str [(33 : UInt8)]] (AV.tuple [AV.str w, AV.str [], AV.bool false]) from h2) ⟨rfl, rfl⟩ ⟨rfl, rfl⟩ <| .ff <| .fin ((ARes.ret (AV.agg [AV.int IntKind.i64 (3 : Int), AV.str w, AV.str []]), { boxes := [[AV.int IntKind.i64 (3 : Int), AV.str w, AV.str []]], toks := [], loops := [] : Heap })) rfl)) (by kernel_rfl)

theorem ckS90 (l : List Pair) : Gives cfg 90 [.sl .sh (l.map encP)] (.int .i64 (ckS l)) := by
  refine Gives.run (l90 _ _) ?_
  exact goG 60 []  trivial  (.callG ([AV.sl SK.sh (List.map encP l)]) (AV.int IntKind.i64 (ckS l)) (show Gives cfg (45 : FuncId) [AV.sl SK.sh (List.map encP l)] (AV.int IntKind.i64 (ckS l)) from ckS_any _) ⟨rfl, rfl⟩ ⟨rfl, rfl⟩ <| .fin ((ARes.ret (AV.int IntKind.i64 (ckS l)), { boxes := [], toks := [], loops := [] : Heap })) rfl) (by kernel_rfl)
theorem ckM95 (l : List Term) : Gives cfg 95 [.sl .sh (l.map encM)] (.int .i64 (ckM l)) := by
  refine Gives.run (l95 _ _) ?_
  exact goG 60 []  trivial  (.callG ([AV.sl SK.sh (List.map encM l)]) (AV.int IntKind.i64 (ckM l)) (show Gives cfg (46 : FuncId) [AV.sl SK.sh (List.map encM l)] (AV.int IntKind.i64 (ckM l)) from ckM_any _) ⟨rfl, rfl⟩ ⟨rfl, rfl⟩ <| .fin ((ARes.ret (AV.int IntKind.i64 (ckM l)), { boxes := [], toks := [], loops := [] : Heap })) rfl) (by kernel_rfl)
theorem parseP (s : List UInt8) (hl : s.length ≤ 1000) : Gives cfg 55 [.str s] (.tuple [.sl .sh ((parsed partP ckS s).1.map encP), .int .i64 (parsed partP ckS s).2]) := by
  have h := partsPair partP ckS (fun p x h1 h2 => (partP_run p h1).1 x h2) (fun p h1 _ h2 => (partP_run p h1).2 h2) ckS90 s hl
  refine Gives.run (l55 _ _) ?_
  exact goG 60 []  trivial  (.callG ([AV.str s, AV.func (89 : Nat) [], AV.func (90 : Nat) []]) (AV.tuple [AV.sl SK.sh (List.map encP (parsed partP ckS s).fst), AV.int IntKind.i64 (parsed partP ckS s).snd]) (show Gives cfg (88 : FuncId) [AV.str s, AV.func (89 : FuncId) [], AV.func (90 : FuncId) []] (AV.tuple [rowF encP (parsed partP ckS s).fst, AV.int IntKind.i64 (parsed partP ckS s).snd]) from h) ⟨rfl, rfl⟩ Res.p <| .fin ((ARes.ret (AV.tuple [AV.sl SK.sh (List.map encP (parsed partP ckS s).fst), AV.int IntKind.i64 (parsed partP ckS s).snd]), { boxes := [], toks := [], loops := [] : Heap })) rfl) (by kernel_rfl)
theorem parseM (s : List UInt8) (hl : s.length ≤ 1000) : Gives cfg 56 [.str s] (.tuple [.sl .sh ((parsed partM ckM s).1.map encM), .int .i64 (parsed partM ckM s).2]) := by
  have h := partsTerm partM ckM (fun p x h1 h2 => (partM_run p h1).1 x h2) (fun p h1 _ h2 => (partM_run p h1).2 h2) ckM95 s hl
  refine Gives.run (l56 _ _) ?_
  exact goG 60 []  trivial  (.callG ([AV.str s, AV.func (92 : Nat) [], AV.func (95 : Nat) []]) (AV.tuple [AV.sl SK.sh (List.map encM (parsed partM ckM s).fst), AV.int IntKind.i64 (parsed partM ckM s).snd]) (show Gives cfg (91 : FuncId) [AV.str s, AV.func (92 : FuncId) [], AV.func (95 : FuncId) []] (AV.tuple [rowF encM (parsed partM ckM s).fst, AV.int IntKind.i64 (parsed partM ckM s).snd]) from h) ⟨rfl, rfl⟩ Res.p <| .fin ((ARes.ret (AV.tuple [AV.sl SK.sh (List.map encM (parsed partM ckM s).fst), AV.int IntKind.i64 (parsed partM ckM s).snd]), { boxes := [], toks := [], loops := [] : Heap })) rfl) (by kernel_rfl)

theorem sameP_loop (l : List Pair) (hn : l.length < 9223372036854775807) : ∀ (post : List Pair) (i : Nat) (hd : l.drop i = post) (T : Env) (hT : Has T [(0, .sl .sh (l.map encP)), (1, .sl .sh (l.map encP)), (5, .int .i64 i)]),
    Goes cfg a57 k57_0 T Heap.nil (IsRet (.bool true)) := by
  intro post
  induction post with
  | nil =>
    intro i hd T hT
    have hge := drop_ge hd
    exact goG 60 _  hT  (.len (show lenA false (AV.sl SK.sh (List.map encP l)) = some (AV.int IntKind.i64 (↑l.length : Int)) from len_map _) <| .no (show (decide ((↑i : Int) < (↑l.length : Int))) = false from decide_eq_false (show ¬ ((↑i : Int) < (↑l.length : Int)) from (by omega))) <| .fin ((ARes.ret (AV.bool true), { boxes := [], toks := [], loops := [] : Heap })) rfl) (by kernel_rfl)
  | cons x post ih =>
    intro i hd T hT
    have hlt := drop_lt hd
    have hnx := drop_next hd
    exact goG 60 _  hT  (.len (show lenA false (AV.sl SK.sh (List.map encP l)) = some (AV.int IntKind.i64 (↑l.length : Int)) from len_map _) <| .yes (show (decide ((↑i : Int) < (↑l.length : Int))) = true from decide_eq_true (show (↑i : Int) < (↑l.length : Int) from (by omega))) <| .idx (show idxA (2 : Nat) (AV.sl SK.sh (List.map encP l)) (AV.int IntKind.i64 (↑i : Int)) = some (AV.ref (encP x).cells) from idx_row hd (by rfl)) <| .idx (show idxA (2 : Nat) (AV.sl SK.sh (List.map encP l)) (AV.int IntKind.i64 (↑i : Int)) = some (AV.ref (encP x).cells) from idx_row hd (by rfl)) <| .no (show (if true = true then !(x.key == x.key && (x.val == x.val && true)) else x.key == x.key && (x.val == x.val && true)) = false from Bool.eq_false_iff.2 (show ¬ ((if true = true then !(x.key == x.key && (x.val == x.val && true)) else x.key == x.key && (x.val == x.val && true)) = true) from (by simp))) <| .bin (show binA BinOp.add (AV.int IntKind.i64 (↑i : Int)) (AV.int IntKind.i64 (1 : Int)) = some (AV.int IntKind.i64 (↑(i + (1 : Nat)) : Int)) from inc_i (by omega)) <| .cutQ k57_0 [(0, AV.sl SK.sh (List.map encP l)), (1, AV.sl SK.sh (List.map encP l)), (5, AV.int IntKind.i64 (↑(i + (1 : Nat)) : Int))] ({ boxes := [], toks := [], loops := [] : Heap }) (fun T hT => (ih (i + (1 : Nat)) hnx T hT))) (by kernel_rfl)
theorem sameP (l : List Pair) (hn : l.length < 9223372036854775807) : Gives cfg 57 [.sl .sh (l.map encP), .sl .sh (l.map encP)] (.bool true) := by
  refine Gives.run (l57 _ _) ?_
  have h := sameP_loop l hn l 0 rfl
  exact goG 60 []  trivial  (.len (show lenA false (AV.sl SK.sh (List.map encP l)) = some (AV.int IntKind.i64 (↑l.length : Int)) from len_map _) <| .len (show lenA false (AV.sl SK.sh (List.map encP l)) = some (AV.int IntKind.i64 (↑l.length : Int)) from len_map _) <| .no (show ((↑l.length : Int) != (↑l.length : Int)) = false from Bool.eq_false_iff.2 (show ¬ (((↑l.length : Int) != (↑l.length : Int)) = true) from (by simp))) <| .cutQ k57_0 [(0, AV.sl SK.sh (List.map encP l)), (1, AV.sl SK.sh (List.map encP l)), (5, AV.int IntKind.i64 (0 : Int))] ({ boxes := [], toks := [], loops := [] : Heap }) (fun T hT => (h T hT))) (by kernel_rfl)
theorem sameM_loop (l : List Term) (hn : l.length < 9223372036854775807) : ∀ (post : List Term) (i : Nat) (hd : l.drop i = post) (T : Env) (hT : Has T [(0, .sl .sh (l.map encM)), (1, .sl .sh (l.map encM)), (5, .int .i64 i)]),
    Goes cfg a58 k58_0 T Heap.nil (IsRet (.bool true)) := by
  intro post
  induction post with
  | nil =>
    intro i hd T hT
    have hge := drop_ge hd
    exact goG 60 _  hT  (.len (show lenA false (AV.sl SK.sh (List.map encM l)) = some (AV.int IntKind.i64 (↑l.length : Int)) from len_map _) <| .no (show (decide ((↑i : Int) < (↑l.length : Int))) = false from decide_eq_false (show ¬ ((↑i : Int) < (↑l.length : Int)) from (by omega))) <| .fin ((ARes.ret (AV.bool true), { boxes := [], toks := [], loops := [] : Heap })) rfl) (by kernel_rfl)
  | cons x post ih =>
    intro i hd T hT
    have hlt := drop_lt hd
    have hnx := drop_next hd
    exact goG 60 _  hT  (.len (show lenA false (AV.sl SK.sh (List.map encM l)) = some (AV.int IntKind.i64 (↑l.length : Int)) from len_map _) <| .yes (show (decide ((↑i : Int) < (↑l.length : Int))) = true from decide_eq_true (show (↑i : Int) < (↑l.length : Int) from (by omega))) <| .idx (show idxA (3 : Nat) (AV.sl SK.sh (List.map encM l)) (AV.int IntKind.i64 (↑i : Int)) = some (AV.ref (encM x).cells) from idx_row hd (by rfl)) <| .idx (show idxA (3 : Nat) (AV.sl SK.sh (List.map encM l)) (AV.int IntKind.i64 (↑i : Int)) = some (AV.ref (encM x).cells) from idx_row hd (by rfl)) <| .no (show (if true = true then !(x.op == x.op && (x.key == x.key && (x.val == x.val && true))) else x.op == x.op && (x.key == x.key && (x.val == x.val && true))) = false from Bool.eq_false_iff.2 (show ¬ ((if true = true then !(x.op == x.op && (x.key == x.key && (x.val == x.val && true))) else x.op == x.op && (x.key == x.key && (x.val == x.val && true))) = true) from (by simp))) <| .bin (show binA BinOp.add (AV.int IntKind.i64 (↑i : Int)) (AV.int IntKind.i64 (1 : Int)) = some (AV.int IntKind.i64 (↑(i + (1 : Nat)) : Int)) from inc_i (by omega)) <| .cutQ k58_0 [(0, AV.sl SK.sh (List.map encM l)), (1, AV.sl SK.sh (List.map encM l)), (5, AV.int IntKind.i64 (↑(i + (1 : Nat)) : Int))] ({ boxes := [], toks := [], loops := [] : Heap }) (fun T hT => (ih (i + (1 : Nat)) hnx T hT))) (by kernel_rfl)
theorem sameM (l : List Term) (hn : l.length < 9223372036854775807) : Gives cfg 58 [.sl .sh (l.map encM), .sl .sh (l.map encM)] (.bool true) := by
  refine Gives.run (l58 _ _) ?_
  have h := sameM_loop l hn l 0 rfl
  exact goG 60 []  trivial  (.len (show lenA false (AV.sl SK.sh (List.map encM l)) = some (AV.int IntKind.i64 (↑l.length : Int)) from len_map _) <| .len (show lenA false (AV.sl SK.sh (List.map encM l)) = some (AV.int IntKind.i64 (↑l.length : Int)) from len_map _) <| .no (show ((↑l.length : Int) != (↑l.length : Int)) = false from Bool.eq_false_iff.2 (show ¬ (((↑l.length : Int) != (↑l.length : Int)) = true) from (by simp))) <| .cutQ k58_0 [(0, AV.sl SK.sh (List.map encM l)), (1, AV.sl SK.sh (List.map encM l)), (5, AV.int IntKind.i64 (0 : Int))] ({ boxes := [], toks := [], loops := [] : Heap }) (fun T hT => (h T hT))) (by kernel_rfl)
end Go.Aa.T

set_option linter.unusedVariables false
set_option linter.unusedSimpArgs false
set_option maxRecDepth 100000
namespace Go.Aa.T
open Go.Aa Go.Proofs
theorem cutAt_miss {c : UInt8} : ∀ {a : List UInt8}, c ∉ a → cutAt c a = none
  | [], _ => rfl
  | x :: a, h => by
    simp only [List.mem_cons, not_or] at h
    have hx : ¬ x = c := fun e => h.1 e.symm
    simp only [cutAt, if_neg hx, cutAt_miss h.2, Option.map_none]
theorem tail_cons (y : List UInt8) (r : List (List UInt8)) : Lib.joinTail [44] (y :: r) = 44 :: (y ++ Lib.joinTail [44] r) := by simp [Lib.joinTail]
theorem parts_ne (c : UInt8) : ∀ s : List UInt8, parts c s ≠ []
  | [] => by simp [parts]
  | b :: r => by
    unfold parts
    split
    · simp
    · split <;> simp
theorem join_parts : ∀ s : List UInt8, Lib.join (parts 44 s) [44] = s
  | [] => by simp [parts, Lib.join_cons, Lib.joinTail]
  | b :: r => by
    have ih := join_parts r
    unfold parts
    split
    · rename_i hb
      subst hb
      cases hp : parts 44 r with
      | nil => exact absurd hp (parts_ne _ _)
      | cons x xs =>
        rw [hp, Lib.join_cons] at ih
        rw [Lib.join_cons, tail_cons, ih]; rfl
    · cases hp : parts 44 r with
      | nil => exact absurd hp (parts_ne _ _)
      | cons x xs =>
        rw [hp, Lib.join_cons] at ih
        simp only [Lib.join_cons, List.cons_append, ih]
section
variable {X : Type} {pf : List UInt8 → Option X} {text : X → List UInt8} {ck : List X → Int}
theorem collect_back (hpt : ∀ p x, pf p = some x → text x = p) : ∀ (ps : List (List UInt8)) (acc l : List X), foldE (collect pf) acc ps = some l → ∃ r, l = acc ++ r ∧ r.map text = ps
  | [], acc, l, h => by
    simp only [foldE, Option.some.injEq] at h
    subst h
    exact ⟨[], by simp⟩
  | p :: ps, acc, l, h => by
    simp only [foldE] at h
    cases hc : collect pf acc p with
    | none => rw [hc] at h; cases h
    | some a' =>
      rw [hc] at h
      unfold collect at hc
      split at hc
      · cases hc
      · simp only [Option.map_eq_some_iff] at hc
        obtain ⟨x, hx, rfl⟩ := hc
        obtain ⟨r, rfl, hr⟩ := collect_back hpt ps _ l h
        exact ⟨x :: r, by simp, by simp [hpt p x hx, hr]⟩
theorem read_told (hpt : ∀ p x, pf p = some x → text x = p) (s : List UInt8) (h : (parsed pf ck s).2 = 0) : textOf text (parsed pf ck s).1 = s := by
  unfold parsed at h ⊢
  split at h
  · rename_i hs
    rw [if_pos hs, hs]; rfl
  · rename_i hs
    rw [if_neg hs]
    cases hf : foldE (collect pf) [] (parts 44 s) with
    | none => rw [hf] at h; cases h
    | some l =>
      rw [hf] at h
      simp only at h ⊢
      split at h
      · rename_i hc
        rw [if_pos hc]
        obtain ⟨r, e, hr⟩ := collect_back hpt _ _ _ hf
        simp only [List.nil_append] at e
        subst e
        have hne : l ≠ [] := by
          rintro rfl
          exact parts_ne 44 s hr.symm
        cases l with
        | nil => exact absurd rfl hne
        | cons x l => rw [show textOf text (x :: l) = Lib.join ((x :: l).map text) [44] from rfl, hr, join_parts]
      · rename_i hc
        exact absurd h hc
end

theorem partP_text (p : List UInt8) (x : Pair) (h : partP p = some x) : pText x = p := by
  unfold partP at h
  split at h
  · cases h
  · rename_i a b hc
    split at h
    · cases h
    · simp only [Option.some.injEq] at h
      subst h
      rw [(cutAt_some hc).1]
      simp [pText]
theorem partM_text (p : List UInt8) (x : Term) (h : partM p = some x) : mText x = p := by
  unfold partM at h
  split at h
  · cases h
  · split at h
    · rename_i hh
      simp only [Option.some.injEq] at h
      subst h
      cases p with
      | nil => cases hh
      | cons b r =>
        simp only [List.head?_cons, Option.some.injEq] at hh
        subst hh
        simp [mText]
    · split at h
      · rename_i a b hc
        simp only [Option.some.injEq] at h
        subst h
        rw [(cutAt_some hc).1]
        simp [mText]
      · split at h
        · rename_i a b hc
          simp only [Option.some.injEq] at h
          subst h
          rw [(cutAt_some hc).1]
          simp [mText]
        · simp only [Option.some.injEq] at h
          subst h
          simp [mText]
theorem ckSl_good (l : List Pair) : ∀ (post : List Pair) (i : Nat), ckSl l i post = 0 → ∀ x ∈ post, goodP x = true
  | [], _, _ => by simp
  | x :: post, i, h => by
    unfold ckSl at h
    split at h
    · rename_i hg
      split at h
      · cases h
      · intro y hy
        rcases List.mem_cons.1 hy with rfl | hy
        · exact hg
        · exact ckSl_good l post _ h y hy
    · cases h
theorem ckS_good {l : List Pair} (h : ckS l = 0) : ∀ x ∈ l, goodP x = true := by
  unfold ckS at h
  split at h
  · exact ckSl_good l l 0 h
  · cases h
theorem ckMl_good : ∀ (post : List Term), ckMl post = 0 → ∀ x ∈ post, goodM x = true
  | [], _ => by simp
  | x :: post, h => by
    unfold ckMl at h
    split at h
    · rename_i ho
      split at h
      · rename_i hg
        intro y hy
        rcases List.mem_cons.1 hy with rfl | hy
        · simp only [goodM, Bool.and_eq_true, decide_eq_true_eq] at hg ⊢
          exact ⟨ho, hg⟩
        · exact ckMl_good post h y hy
      · cases h
    · cases h
theorem ckM_good {l : List Term} (h : ckM l = 0) : ∀ x ∈ l, goodM x = true := by
  unfold ckM at h
  split at h
  · exact ckMl_good l h
  · cases h
theorem count_app (a b : List UInt8) (c : UInt8) : Lib.countByte (a ++ b) c = Lib.countByte a c + Lib.countByte b c := List.count_append
theorem count_one (c d : UInt8) (a : List UInt8) : Lib.countByte (d :: a) c = Lib.countByte a c + if d == c then 1 else 0 := List.count_cons
end Go.Aa.T

set_option linter.unusedVariables false
set_option linter.unusedSimpArgs false
set_option maxRecDepth 100000
namespace Go.Aa.T
open Go.Aa Go.Proofs

def strs (l : List (List UInt8)) : List AV := l.map AV.str
theorem strs_el (l : List (List UInt8)) : (strs l).all (elOk 1) = true := by
  induction l with
  | nil => rfl
  | cons x l ih => simp only [strs, List.map_cons, List.all_cons, Bool.and_eq_true]; exact ⟨rfl, ih⟩
theorem strs_data (l : List (List UInt8)) : dataOk (strs l) = true := by
  induction l with
  | nil => rfl
  | cons x l ih => simp only [dataOk, strs, List.map_cons, List.all_cons, Bool.and_eq_true]; exact ⟨rfl, ih⟩
theorem strs_cells (l : List (List UInt8)) : rowCells (strs l) = strs l := by
  induction l with
  | nil => rfl
  | cons x l ih =>
    simp only [rowCells, strs, List.map_cons, List.flatMap_cons] at ih ⊢
    rw [ih]; rfl
def hSp (acc : List (List UInt8)) (cur : List UInt8) : Heap := hM acc.length (strs (acc ++ [cur]))
def mSp (acc : List (List UInt8)) : AV := .msl acc.length 0 (acc.length + 1) 1
theorem sp_grow (acc : List (List UInt8)) (cur : List UInt8) (h : acc.length ≤ 1000) :
    Does cfg (.appendM 1 16 (.c (mSp acc)) (.c (.sl .full [.str []]))) (hSp acc cur) (mSp (acc ++ [cur])) (hSp (acc ++ [cur]) []) := by
  have hh := does_grow (cfg := cfg) (es := 1) (b := 16) (k := acc.length) (l := strs (acc ++ [cur])) (v := .str []) (sk := .full) (by simp [strs]) (strs_el _) (strs_data _) rfl rfl (by simp [strs]; omega)
  have e1 : (strs (acc ++ [cur])).length = acc.length + 1 := by simp [strs]
  have e2 : strs (acc ++ [cur]) ++ [AV.str []] = strs (acc ++ [cur] ++ [[]]) := by simp [strs]
  rw [e1, e2] at hh
  have e3 : mSp (acc ++ [cur]) = .msl (acc.length + 1) 0 (acc.length + 1 + 1) 1 := by simp [mSp]
  have e4 : hSp (acc ++ [cur]) [] = hM (acc.length + 1) (strs (acc ++ [cur] ++ [[]])) := by simp [hSp]
  rw [e3, e4]
  exact hh
theorem sp_load (acc : List (List UInt8)) (cur : List UInt8) : Does cfg (.load false 1 (.c (.ptr acc.length acc.length))) (hSp acc cur) (.str cur) (hSp acc cur) := fun T => by
  have : loadA false 1 (hSp acc cur) (.ptr acc.length acc.length) = some (.str cur) := by
    simp only [loadA, hSp, hM_at, strs_cells]
    rw [if_pos (by simp [strs])]
    simp [strs]
  simp only [opStep, ev, this]
theorem sp_store (acc : List (List UInt8)) (cur x : List UInt8) : Does cfg (.store 1 (.c (.ptr acc.length acc.length)) (.c (.str x))) (hSp acc cur) .undef (hSp acc x) := fun T => by
  have : storeA 1 (hSp acc cur) (.ptr acc.length acc.length) (.str x) = some (hSp acc x) := by
    simp only [storeA, hSp, hM_at, strs_cells]
    rw [if_pos (by simp [strs, AV.cells, cellsN, cellOk])]
    have e : rowCells (strs (acc ++ [x])) = strs acc ++ [AV.str x] := by rw [strs_cells]; simp [strs]
    rw [hM, hM, e]
    simp [strs, AV.cells, paste, List.set_append]
  simp only [opStep, ev, this]
theorem sp_len (acc : List (List UInt8)) : lenA false (mSp acc) = some (.int .i64 ((acc.length + 1 : Nat) : Int)) := rfl
theorem sp_dec (acc : List (List UInt8)) (h : acc.length ≤ 1000) : binA .sub (.int .i64 ((acc.length + 1 : Nat) : Int)) (.int .i64 1) = some (.int .i64 (acc.length : Nat)) := dec_i (by omega)
theorem sp_idx (acc : List (List UInt8)) : idxA 1 (mSp acc) (.int .i64 (acc.length : Nat)) = some (.ptr acc.length acc.length) := by
  unfold mSp
  rw [idx_msl (Nat.lt_succ_self _)]
  simp
theorem sub_one {s post : List UInt8} {i : Nat} {b : UInt8} (h : s.drop i = b :: post) : sliceA 0 (.str s) (some (.int .i64 (i : Nat))) (some (.int .i64 ((i + 1 : Nat) : Int))) none = some (.str [b]) := by
  have hlt := drop_lt h
  rw [sstr_in (Nat.le_succ i) (by omega)]
  rw [List.drop_take, h]
  simp
theorem byte_ne {b c : UInt8} (h : ¬ b = c) : ((b.toNat : Nat) : Int) ≠ ((c.toNat : Nat) : Int) := fun e => h (UInt8.toNat_inj.1 (by omega))
theorem split_loop (s : List UInt8) (c : UInt8) (hl : s.length ≤ 1000) : ∀ (post : List UInt8) (i : Nat) (acc : List (List UInt8)) (cur : List UInt8) (hd : s.drop i = post) (ha : acc.length ≤ i) (hc : cur.length ≤ i) (out : List (List UInt8)) (ho : out = acc ++ (match parts c post with | [] => [cur] | p :: ps => (cur ++ p) :: ps)) (T : Env)
    (hT : Has T [(0, .str s), (1, .int .u8 (c.toNat : Nat)), (5, mSp acc), (6, .int .i64 i)]),
    Goes cfg a80 k80_0 T (hSp acc cur) (IsOut (.sl .sh (strs out))) := by
  intro post
  induction post with
  | nil =>
    intro i acc cur hd ha hc out ho T hT
    have hge := drop_ge hd
    have e : out = acc ++ [cur] := by simpa [parts] using ho
    have hout : IsOut (.sl .sh (strs out)) (.ret (mSp acc), hSp acc cur) := ⟨mSp acc, rfl, by
      rw [e]
      have := out_hM (es := 1) (k := acc.length) (l := strs (acc ++ [cur])) (by simp [strs]) (strs_el _) (by decide) (strs_data _)
      have e1 : (strs (acc ++ [cur])).length = acc.length + 1 := by simp [strs]
      rw [e1] at this
      exact this⟩
    exact goG 60 _  hT  (.len (show lenA true (AV.str s) = some (AV.int IntKind.i64 (↑s.length : Int)) from len_str _) <| .no (show (decide ((↑i : Int) < (↑s.length : Int))) = false from decide_eq_false (show ¬ ((↑i : Int) < (↑s.length : Int)) from (by omega))) <| .fin ((ARes.ret (AV.msl acc.length (0 : Nat) (acc.length + (1 : Nat)) (1 : Nat)), { boxes := List.replicate acc.length [] ++ [rowCells (strs (acc ++ [cur]))], toks := [], loops := [] : Heap })) (by exact hout)) (by kernel_rfl)
  | cons b post ih =>
    intro i acc cur hd ha hc out ho T hT
    have hlt := drop_lt hd
    by_cases hb : b = c
    · subst hb
      have g := sp_grow acc cur (by omega)
      have ih' := ih (i + 1) (acc ++ [cur]) [] (drop_next hd) (by simp; omega) (by simp) out (by
        rw [ho]
        simp only [parts, if_true]
        cases hp : parts b post with
        | nil => exact absurd hp (parts_ne _ _)
        | cons p ps => simp)
      exact goG 60 _  hT  (.len (show lenA true (AV.str s) = some (AV.int IntKind.i64 (↑s.length : Int)) from len_str _) <| .yes (show (decide ((↑i : Int) < (↑s.length : Int))) = true from decide_eq_true (show (↑i : Int) < (↑s.length : Int) from (by omega))) <| .idxs (show idxsA (AV.str s) (AV.int IntKind.i64 (↑i : Int)) = some (AV.int IntKind.u8 (↑b.toNat : Int)) from idx_str hd) <| .yes (show ((↑b.toNat : Int) == (↑b.toNat : Int)) = true from (by simp)) <| .effY (show Does cfg (AOp.appendM (1 : Nat) (16 : Nat) (Opd.c (mSp acc)) (Opd.c (AV.sl SK.full [AV.str []]))) (hSp acc cur) (mSp (acc ++ [cur])) (hSp (acc ++ [cur]) []) from g) <| .bin (show binA BinOp.add (AV.int IntKind.i64 (↑i : Int)) (AV.int IntKind.i64 (1 : Int)) = some (AV.int IntKind.i64 (↑(i + (1 : Nat)) : Int)) from inc_i (by omega)) <| .cutQ k80_0 [(0, AV.str s), (1, AV.int IntKind.u8 (↑b.toNat : Int)), (5, AV.msl (acc ++ [cur]).length (0 : Nat) ((acc ++ [cur]).length + (1 : Nat)) (1 : Nat)), (6, AV.int IntKind.i64 (↑(i + (1 : Nat)) : Int))] ({ boxes := List.replicate (acc ++ [cur]).length [] ++ [rowCells (strs (acc ++ [cur] ++ [[]]))], toks := [], loops := [] : Heap }) (fun T hT => (ih' T hT))) (by kernel_rfl)
    · have hs := sub_one hd
      have hbn := byte_ne hb
      have hadd : binA .add (.str cur) (.str [b]) = some (.str (cur ++ [b])) := str_add (by simp; omega)
      have ih' := ih (i + 1) acc (cur ++ [b]) (drop_next hd) (by omega) (by simp; omega) out (by
        rw [ho]
        simp only [parts, if_neg hb]
        cases hp : parts c post with
        | nil => exact absurd hp (parts_ne _ _)
        | cons p ps => simp)
      exact goG 60 _  hT  (.len (show lenA true (AV.str s) = some (AV.int IntKind.i64 (↑s.length : Int)) from len_str _) <| .yes (show (decide ((↑i : Int) < (↑s.length : Int))) = true from decide_eq_true (show (↑i : Int) < (↑s.length : Int) from (by omega))) <| .idxs (show idxsA (AV.str s) (AV.int IntKind.i64 (↑i : Int)) = some (AV.int IntKind.u8 (↑b.toNat : Int)) from idx_str hd) <| .no (show ((↑b.toNat : Int) == (↑c.toNat : Int)) = false from Bool.eq_false_iff.2 (show ¬ (((↑b.toNat : Int) == (↑c.toNat : Int)) = true) from (by simpa using hbn))) <| .len (show lenA false (AV.msl acc.length (0 : Nat) (acc.length + (1 : Nat)) (1 : Nat)) = some (AV.int IntKind.i64 (↑(acc.length + (1 : Nat)) : Int)) from sp_len _) <| .bin (show binA BinOp.sub (AV.int IntKind.i64 (↑(acc.length + (1 : Nat)) : Int)) (AV.int IntKind.i64 (1 : Int)) = some (AV.int IntKind.i64 (↑acc.length : Int)) from sp_dec _ (by omega)) <| .len (show lenA false (AV.msl acc.length (0 : Nat) (acc.length + (1 : Nat)) (1 : Nat)) = some (AV.int IntKind.i64 (↑(acc.length + (1 : Nat)) : Int)) from sp_len _) <| .bin (show binA BinOp.sub (AV.int IntKind.i64 (↑(acc.length + (1 : Nat)) : Int)) (AV.int IntKind.i64 (1 : Int)) = some (AV.int IntKind.i64 (↑acc.length : Int)) from sp_dec _ (by omega)) <| .idx (show idxA (1 : Nat) (AV.msl acc.length (0 : Nat) (acc.length + (1 : Nat)) (1 : Nat)) (AV.int IntKind.i64 (↑acc.length : Int)) = some (AV.ptr acc.length acc.length) from sp_idx _) <| .effY (show Does cfg (AOp.load false (1 : Nat) (Opd.c (AV.ptr acc.length acc.length))) (hSp acc cur) (AV.str cur) (hSp acc cur) from sp_load _ _) <| .bin (show binA BinOp.add (AV.int IntKind.i64 (↑i : Int)) (AV.int IntKind.i64 (1 : Int)) = some (AV.int IntKind.i64 (↑(i + (1 : Nat)) : Int)) from inc_i (by omega)) <| .slice (show sliceA (0 : Nat) (AV.str s) (some (AV.int IntKind.i64 (↑i : Int))) (some (AV.int IntKind.i64 (↑(i + (1 : Nat)) : Int))) none = some (AV.str [b]) from hs) <| .bin (show binA BinOp.add (AV.str cur) (AV.str [b]) = some (AV.str (cur ++ [b])) from hadd) <| .idx (show idxA (1 : Nat) (AV.msl acc.length (0 : Nat) (acc.length + (1 : Nat)) (1 : Nat)) (AV.int IntKind.i64 (↑acc.length : Int)) = some (AV.ptr acc.length acc.length) from sp_idx _) <| .effY (show Does cfg (AOp.store (1 : Nat) (Opd.c (AV.ptr acc.length acc.length)) (Opd.c (AV.str (cur ++ [b])))) (hSp acc cur) AV.undef (hSp acc (cur ++ [b])) from sp_store _ _ _) <| .bin (show binA BinOp.add (AV.int IntKind.i64 (↑i : Int)) (AV.int IntKind.i64 (1 : Int)) = some (AV.int IntKind.i64 (↑(i + (1 : Nat)) : Int)) from inc_i (by omega)) <| .cutQ k80_0 [(0, AV.str s), (1, AV.int IntKind.u8 (↑c.toNat : Int)), (5, AV.msl acc.length (0 : Nat) (acc.length + (1 : Nat)) (1 : Nat)), (6, AV.int IntKind.i64 (↑(i + (1 : Nat)) : Int))] ({ boxes := List.replicate acc.length [] ++ [rowCells (strs (acc ++ [cur ++ [b]]))], toks := [], loops := [] : Heap }) (fun T hT => (ih' T hT))) (by kernel_rfl)
theorem split80 (s : List UInt8) (c : UInt8) (hl : s.length ≤ 1000) : GivesF cfg 80 [.str s, .int .u8 (c.toNat : Nat)] (.sl .sh (strs (parts c s))) := by
  refine GivesF.run (l80 _ _) ?_
  have h := split_loop s c hl s 0 [] [] rfl (Nat.le_refl _) (Nat.le_refl _) (parts c s) (by
    cases hp : parts c s with
    | nil => exact absurd hp (parts_ne _ _)
    | cons p ps => simp)
  exact goG 60 []  trivial  (.cutQ k80_0 [(0, AV.str s), (1, AV.int IntKind.u8 (↑c.toNat : Int)), (5, AV.msl (0 : Nat) (0 : Nat) (1 : Nat) (1 : Nat)), (6, AV.int IntKind.i64 (0 : Int))] ({ boxes := [[AV.str []]], toks := [], loops := [] : Heap }) (fun T hT => (h T hT))) (by kernel_rfl)
end Go.Aa.T

set_option linter.unusedVariables false
set_option linter.unusedSimpArgs false
set_option maxRecDepth 100000
namespace Go.Aa.T
open Go.Aa Go.Proofs
theorem parts_two {c : UInt8} {a b : List UInt8} (h : c ∉ a) (h2 : c ∉ b) : parts c (a ++ c :: b) = [a, b] := by rw [parts_some h, parts_none h2]
theorem parts_three {c : UInt8} {a b : List UInt8} (h : c ∉ a) (h2 : c ∈ b) : ∃ x z r, parts c (a ++ c :: b) = a :: x :: z :: r := by
  cases hc : cutAt c b with
  | none => exact absurd h2 (cutAt_none hc)
  | some p =>
    obtain ⟨x, y⟩ := p
    obtain ⟨rfl, hx⟩ := cutAt_some hc
    rw [parts_some h, parts_some hx]
    cases hp : parts c y with
    | nil => exact absurd hp (parts_ne _ _)
    | cons z r => exact ⟨x, z, r, rfl⟩
theorem split_does {y : List UInt8} {ls : List (List UInt8)} (c : UInt8) (hl : y.length ≤ 1000) (e : parts c y = ls) (H : Heap) : Does cfg (.call (.c (.func 80 [])) [.c (.str y), .c (.int .u8 (c.toNat : Nat))]) H (.sl .sh (ls.map .str)) H := by
  subst e
  exact does_callF (split80 y c hl) rfl rfl H
def refV {X : Type} (enc : X → AV) (ck : List X → Int) : Option (List X) → AV
  | none => .tuple [.sl .sh [], .int .i64 2]
  | some l => if ck l = 0 then .tuple [.sl .sh (l.map enc), .int .i64 0] else .tuple [.sl .sh [], .int .i64 (ck l)]
theorem out_bad (e : Int) (H : Heap) : IsOut (.tuple [.sl .sh [], .int .i64 e]) (.ret (.tuple [.sl .full [], .int .i64 e]), H) := ⟨_, rfl, dataOut_of ⟨rfl, rfl⟩⟩
theorem out_row {X : Type} (enc : X → AV) (l : List X) (e : Int) (H : Heap) : IsOut (.tuple [.sl .sh (l.map enc), .int .i64 e]) (.ret (.tuple [rowF enc l, .int .i64 e]), H) :=
  ⟨_, rfl, dataOut_of (by cases l <;> exact ⟨rfl, rfl⟩)⟩
theorem parts_len {c : UInt8} : ∀ (s : List UInt8), (parts c s).length ≤ s.length + 1 ∧ ∀ p ∈ parts c s, p.length ≤ s.length
  | [] => by simp [parts]
  | b :: r => by
    obtain ⟨h1, h2⟩ := parts_len r
    unfold parts
    split
    · refine ⟨by simp; omega, fun p hp => ?_⟩
      simp only [List.mem_cons] at hp
      rcases hp with rfl | hp
      · simp
      · have := h2 p hp; simp; omega
    · cases hp : parts c r with
      | nil => exact absurd hp (parts_ne _ _)
      | cons x xs =>
        rw [hp] at h1 h2
        simp only [List.length_cons] at h1
        refine ⟨by simp; omega, fun p hq => ?_⟩
        simp only [List.mem_cons] at hq
        rcases hq with rfl | hq
        · have := h2 x (by simp); simp; omega
        · have := h2 p (by simp [hq]); simp; omega

end Go.Aa.T

set_option linter.unusedVariables false
set_option linter.unusedSimpArgs false
set_option maxRecDepth 100000
namespace Go.Aa.T
open Go.Aa Go.Proofs

theorem ref_parsed {X : Type} (enc : X → AV) (ck : List X → Int) (pf : List UInt8 → Option X) (s : List UInt8) (h45 : ¬ s = [45]) :
    refV enc ck (foldE (collect pf) [] (parts 44 s)) = .tuple [.sl .sh ((parsed pf ck s).1.map enc), .int .i64 (parsed pf ck s).2] := by
  unfold parsed
  rw [if_neg h45]
  cases foldE (collect pf) [] (parts 44 s) with
  | none => rfl
  | some l => simp only [refV]; split <;> rfl

theorem readP_loop (ps : List (List UInt8)) (hn : ps.length ≤ 1001) (hl : ∀ p ∈ ps, p.length ≤ 1000) : ∀ (post : List (List UInt8)) (i : Nat) (acc : List Pair) (bs : List (List AV)) (hd : ps.drop i = post) (ha : acc.length = i) (T : Env)
    (hT : Has T [(4, .sl .sh (ps.map AV.str)), (5, rowF encP acc), (6, .int .i64 i)]),
    Goes cfg a59 k59_0 T ⟨bs, tkR encP acc, []⟩ (IsOut (refV encP ckS (foldE (collect partP) acc post))) := by
  intro post
  induction post with
  | nil =>
    intro i acc bs hd ha T hT
    have hge := drop_ge hd
    by_cases hc : ckS acc = 0
    · have e : refV encP ckS (foldE (collect partP) acc []) = .tuple [.sl .sh (acc.map encP), .int .i64 0] := by simp [foldE, refV, hc]
      rw [e]
      exact goG 60 _  hT  (.len (show lenA false (AV.sl SK.sh (List.map AV.str ps)) = some (AV.int IntKind.i64 (↑ps.length : Int)) from len_map _) <| .no (show (decide ((↑i : Int) < (↑ps.length : Int))) = false from decide_eq_false (show ¬ ((↑i : Int) < (↑ps.length : Int)) from (by omega))) <| .callG ([AV.sl (skF acc) (List.map encP acc)]) (AV.int IntKind.i64 (ckS acc)) (show Gives cfg (43 : FuncId) [AV.sl SK.sh (List.map encP acc)] (AV.int IntKind.i64 (ckS acc)) from ckS_ref _) Shuts.p ⟨rfl, rfl⟩ <| .no (show (ckS acc != (0 : Int)) = false from Bool.eq_false_iff.2 (show ¬ ((ckS acc != (0 : Int)) = true) from (by simpa using hc))) <| .fin ((ARes.ret (AV.tuple [AV.sl (skF acc) (List.map encP acc), AV.int IntKind.i64 (0 : Int)]), { boxes := bs, toks := tkR encP acc, loops := [] : Heap })) (by exact out_row _ _ _ _)) (by kernel_rfl)
    · have e : refV encP ckS (foldE (collect partP) acc []) = .tuple [.sl .sh [], .int .i64 (ckS acc)] := by simp [foldE, refV, hc]
      rw [e]
      exact goG 60 _  hT  (.len (show lenA false (AV.sl SK.sh (List.map AV.str ps)) = some (AV.int IntKind.i64 (↑ps.length : Int)) from len_map _) <| .no (show (decide ((↑i : Int) < (↑ps.length : Int))) = false from decide_eq_false (show ¬ ((↑i : Int) < (↑ps.length : Int)) from (by omega))) <| .callG ([AV.sl (skF acc) (List.map encP acc)]) (AV.int IntKind.i64 (ckS acc)) (show Gives cfg (43 : FuncId) [AV.sl SK.sh (List.map encP acc)] (AV.int IntKind.i64 (ckS acc)) from ckS_ref _) Shuts.p ⟨rfl, rfl⟩ <| .yes (show (ckS acc != (0 : Int)) = true from (by simpa using hc)) <| .fin ((ARes.ret (AV.tuple [AV.sl SK.full [], AV.int IntKind.i64 (ckS acc)]), { boxes := bs, toks := tkR encP acc, loops := [] : Heap })) (by exact out_bad _ _)) (by kernel_rfl)
  | cons y post ih =>
    intro i acc bs hd ha T hT
    have hlt := drop_lt hd
    have hnx := drop_next hd
    have hyl := hl y (drop_mem hd)
    have step : ∀ x, y ≠ [] → partP y = some x → foldE (collect partP) acc (y :: post) = foldE (collect partP) (acc ++ [x]) post := fun x h0 hx => by
      simp [foldE, collect, hx, h0]
    have bad : y = [] ∨ partP y = none → refV encP ckS (foldE (collect partP) acc (y :: post)) = .tuple [.sl .sh [], .int .i64 2] := fun h => by
      have : collect partP acc y = none := by
        unfold collect
        rcases h with h | h
        · rw [if_pos h]
        · split
          · rfl
          · rw [h]; rfl
      simp [foldE, this, refV]
    have happ : ∀ (x : Pair) (bs : List (List AV)), appendA 2 32 ⟨bs, tkR encP acc, []⟩ (rowF encP acc) (.sl .full [.agg [.str x.key, .str x.val]]) = some (rowF encP (acc ++ [x]), ⟨bs, tkR encP (acc ++ [x]), []⟩) := fun x bs =>
      row_append_T encP (x := x) (by rw [List.length_map]; omega) lenP rfl rfl
    cases hc : cutAt 58 y with
    | none =>
      have hs' : ∀ H, Does cfg (.call (.c (.func 80 [])) [.c (.str y), .c (.int .u8 58)]) H (.sl .sh [.str y]) H := split_does 58 hyl (parts_none (cutAt_none hc))
      rw [bad (.inr (by simp [partP, hc]))]
      exact goG 60 _  hT  (.len (show lenA false (AV.sl SK.sh (List.map AV.str ps)) = some (AV.int IntKind.i64 (↑ps.length : Int)) from len_map _) <| .yes (show (decide ((↑i : Int) < (↑ps.length : Int))) = true from decide_eq_true (show (↑i : Int) < (↑ps.length : Int) from (by omega))) <| .idx (show idxA (1 : Nat) (AV.sl SK.sh (List.map AV.str ps)) (AV.int IntKind.i64 (↑i : Int)) = some (AV.ref (AV.str y).cells) from idx_row hd (by rfl)) <| .load (show loadA false (1 : Nat) { boxes := bs, toks := tkR encP acc, loops := [] : Heap } (AV.ref [AV.str y]) = some (AV.str y) from rfl) <| .effY (show Does cfg (AOp.call (Opd.c (AV.func (80 : FuncId) [])) [Opd.c (AV.str y), Opd.c (AV.int IntKind.u8 (58 : Int))]) { boxes := bs, toks := tkR encP acc, loops := [] : Heap } (AV.sl SK.sh [AV.str y]) { boxes := bs, toks := tkR encP acc, loops := [] : Heap } from hs' _) <| .len (show lenA false (AV.sl SK.sh [AV.str y]) = some (AV.int IntKind.i64 (↑[AV.str y].length : Int)) from len_sl _ _) <| .tt <| .fin ((ARes.ret (AV.tuple [AV.sl SK.full [], AV.int IntKind.i64 (2 : Int)]), { boxes := bs, toks := tkR encP acc, loops := [] : Heap })) (by exact out_bad _ _)) (by kernel_rfl)
    | some p =>
      obtain ⟨a, b⟩ := p
      obtain ⟨rfl, hna⟩ := cutAt_some hc
      have hy : a ++ 58 :: b ≠ [] := by simp
      by_cases hb : 58 ∈ b
      · obtain ⟨x, z, r, hp⟩ := parts_three hna hb
        have hs' : ∀ H, Does cfg (.call (.c (.func 80 [])) [.c (.str (a ++ 58 :: b)), .c (.int .u8 58)]) H (.sl .sh (.str a :: .str x :: .str z :: r.map AV.str)) H := split_does 58 hyl hp
        rw [bad (.inr (by simp [partP, hc, hb]))]
        exact goG 60 _  hT  (.len (show lenA false (AV.sl SK.sh (List.map AV.str ps)) = some (AV.int IntKind.i64 (↑ps.length : Int)) from len_map _) <| .yes (show (decide ((↑i : Int) < (↑ps.length : Int))) = true from decide_eq_true (show (↑i : Int) < (↑ps.length : Int) from (by simp; omega))) <| .idx (show idxA (1 : Nat) (AV.sl SK.sh (List.map AV.str ps)) (AV.int IntKind.i64 (↑i : Int)) = some (AV.ref (AV.str (a ++ (58 : UInt8) :: b)).cells) from idx_row hd (by rfl)) <| .load (show loadA false (1 : Nat) { boxes := bs, toks := tkR encP acc, loops := [] : Heap } (AV.ref [AV.str (a ++ (58 : UInt8) :: b)]) = some (AV.str (a ++ (58 : UInt8) :: b)) from rfl) <| .effY (show Does cfg (AOp.call (Opd.c (AV.func (80 : FuncId) [])) [Opd.c (AV.str (a ++ (58 : UInt8) :: b)), Opd.c (AV.int IntKind.u8 (58 : Int))]) { boxes := bs, toks := tkR encP acc, loops := [] : Heap } (AV.sl SK.sh (AV.str a :: AV.str x :: AV.str z :: List.map AV.str r)) { boxes := bs, toks := tkR encP acc, loops := [] : Heap } from hs' _) <| .len (show lenA false (AV.sl SK.sh (AV.str a :: AV.str x :: AV.str z :: List.map AV.str r)) = some (AV.int IntKind.i64 (↑(AV.str a :: AV.str x :: AV.str z :: List.map AV.str r).length : Int)) from len_sl _ _) <| .tt <| .fin ((ARes.ret (AV.tuple [AV.sl SK.full [], AV.int IntKind.i64 (2 : Int)]), { boxes := bs, toks := tkR encP acc, loops := [] : Heap })) (by exact out_bad _ _)) (by kernel_rfl)
      · have hs' : ∀ H, Does cfg (.call (.c (.func 80 [])) [.c (.str (a ++ 58 :: b)), .c (.int .u8 58)]) H (.sl .sh [.str a, .str b]) H := split_does 58 hyl (parts_two hna hb)
        have hx : partP (a ++ 58 :: b) = some ⟨a, b⟩ := by simp [partP, hc, hb]
        rw [step _ hy hx]
        have hap := happ ⟨a, b⟩
        have ih' := fun bs => ih (i + 1) (acc ++ [⟨a, b⟩]) bs hnx (by simp [ha])
        exact goG 60 _  hT  (.len (show lenA false (AV.sl SK.sh (List.map AV.str ps)) = some (AV.int IntKind.i64 (↑ps.length : Int)) from len_map _) <| .yes (show (decide ((↑i : Int) < (↑ps.length : Int))) = true from decide_eq_true (show (↑i : Int) < (↑ps.length : Int) from (by omega))) <| .idx (show idxA (1 : Nat) (AV.sl SK.sh (List.map AV.str ps)) (AV.int IntKind.i64 (↑i : Int)) = some (AV.ref (AV.str (a ++ (58 : UInt8) :: b)).cells) from idx_row hd (by rfl)) <| .load (show loadA false (1 : Nat) { boxes := bs, toks := tkR encP acc, loops := [] : Heap } (AV.ref [AV.str (a ++ (58 : UInt8) :: b)]) = some (AV.str (a ++ (58 : UInt8) :: b)) from rfl) <| .effY (show Does cfg (AOp.call (Opd.c (AV.func (80 : FuncId) [])) [Opd.c (AV.str (a ++ (58 : UInt8) :: b)), Opd.c (AV.int IntKind.u8 (58 : Int))]) { boxes := bs, toks := tkR encP acc, loops := [] : Heap } (AV.sl SK.sh [AV.str a, AV.str b]) { boxes := bs, toks := tkR encP acc, loops := [] : Heap } from hs' _) <| .len (show lenA false (AV.sl SK.sh [AV.str a, AV.str b]) = some (AV.int IntKind.i64 (↑[AV.str a, AV.str b].length : Int)) from len_sl _ _) <| .ff <| .idx (show idxA (1 : Nat) (AV.sl SK.sh [AV.str a, AV.str b]) (AV.int IntKind.i64 (0 : Int)) = some (AV.ref [AV.str a]) from rfl) <| .load (show loadA false (1 : Nat) { boxes := bs, toks := tkR encP acc, loops := [] : Heap } (AV.ref [AV.str a]) = some (AV.str a) from rfl) <| .idx (show idxA (1 : Nat) (AV.sl SK.sh [AV.str a, AV.str b]) (AV.int IntKind.i64 (1 : Int)) = some (AV.ref [AV.str b]) from rfl) <| .load (show loadA false (1 : Nat) { boxes := bs, toks := tkR encP acc, loops := [] : Heap } (AV.ref [AV.str b]) = some (AV.str b) from rfl) <| .append (show appendA (2 : Nat) (32 : Nat) { boxes := bs, toks := tkR encP acc, loops := [] : Heap } (AV.sl (skF acc) (List.map encP acc)) (AV.sl SK.full [AV.agg [AV.str a, AV.str b]]) = some ((rowF encP (acc ++ [{ key := a, val := b : Pair }]), { boxes := bs, toks := tkR encP (acc ++ [{ key := a, val := b : Pair }]), loops := [] : Heap })) from hap _) <| .bin (show binA BinOp.add (AV.int IntKind.i64 (↑i : Int)) (AV.int IntKind.i64 (1 : Int)) = some (AV.int IntKind.i64 (↑(i + (1 : Nat)) : Int)) from inc_i (by omega)) <| .cutQ k59_0 [(4, AV.sl SK.sh (List.map AV.str ps)), (5, AV.sl (skF (acc ++ [{ key := a, val := b : Pair }])) (List.map encP (acc ++ [{ key := a, val := b : Pair }]))), (6, AV.int IntKind.i64 (↑(i + (1 : Nat)) : Int))] ({ boxes := bs, toks := tkR encP (acc ++ [{ key := a, val := b : Pair }]), loops := [] : Heap }) (fun T hT => (ih' (bs) T hT))) (by kernel_rfl)
theorem readP_ref (s : List UInt8) (hl : s.length ≤ 1000) (H : Heap) : Does cfg (.call (.c (.func 59 [])) [.c (.str s)]) H (.tuple [.sl .sh ((parsed partP ckS s).1.map encP), .int .i64 (parsed partP ckS s).2]) H := by
  refine does_callF (cfg := cfg) (g := 59) (xs := [.str s]) ?_ rfl rfl H
  refine GivesF.run (l59 _ _) ?_
  by_cases h45 : s = [45]
  · subst h45
    exact goG 60 []  trivial  (.tt <| .fin ((ARes.ret (AV.tuple [AV.sl SK.full [], AV.int IntKind.i64 (0 : Int)]), { boxes := [], toks := [], loops := [] : Heap })) (by exact out_bad _ _)) (by kernel_rfl)
  · obtain ⟨h1, h2⟩ := parts_len (c := 44) s
    have hs' : ∀ H, Does cfg (.call (.c (.func 80 [])) [.c (.str s), .c (.int .u8 44)]) H (.sl .sh ((parts 44 s).map .str)) H := split_does 44 hl rfl
    have h := readP_loop (parts 44 s) (by omega) (fun p hp => Nat.le_trans (h2 p hp) hl) _ 0 [] [] rfl rfl
    rw [List.drop_zero, ref_parsed encP ckS partP s h45] at h
    exact goG 60 []  trivial  (.no (show (s == [(45 : UInt8)]) = false from Bool.eq_false_iff.2 (show ¬ ((s == [(45 : UInt8)]) = true) from (by simpa using h45))) <| .effY (show Does cfg (AOp.call (Opd.c (AV.func (80 : FuncId) [])) [Opd.c (AV.str s), Opd.c (AV.int IntKind.u8 (44 : Int))]) { boxes := [], toks := [], loops := [] : Heap } (AV.sl SK.sh (List.map AV.str (parts (44 : UInt8) s))) { boxes := [], toks := [], loops := [] : Heap } from hs' _) <| .cutQ k59_0 [(4, AV.sl SK.sh (List.map AV.str (parts (44 : UInt8) s))), (5, AV.sl SK.full []), (6, AV.int IntKind.i64 (0 : Int))] ({ boxes := [], toks := [], loops := [] : Heap }) (fun T hT => (h T hT))) (by kernel_rfl)
end Go.Aa.T

set_option linter.unusedVariables false
set_option linter.unusedSimpArgs false
set_option maxRecDepth 100000
namespace Go.Aa.T
open Go.Aa Go.Proofs

def isSign (b : UInt8) : Bool := b == 58 || b == 33
def sg : List UInt8 → Nat → Nat × Nat
  | [], _ => (0, 0)
  | b :: r, k => if isSign b then ((sg r (k + 1)).1 + 1, k) else sg r (k + 1)
theorem sg_le : ∀ (s : List UInt8) (k : Nat), (sg s k).1 ≤ s.length
  | [], _ => by simp [sg]
  | b :: r, k => by
    have := sg_le r (k + 1)
    unfold sg
    split <;> simp <;> omega
theorem sg_count : ∀ (s : List UInt8) (k : Nat), (sg s k).1 = nSigns s
  | [], _ => rfl
  | b :: r, k => by
    have := sg_count r (k + 1)
    unfold sg
    simp only [nSigns, count_one] at this ⊢
    by_cases h : isSign b = true
    · rw [if_pos h]
      simp only [this]
      by_cases h58 : b = 58
      · subst h58; simp; omega
      · have h33 : b = 33 := by simpa [isSign, h58] using h
        subst h33; simp; omega
    · rw [if_neg h, this]
      simp only [isSign, Bool.or_eq_true, beq_iff_eq, not_or] at h
      simp [h.1, h.2]
theorem sg_at : ∀ (a : List UInt8) (c : UInt8) (b : List UInt8) (k : Nat), 58 ∉ a → 33 ∉ a → isSign c = true → (sg (a ++ c :: b) k).2 = k + a.length
  | [], c, b, k, _, _, hc => by simp [sg, hc]
  | x :: a, c, b, k, h1, h2, hc => by
    simp only [List.mem_cons, not_or] at h1 h2
    have hx : isSign x = false := by
      simp only [isSign, Bool.or_eq_false_iff, beq_eq_false_iff_ne]
      exact ⟨fun e => h1.1 e.symm, fun e => h2.1 e.symm⟩
    have := sg_at a c b (k + 1) h1.2 h2.2 hc
    simp only [List.cons_append, sg, hx, Bool.false_eq_true, if_false, this, List.length_cons]
    omega
theorem signs_loop (s : List UInt8) (hl : s.length ≤ 1000) : ∀ (j : Nat) (hj : j ≤ s.length) (T : Env)
    (hT : Has T [(0, .str s), (4, .int .i64 ((sg (s.drop j) j).1 : Nat)), (5, .int .i64 ((sg (s.drop j) j).2 : Nat)), (6, .int .i64 ((j : Int) - 1))]),
    Goes cfg a96 k96_0 T Heap.nil (IsRet (.tuple [.int .i64 ((sg s 0).1 : Nat), .int .i64 ((sg s 0).2 : Nat)])) := by
  intro j
  induction j with
  | zero =>
    intro hj T hT
    rw [List.drop_zero] at hT
    exact goG 60 _  hT  (.ff <| .fin ((ARes.ret (AV.tuple [AV.int IntKind.i64 (↑(sg s (0 : Nat)).fst : Int), AV.int IntKind.i64 (↑(sg s (0 : Nat)).snd : Int)]), { boxes := [], toks := [], loops := [] : Heap })) rfl) (by kernel_rfl)
  | succ j ih =>
    intro hj T hT
    have hlt : j < s.length := by omega
    obtain ⟨b, hb⟩ : ∃ b, s[j]? = some b := ⟨s[j], List.getElem?_eq_getElem hlt⟩
    have hd : s.drop j = b :: s.drop (j + 1) := by
      rw [List.drop_eq_getElem_cons hlt]
      have : s[j] = b := by rw [List.getElem?_eq_getElem hlt] at hb; exact Option.some.inj hb
      rw [this]
    have e6 : (((j + 1 : Nat) : Int) - 1) = (j : Int) := by omega
    have hle := sg_le (s.drop (j + 1)) (j + 1)
    have hle2 : (s.drop (j + 1)).length ≤ 1000 := by simp; omega
    have ih' := ih (by omega)
    rw [hd] at ih'
    rw [e6] at hT
    have hdec : binA .sub (.int .i64 (j : Nat)) (.int .i64 1) = some (.int .i64 ((j : Int) - 1)) := subI (by omega) (by omega)
    have hidx : idxsA (.str s) (.int .i64 (j : Nat)) = some (.int .u8 (b.toNat : Nat)) := idx_strg hb
    by_cases hs : isSign b = true
    · simp only [sg, hs, if_true] at ih'
      by_cases h58 : b = 58
      · subst h58
        exact goG 60 _  hT  (.tt <| .idxs (show idxsA (AV.str s) (AV.int IntKind.i64 (↑j : Int)) = some (AV.int IntKind.u8 (↑(UInt8.toNat (58 : UInt8)) : Int)) from hidx) <| .tt <| .tt <| .bin (show binA BinOp.add (AV.int IntKind.i64 (↑(sg (List.drop (j + (1 : Nat)) s) (j + (1 : Nat))).fst : Int)) (AV.int IntKind.i64 (1 : Int)) = some (AV.int IntKind.i64 (↑((sg (List.drop (j + (1 : Nat)) s) (j + (1 : Nat))).fst + (1 : Nat)) : Int)) from inc_i (by omega)) <| .bin (show binA BinOp.sub (AV.int IntKind.i64 (↑j : Int)) (AV.int IntKind.i64 (1 : Int)) = some (AV.int IntKind.i64 ((↑j : Int) - (1 : Int))) from hdec) <| .cutQ k96_0 [(0, AV.str s), (4, AV.int IntKind.i64 (↑((sg (List.drop (j + (1 : Nat)) s) (j + (1 : Nat))).fst + (1 : Nat)) : Int)), (5, AV.int IntKind.i64 (↑j : Int)), (6, AV.int IntKind.i64 ((↑j : Int) - (1 : Int)))] ({ boxes := [], toks := [], loops := [] : Heap }) (fun T hT => (ih' T hT))) (by kernel_rfl)
      · have h33 : b = 33 := by simpa [isSign, h58] using hs
        subst h33
        exact goG 60 _  hT  (.tt <| .idxs (show idxsA (AV.str s) (AV.int IntKind.i64 (↑j : Int)) = some (AV.int IntKind.u8 (↑(UInt8.toNat (33 : UInt8)) : Int)) from hidx) <| .ff <| .idxs (show idxsA (AV.str s) (AV.int IntKind.i64 (↑j : Int)) = some (AV.int IntKind.u8 (↑(UInt8.toNat (33 : UInt8)) : Int)) from hidx) <| .tt <| .bin (show binA BinOp.add (AV.int IntKind.i64 (↑(sg (List.drop (j + (1 : Nat)) s) (j + (1 : Nat))).fst : Int)) (AV.int IntKind.i64 (1 : Int)) = some (AV.int IntKind.i64 (↑((sg (List.drop (j + (1 : Nat)) s) (j + (1 : Nat))).fst + (1 : Nat)) : Int)) from inc_i (by omega)) <| .bin (show binA BinOp.sub (AV.int IntKind.i64 (↑j : Int)) (AV.int IntKind.i64 (1 : Int)) = some (AV.int IntKind.i64 ((↑j : Int) - (1 : Int))) from hdec) <| .cutQ k96_0 [(0, AV.str s), (4, AV.int IntKind.i64 (↑((sg (List.drop (j + (1 : Nat)) s) (j + (1 : Nat))).fst + (1 : Nat)) : Int)), (5, AV.int IntKind.i64 (↑j : Int)), (6, AV.int IntKind.i64 ((↑j : Int) - (1 : Int)))] ({ boxes := [], toks := [], loops := [] : Heap }) (fun T hT => (ih' T hT))) (by kernel_rfl)
    · simp only [sg, hs, Bool.false_eq_true, if_false] at ih'
      have hs' : ¬ (b = 58 ∨ b = 33) := by simpa [isSign] using hs
      have h1 : ((b.toNat : Nat) : Int) ≠ 58 := byte_ne (c := 58) (fun e => hs' (.inl e))
      have h2 : ((b.toNat : Nat) : Int) ≠ 33 := byte_ne (c := 33) (fun e => hs' (.inr e))
      exact goG 60 _  hT  (.tt <| .idxs (show idxsA (AV.str s) (AV.int IntKind.i64 (↑j : Int)) = some (AV.int IntKind.u8 (↑b.toNat : Int)) from hidx) <| .no (show ((↑b.toNat : Int) == (58 : Int)) = false from Bool.eq_false_iff.2 (show ¬ (((↑b.toNat : Int) == (58 : Int)) = true) from (by simpa using h1))) <| .idxs (show idxsA (AV.str s) (AV.int IntKind.i64 (↑j : Int)) = some (AV.int IntKind.u8 (↑b.toNat : Int)) from hidx) <| .no (show ((↑b.toNat : Int) == (33 : Int)) = false from Bool.eq_false_iff.2 (show ¬ (((↑b.toNat : Int) == (33 : Int)) = true) from (by simpa using h2))) <| .bin (show binA BinOp.sub (AV.int IntKind.i64 (↑j : Int)) (AV.int IntKind.i64 (1 : Int)) = some (AV.int IntKind.i64 ((↑j : Int) - (1 : Int))) from hdec) <| .cutQ k96_0 [(0, AV.str s), (4, AV.int IntKind.i64 (↑(sg (List.drop (j + (1 : Nat)) s) (j + (1 : Nat))).fst : Int)), (5, AV.int IntKind.i64 (↑(sg (List.drop (j + (1 : Nat)) s) (j + (1 : Nat))).snd : Int)), (6, AV.int IntKind.i64 ((↑j : Int) - (1 : Int)))] ({ boxes := [], toks := [], loops := [] : Heap }) (fun T hT => (ih' T hT))) (by kernel_rfl)
theorem signs96 (s : List UInt8) (hl : s.length ≤ 1000) : Gives cfg 96 [.str s] (.tuple [.int .i64 (nSigns s : Nat), .int .i64 ((sg s 0).2 : Nat)]) := by
  refine Gives.run (l96 _ _) ?_
  have h := signs_loop s hl s.length (Nat.le_refl _)
  rw [List.drop_length] at h
  simp only [sg] at h
  have e := sg_count s 0
  rw [e] at h
  have hsub : binA .sub (.int .i64 (s.length : Nat)) (.int .i64 1) = some (.int .i64 ((s.length : Int) - 1)) := subI (by omega) (by omega)
  exact goG 60 []  trivial  (.len (show lenA true (AV.str s) = some (AV.int IntKind.i64 (↑s.length : Int)) from len_str _) <| .bin (show binA BinOp.sub (AV.int IntKind.i64 (↑s.length : Int)) (AV.int IntKind.i64 (1 : Int)) = some (AV.int IntKind.i64 ((↑s.length : Int) - (1 : Int))) from hsub) <| .cutQ k96_0 [(0, AV.str s), (4, AV.int IntKind.i64 (0 : Int)), (5, AV.int IntKind.i64 (0 : Int)), (6, AV.int IntKind.i64 ((↑s.length : Int) - (1 : Int)))] ({ boxes := [], toks := [], loops := [] : Heap }) (fun T hT => (h T hT))) (by kernel_rfl)
end Go.Aa.T

set_option linter.unusedVariables false
set_option linter.unusedSimpArgs false
set_option maxRecDepth 100000
namespace Go.Aa.T
open Go.Aa Go.Proofs
theorem few_names {X : Type} (f : X → List UInt8 × List UInt8) (l : List X) (h : ∀ x ∈ l, (f x).1.length ≤ 12 ∧ (f x).2.length ≤ 12) : few f l = true := by
  induction l with
  | nil => rfl
  | cons x l ih =>
    have h1 := h x (by simp)
    have h2 := ih (fun y hy => h y (by simp [hy]))
    simp only [few, Bool.and_eq_true, decide_eq_true_eq] at h2 ⊢
    grind [few]
theorem parsed_ck {X : Type} (pf : List UInt8 → Option X) (ck : List X → Int) (s : List UInt8) (h0 : ck [] = 0) : ck (parsed pf ck s).1 = 0 := by
  unfold parsed
  split
  · exact h0
  · split
    · exact h0
    · split
      · assumption
      · exact h0
end Go.Aa.T

set_option linter.unusedVariables false
set_option linter.unusedSimpArgs false
set_option maxRecDepth 100000
namespace Go.Aa.T
open Go.Aa Go.Proofs
theorem nsigns_zero {y : List UInt8} (h : nSigns y = 0) : cutAt 58 y = none ∧ cutAt 33 y = none := by
  simp only [nSigns] at h
  have h1 : 58 ∉ y := List.count_eq_zero.1 (show List.count 58 y = 0 by simp only [Lib.countByte] at h; omega)
  have h2 : 33 ∉ y := List.count_eq_zero.1 (show List.count 33 y = 0 by simp only [Lib.countByte] at h; omega)
  exact ⟨cutAt_miss h1, cutAt_miss h2⟩
theorem nsigns_one {y : List UInt8} (h : nSigns y = 1) : ∃ a c b, y = a ++ c :: b ∧ 58 ∉ a ∧ 33 ∉ a ∧ (c = 58 ∧ cutAt 58 y = some (a, b) ∨ c = 33 ∧ cutAt 58 y = none ∧ cutAt 33 y = some (a, b)) := by
  cases hc : cutAt 58 y with
  | some p =>
    obtain ⟨a, b⟩ := p
    obtain ⟨rfl, hn⟩ := cutAt_some hc
    refine ⟨a, 58, b, rfl, hn, ?_, .inl ⟨rfl, rfl⟩⟩
    simp only [nSigns, count_app, count_one] at h
    intro h33
    have := List.count_pos_iff.2 h33
    simp only [Lib.countByte] at h
    simp at h
    omega
  | none =>
    have h58 := cutAt_none hc
    cases hc2 : cutAt 33 y with
    | none =>
      have h33 := cutAt_none hc2
      simp only [nSigns, count_no h58, count_no h33] at h
      omega
    | some p =>
      obtain ⟨a, b⟩ := p
      obtain ⟨e, hn⟩ := cutAt_some hc2
      exact ⟨a, 33, b, e, fun hh => h58 (by rw [e]; simp [hh]), hn, .inr ⟨rfl, rfl, rfl⟩⟩
theorem readM_loop (ps : List (List UInt8)) (hn : ps.length ≤ 1001) (hl : ∀ p ∈ ps, p.length ≤ 1000) : ∀ (post : List (List UInt8)) (i : Nat) (acc : List Term) (bs : List (List AV)) (hd : ps.drop i = post) (ha : acc.length = i) (T : Env)
    (hT : Has T [(4, .sl .sh (ps.map AV.str)), (5, rowF encM acc), (6, .int .i64 i)]),
    Goes cfg a60 k60_0 T ⟨bs, tkR encM acc, []⟩ (IsOut (refV encM ckM (foldE (collect partM) acc post))) := by
  intro post
  induction post with
  | nil =>
    intro i acc bs hd ha T hT
    have hge := drop_ge hd
    by_cases hc : ckM acc = 0
    · have e : refV encM ckM (foldE (collect partM) acc []) = .tuple [.sl .sh (acc.map encM), .int .i64 0] := by simp [foldE, refV, hc]
      rw [e]
      exact goG 60 _  hT  (.len (show lenA false (AV.sl SK.sh (List.map AV.str ps)) = some (AV.int IntKind.i64 (↑ps.length : Int)) from len_map _) <| .no (show (decide ((↑i : Int) < (↑ps.length : Int))) = false from decide_eq_false (show ¬ ((↑i : Int) < (↑ps.length : Int)) from (by omega))) <| .callG ([AV.sl (skF acc) (List.map encM acc)]) (AV.int IntKind.i64 (ckM acc)) (show Gives cfg (44 : FuncId) [AV.sl SK.sh (List.map encM acc)] (AV.int IntKind.i64 (ckM acc)) from ckM_ref _) Shuts.p ⟨rfl, rfl⟩ <| .no (show (ckM acc != (0 : Int)) = false from Bool.eq_false_iff.2 (show ¬ ((ckM acc != (0 : Int)) = true) from (by simpa using hc))) <| .fin ((ARes.ret (AV.tuple [AV.sl (skF acc) (List.map encM acc), AV.int IntKind.i64 (0 : Int)]), { boxes := bs, toks := tkR encM acc, loops := [] : Heap })) (by exact out_row _ _ _ _)) (by kernel_rfl)
    · have e : refV encM ckM (foldE (collect partM) acc []) = .tuple [.sl .sh [], .int .i64 (ckM acc)] := by simp [foldE, refV, hc]
      rw [e]
      exact goG 60 _  hT  (.len (show lenA false (AV.sl SK.sh (List.map AV.str ps)) = some (AV.int IntKind.i64 (↑ps.length : Int)) from len_map _) <| .no (show (decide ((↑i : Int) < (↑ps.length : Int))) = false from decide_eq_false (show ¬ ((↑i : Int) < (↑ps.length : Int)) from (by omega))) <| .callG ([AV.sl (skF acc) (List.map encM acc)]) (AV.int IntKind.i64 (ckM acc)) (show Gives cfg (44 : FuncId) [AV.sl SK.sh (List.map encM acc)] (AV.int IntKind.i64 (ckM acc)) from ckM_ref _) Shuts.p ⟨rfl, rfl⟩ <| .yes (show (ckM acc != (0 : Int)) = true from (by simpa using hc)) <| .fin ((ARes.ret (AV.tuple [AV.sl SK.full [], AV.int IntKind.i64 (ckM acc)]), { boxes := bs, toks := tkR encM acc, loops := [] : Heap })) (by exact out_bad _ _)) (by kernel_rfl)
  | cons y post ih =>
    intro i acc bs hd ha T hT
    have hlt := drop_lt hd
    have hnx := drop_next hd
    have hyl := hl y (drop_mem hd)
    have step : ∀ x, y ≠ [] → partM y = some x → foldE (collect partM) acc (y :: post) = foldE (collect partM) (acc ++ [x]) post := fun x h0 hx => by
      simp [foldE, collect, hx, h0]
    have bad : y = [] ∨ partM y = none → refV encM ckM (foldE (collect partM) acc (y :: post)) = .tuple [.sl .sh [], .int .i64 2] := fun h => by
      have : collect partM acc y = none := by
        unfold collect
        rcases h with h | h
        · rw [if_pos h]
        · split
          · rfl
          · rw [h]; rfl
      simp [foldE, this, refV]
    have happ : ∀ (x : Term) (bs : List (List AV)), appendA 3 40 ⟨bs, tkR encM acc, []⟩ (rowF encM acc) (.sl .full [.agg [.int .i64 x.op, .str x.key, .str x.val]]) = some (rowF encM (acc ++ [x]), ⟨bs, tkR encM (acc ++ [x]), []⟩) := fun x bs =>
      row_append_T encM (x := x) (by rw [List.length_map]; omega) lenM rfl rfl
    have hsg := signs96 y hyl
    by_cases hy : y = []
    · rw [bad (.inl hy)]
      exact goG 60 _  hT  (.len (show lenA false (AV.sl SK.sh (List.map AV.str ps)) = some (AV.int IntKind.i64 (↑ps.length : Int)) from len_map _) <| .yes (show (decide ((↑i : Int) < (↑ps.length : Int))) = true from decide_eq_true (show (↑i : Int) < (↑ps.length : Int) from (by omega))) <| .idx (show idxA (1 : Nat) (AV.sl SK.sh (List.map AV.str ps)) (AV.int IntKind.i64 (↑i : Int)) = some (AV.ref (AV.str y).cells) from idx_row hd (by rfl)) <| .load (show loadA false (1 : Nat) { boxes := bs, toks := tkR encM acc, loops := [] : Heap } (AV.ref [AV.str y]) = some (AV.str y) from rfl) <| .callG ([AV.str y]) (AV.tuple [AV.int IntKind.i64 (↑(nSigns y) : Int), AV.int IntKind.i64 (↑(sg y (0 : Nat)).snd : Int)]) (show Gives cfg (96 : FuncId) [AV.str y] (AV.tuple [AV.int IntKind.i64 (↑(nSigns y) : Int), AV.int IntKind.i64 (↑(sg y (0 : Nat)).snd : Int)]) from hsg) ⟨rfl, rfl⟩ ⟨rfl, rfl⟩ <| .yes (show (y == []) = true from (by simpa using hy)) <| .tt <| .tt <| .fin ((ARes.ret (AV.tuple [AV.sl SK.full [], AV.int IntKind.i64 (2 : Int)]), { boxes := bs, toks := tkR encM acc, loops := [] : Heap })) (by exact out_bad _ _)) (by kernel_rfl)
    · obtain ⟨x, r, hxr⟩ := List.exists_cons_of_ne_nil hy
      have h0 : idxsA (.str y) (.int .i64 0) = some (.int .u8 (x.toNat : Nat)) := by rw [hxr]; exact idx_strg (i := 0) (c := x) rfl
      have hhd : y.head? = some x := by rw [hxr]; rfl
      by_cases h2 : nSigns y > 1
      · rw [bad (.inr (by unfold partM; rw [if_pos (.inl h2)]))]
        exact goG 60 _  hT  (.len (show lenA false (AV.sl SK.sh (List.map AV.str ps)) = some (AV.int IntKind.i64 (↑ps.length : Int)) from len_map _) <| .yes (show (decide ((↑i : Int) < (↑ps.length : Int))) = true from decide_eq_true (show (↑i : Int) < (↑ps.length : Int) from (by omega))) <| .idx (show idxA (1 : Nat) (AV.sl SK.sh (List.map AV.str ps)) (AV.int IntKind.i64 (↑i : Int)) = some (AV.ref (AV.str y).cells) from idx_row hd (by rfl)) <| .load (show loadA false (1 : Nat) { boxes := bs, toks := tkR encM acc, loops := [] : Heap } (AV.ref [AV.str y]) = some (AV.str y) from rfl) <| .callG ([AV.str y]) (AV.tuple [AV.int IntKind.i64 (↑(nSigns y) : Int), AV.int IntKind.i64 (↑(sg y (0 : Nat)).snd : Int)]) (show Gives cfg (96 : FuncId) [AV.str y] (AV.tuple [AV.int IntKind.i64 (↑(nSigns y) : Int), AV.int IntKind.i64 (↑(sg y (0 : Nat)).snd : Int)]) from hsg) ⟨rfl, rfl⟩ ⟨rfl, rfl⟩ <| .no (show (y == []) = false from Bool.eq_false_iff.2 (show ¬ ((y == []) = true) from (by simpa using hy))) <| .yes (show (decide ((1 : Int) < (↑(nSigns y) : Int))) = true from decide_eq_true (show (1 : Int) < (↑(nSigns y) : Int) from (by omega))) <| .tt <| .fin ((ARes.ret (AV.tuple [AV.sl SK.full [], AV.int IntKind.i64 (2 : Int)]), { boxes := bs, toks := tkR encM acc, loops := [] : Heap })) (by exact out_bad _ _)) (by kernel_rfl)
      · by_cases h1 : nSigns y = 1
        · have hsg1 : Gives cfg 96 [.str y] (.tuple [.int .i64 1, .int .i64 ((sg y 0).2 : Nat)]) := by rw [h1] at hsg; exact hsg
          by_cases h45 : x = 45
          · rw [bad (.inr (by unfold partM; rw [if_pos (.inr ⟨by omega, by rw [hhd, h45]⟩)]))]
            subst h45
            exact goG 60 _  hT  (.len (show lenA false (AV.sl SK.sh (List.map AV.str ps)) = some (AV.int IntKind.i64 (↑ps.length : Int)) from len_map _) <| .yes (show (decide ((↑i : Int) < (↑ps.length : Int))) = true from decide_eq_true (show (↑i : Int) < (↑ps.length : Int) from (by omega))) <| .idx (show idxA (1 : Nat) (AV.sl SK.sh (List.map AV.str ps)) (AV.int IntKind.i64 (↑i : Int)) = some (AV.ref (AV.str y).cells) from idx_row hd (by rfl)) <| .load (show loadA false (1 : Nat) { boxes := bs, toks := tkR encM acc, loops := [] : Heap } (AV.ref [AV.str y]) = some (AV.str y) from rfl) <| .callG ([AV.str y]) (AV.tuple [AV.int IntKind.i64 (1 : Int), AV.int IntKind.i64 (↑(sg y (0 : Nat)).snd : Int)]) (show Gives cfg (96 : FuncId) [AV.str y] (AV.tuple [AV.int IntKind.i64 (1 : Int), AV.int IntKind.i64 (↑(sg y (0 : Nat)).snd : Int)]) from hsg1) ⟨rfl, rfl⟩ ⟨rfl, rfl⟩ <| .no (show (y == []) = false from Bool.eq_false_iff.2 (show ¬ ((y == []) = true) from (by simpa using hy))) <| .ff <| .tt <| .idxs (show idxsA (AV.str y) (AV.int IntKind.i64 (0 : Int)) = some (AV.int IntKind.u8 (↑(UInt8.toNat (45 : UInt8)) : Int)) from h0) <| .tt <| .fin ((ARes.ret (AV.tuple [AV.sl SK.full [], AV.int IntKind.i64 (2 : Int)]), { boxes := bs, toks := tkR encM acc, loops := [] : Heap })) (by exact out_bad _ _)) (by kernel_rfl)
          · have hx45 : ((x.toNat : Nat) : Int) ≠ 45 := byte_ne (c := 45) h45
            have hh : ¬ y.head? = some 45 := by rw [hhd]; simpa using h45
            have hng : ¬ (nSigns y > 1 ∨ (nSigns y > 0 ∧ y.head? = some 45)) := by
              rintro (h | h)
              · omega
              · exact hh h.2
            obtain ⟨a, c, b, e, ha1, ha2, hcc⟩ := nsigns_one h1
            have hat : (sg y 0).2 = a.length := by
              rw [e, sg_at a c b 0 ha1 ha2 (by rcases hcc with ⟨rfl, _⟩ | ⟨rfl, _⟩ <;> rfl)]; omega
            rw [hat] at hsg1
            have hal : a.length < y.length := by rw [e]; simp
            have hidx : idxsA (.str y) (.int .i64 (a.length : Nat)) = some (.int .u8 (c.toNat : Nat)) := idx_strg (by rw [e]; simp)
            have hs1 : sliceA 0 (.str y) none (some (.int .i64 (a.length : Nat))) none = some (.str a) := by
              rw [sstr_to (by omega), e]; simp
            have hs2 : sliceA 0 (.str y) (some (.int .i64 ((a.length + 1 : Nat) : Int))) none none = some (.str b) := by
              rw [sstr_from (by omega), e]; simp
            have hinc : binA .add (.int .i64 (a.length : Nat)) (.int .i64 1) = some (.int .i64 ((a.length + 1 : Nat) : Int)) := inc_i (by omega)
            rcases hcc with ⟨rfl, hc⟩ | ⟨rfl, hc, hc2⟩
            · have hx : partM y = some ⟨1, a, b⟩ := by unfold partM; rw [if_neg hng, if_neg hh, hc]
              rw [step _ hy hx]
              have hap := happ ⟨1, a, b⟩
              have ih' := fun bs => ih (i + 1) (acc ++ [⟨1, a, b⟩]) bs hnx (by simp [ha])
              exact goG 60 _  hT  (.len (show lenA false (AV.sl SK.sh (List.map AV.str ps)) = some (AV.int IntKind.i64 (↑ps.length : Int)) from len_map _) <| .yes (show (decide ((↑i : Int) < (↑ps.length : Int))) = true from decide_eq_true (show (↑i : Int) < (↑ps.length : Int) from (by omega))) <| .idx (show idxA (1 : Nat) (AV.sl SK.sh (List.map AV.str ps)) (AV.int IntKind.i64 (↑i : Int)) = some (AV.ref (AV.str y).cells) from idx_row hd (by rfl)) <| .load (show loadA false (1 : Nat) { boxes := bs, toks := tkR encM acc, loops := [] : Heap } (AV.ref [AV.str y]) = some (AV.str y) from rfl) <| .callG ([AV.str y]) (AV.tuple [AV.int IntKind.i64 (1 : Int), AV.int IntKind.i64 (↑a.length : Int)]) (show Gives cfg (96 : FuncId) [AV.str y] (AV.tuple [AV.int IntKind.i64 (1 : Int), AV.int IntKind.i64 (↑a.length : Int)]) from hsg1) ⟨rfl, rfl⟩ ⟨rfl, rfl⟩ <| .no (show (y == []) = false from Bool.eq_false_iff.2 (show ¬ ((y == []) = true) from (by simpa using hy))) <| .ff <| .tt <| .idxs (show idxsA (AV.str y) (AV.int IntKind.i64 (0 : Int)) = some (AV.int IntKind.u8 (↑x.toNat : Int)) from h0) <| .no (show ((↑x.toNat : Int) == (45 : Int)) = false from Bool.eq_false_iff.2 (show ¬ (((↑x.toNat : Int) == (45 : Int)) = true) from (by simpa using hx45))) <| .ff <| .ff <| .ff <| .idxs (show idxsA (AV.str y) (AV.int IntKind.i64 (↑a.length : Int)) = some (AV.int IntKind.u8 (↑(UInt8.toNat (58 : UInt8)) : Int)) from hidx) <| .tt <| .slice (show sliceA (0 : Nat) (AV.str y) none (some (AV.int IntKind.i64 (↑a.length : Int))) none = some (AV.str a) from hs1) <| .bin (show binA BinOp.add (AV.int IntKind.i64 (↑a.length : Int)) (AV.int IntKind.i64 (1 : Int)) = some (AV.int IntKind.i64 (↑(a.length + (1 : Nat)) : Int)) from hinc) <| .slice (show sliceA (0 : Nat) (AV.str y) (some (AV.int IntKind.i64 (↑(a.length + (1 : Nat)) : Int))) none none = some (AV.str b) from hs2) <| .append (show appendA (3 : Nat) (40 : Nat) { boxes := bs, toks := tkR encM acc, loops := [] : Heap } (AV.sl (skF acc) (List.map encM acc)) (AV.sl SK.full [AV.agg [AV.int IntKind.i64 (1 : Int), AV.str a, AV.str b]]) = some ((rowF encM (acc ++ [{ op := (1 : Int), key := a, val := b : Term }]), { boxes := bs, toks := tkR encM (acc ++ [{ op := (1 : Int), key := a, val := b : Term }]), loops := [] : Heap })) from hap _) <| .bin (show binA BinOp.add (AV.int IntKind.i64 (↑i : Int)) (AV.int IntKind.i64 (1 : Int)) = some (AV.int IntKind.i64 (↑(i + (1 : Nat)) : Int)) from inc_i (by omega)) <| .cutQ k60_0 [(4, AV.sl SK.sh (List.map AV.str ps)), (5, AV.sl (skF (acc ++ [{ op := (1 : Int), key := a, val := b : Term }])) (List.map encM (acc ++ [{ op := (1 : Int), key := a, val := b : Term }]))), (6, AV.int IntKind.i64 (↑(i + (1 : Nat)) : Int))] ({ boxes := bs, toks := tkR encM (acc ++ [{ op := (1 : Int), key := a, val := b : Term }]), loops := [] : Heap }) (fun T hT => (ih' (bs) T hT))) (by kernel_rfl)
            · have hx : partM y = some ⟨2, a, b⟩ := by unfold partM; rw [if_neg hng, if_neg hh, hc]; simp only [hc2]
              rw [step _ hy hx]
              have hap := happ ⟨2, a, b⟩
              have ih' := fun bs => ih (i + 1) (acc ++ [⟨2, a, b⟩]) bs hnx (by simp [ha])
              exact goG 60 _  hT  (.len (show lenA false (AV.sl SK.sh (List.map AV.str ps)) = some (AV.int IntKind.i64 (↑ps.length : Int)) from len_map _) <| .yes (show (decide ((↑i : Int) < (↑ps.length : Int))) = true from decide_eq_true (show (↑i : Int) < (↑ps.length : Int) from (by omega))) <| .idx (show idxA (1 : Nat) (AV.sl SK.sh (List.map AV.str ps)) (AV.int IntKind.i64 (↑i : Int)) = some (AV.ref (AV.str y).cells) from idx_row hd (by rfl)) <| .load (show loadA false (1 : Nat) { boxes := bs, toks := tkR encM acc, loops := [] : Heap } (AV.ref [AV.str y]) = some (AV.str y) from rfl) <| .callG ([AV.str y]) (AV.tuple [AV.int IntKind.i64 (1 : Int), AV.int IntKind.i64 (↑a.length : Int)]) (show Gives cfg (96 : FuncId) [AV.str y] (AV.tuple [AV.int IntKind.i64 (1 : Int), AV.int IntKind.i64 (↑a.length : Int)]) from hsg1) ⟨rfl, rfl⟩ ⟨rfl, rfl⟩ <| .no (show (y == []) = false from Bool.eq_false_iff.2 (show ¬ ((y == []) = true) from (by simpa using hy))) <| .ff <| .tt <| .idxs (show idxsA (AV.str y) (AV.int IntKind.i64 (0 : Int)) = some (AV.int IntKind.u8 (↑x.toNat : Int)) from h0) <| .no (show ((↑x.toNat : Int) == (45 : Int)) = false from Bool.eq_false_iff.2 (show ¬ (((↑x.toNat : Int) == (45 : Int)) = true) from (by simpa using hx45))) <| .ff <| .ff <| .ff <| .idxs (show idxsA (AV.str y) (AV.int IntKind.i64 (↑a.length : Int)) = some (AV.int IntKind.u8 (↑(UInt8.toNat (33 : UInt8)) : Int)) from hidx) <| .ff <| .slice (show sliceA (0 : Nat) (AV.str y) none (some (AV.int IntKind.i64 (↑a.length : Int))) none = some (AV.str a) from hs1) <| .bin (show binA BinOp.add (AV.int IntKind.i64 (↑a.length : Int)) (AV.int IntKind.i64 (1 : Int)) = some (AV.int IntKind.i64 (↑(a.length + (1 : Nat)) : Int)) from hinc) <| .slice (show sliceA (0 : Nat) (AV.str y) (some (AV.int IntKind.i64 (↑(a.length + (1 : Nat)) : Int))) none none = some (AV.str b) from hs2) <| .append (show appendA (3 : Nat) (40 : Nat) { boxes := bs, toks := tkR encM acc, loops := [] : Heap } (AV.sl (skF acc) (List.map encM acc)) (AV.sl SK.full [AV.agg [AV.int IntKind.i64 (2 : Int), AV.str a, AV.str b]]) = some ((rowF encM (acc ++ [{ op := (2 : Int), key := a, val := b : Term }]), { boxes := bs, toks := tkR encM (acc ++ [{ op := (2 : Int), key := a, val := b : Term }]), loops := [] : Heap })) from hap _) <| .bin (show binA BinOp.add (AV.int IntKind.i64 (↑i : Int)) (AV.int IntKind.i64 (1 : Int)) = some (AV.int IntKind.i64 (↑(i + (1 : Nat)) : Int)) from inc_i (by omega)) <| .cutQ k60_0 [(4, AV.sl SK.sh (List.map AV.str ps)), (5, AV.sl (skF (acc ++ [{ op := (2 : Int), key := a, val := b : Term }])) (List.map encM (acc ++ [{ op := (2 : Int), key := a, val := b : Term }]))), (6, AV.int IntKind.i64 (↑(i + (1 : Nat)) : Int))] ({ boxes := bs, toks := tkR encM (acc ++ [{ op := (2 : Int), key := a, val := b : Term }]), loops := [] : Heap }) (fun T hT => (ih' (bs) T hT))) (by kernel_rfl)
        · have hz : nSigns y = 0 := by omega
          have hsg0 : Gives cfg 96 [.str y] (.tuple [.int .i64 0, .int .i64 ((sg y 0).2 : Nat)]) := by rw [hz] at hsg; exact hsg
          obtain ⟨hc, hc2⟩ := nsigns_zero hz
          have hng : ¬ (nSigns y > 1 ∨ (nSigns y > 0 ∧ y.head? = some 45)) := by omega
          by_cases h45 : x = 45
          · have hs1 : sliceA 0 (.str y) (some (.int .i64 1)) none none = some (.str r) := by
              have := sstr_from (s := y) (k := 1) (q := .i64) (by rw [hxr]; simp)
              rw [show ((1 : Nat) : Int) = 1 from rfl] at this
              rw [this, hxr]; rfl
            have hx : partM y = some ⟨4, r, []⟩ := by
              unfold partM; rw [if_neg hng, if_pos (by rw [hhd, h45]), hxr]; rfl
            rw [step _ hy hx]
            have hap := happ ⟨4, r, []⟩
            have ih' := fun bs => ih (i + 1) (acc ++ [⟨4, r, []⟩]) bs hnx (by simp [ha])
            subst h45
            exact goG 60 _  hT  (.len (show lenA false (AV.sl SK.sh (List.map AV.str ps)) = some (AV.int IntKind.i64 (↑ps.length : Int)) from len_map _) <| .yes (show (decide ((↑i : Int) < (↑ps.length : Int))) = true from decide_eq_true (show (↑i : Int) < (↑ps.length : Int) from (by omega))) <| .idx (show idxA (1 : Nat) (AV.sl SK.sh (List.map AV.str ps)) (AV.int IntKind.i64 (↑i : Int)) = some (AV.ref (AV.str y).cells) from idx_row hd (by rfl)) <| .load (show loadA false (1 : Nat) { boxes := bs, toks := tkR encM acc, loops := [] : Heap } (AV.ref [AV.str y]) = some (AV.str y) from rfl) <| .callG ([AV.str y]) (AV.tuple [AV.int IntKind.i64 (0 : Int), AV.int IntKind.i64 (↑(sg y (0 : Nat)).snd : Int)]) (show Gives cfg (96 : FuncId) [AV.str y] (AV.tuple [AV.int IntKind.i64 (0 : Int), AV.int IntKind.i64 (↑(sg y (0 : Nat)).snd : Int)]) from hsg0) ⟨rfl, rfl⟩ ⟨rfl, rfl⟩ <| .no (show (y == []) = false from Bool.eq_false_iff.2 (show ¬ ((y == []) = true) from (by simpa using hy))) <| .ff <| .ff <| .ff <| .tt <| .idxs (show idxsA (AV.str y) (AV.int IntKind.i64 (0 : Int)) = some (AV.int IntKind.u8 (↑(UInt8.toNat (45 : UInt8)) : Int)) from h0) <| .tt <| .slice (show sliceA (0 : Nat) (AV.str y) (some (AV.int IntKind.i64 (1 : Int))) none none = some (AV.str r) from hs1) <| .append (show appendA (3 : Nat) (40 : Nat) { boxes := bs, toks := tkR encM acc, loops := [] : Heap } (AV.sl (skF acc) (List.map encM acc)) (AV.sl SK.full [AV.agg [AV.int IntKind.i64 (4 : Int), AV.str r, AV.str []]]) = some ((rowF encM (acc ++ [{ op := (4 : Int), key := r, val := [] : Term }]), { boxes := bs, toks := tkR encM (acc ++ [{ op := (4 : Int), key := r, val := [] : Term }]), loops := [] : Heap })) from hap _) <| .bin (show binA BinOp.add (AV.int IntKind.i64 (↑i : Int)) (AV.int IntKind.i64 (1 : Int)) = some (AV.int IntKind.i64 (↑(i + (1 : Nat)) : Int)) from inc_i (by omega)) <| .cutQ k60_0 [(4, AV.sl SK.sh (List.map AV.str ps)), (5, AV.sl (skF (acc ++ [{ op := (4 : Int), key := r, val := [] : Term }])) (List.map encM (acc ++ [{ op := (4 : Int), key := r, val := [] : Term }]))), (6, AV.int IntKind.i64 (↑(i + (1 : Nat)) : Int))] ({ boxes := bs, toks := tkR encM (acc ++ [{ op := (4 : Int), key := r, val := [] : Term }]), loops := [] : Heap }) (fun T hT => (ih' (bs) T hT))) (by kernel_rfl)
          · have hx45 : ((x.toNat : Nat) : Int) ≠ 45 := byte_ne (c := 45) h45
            have hh : ¬ y.head? = some 45 := by rw [hhd]; simpa using h45
            have hx : partM y = some ⟨3, y, []⟩ := by
              unfold partM; rw [if_neg hng, if_neg hh, hc]; simp only [hc2]
            rw [step _ hy hx]
            have hap := happ ⟨3, y, []⟩
            have ih' := fun bs => ih (i + 1) (acc ++ [⟨3, y, []⟩]) bs hnx (by simp [ha])
            exact goG 60 _  hT  (.len (show lenA false (AV.sl SK.sh (List.map AV.str ps)) = some (AV.int IntKind.i64 (↑ps.length : Int)) from len_map _) <| .yes (show (decide ((↑i : Int) < (↑ps.length : Int))) = true from decide_eq_true (show (↑i : Int) < (↑ps.length : Int) from (by omega))) <| .idx (show idxA (1 : Nat) (AV.sl SK.sh (List.map AV.str ps)) (AV.int IntKind.i64 (↑i : Int)) = some (AV.ref (AV.str y).cells) from idx_row hd (by rfl)) <| .load (show loadA false (1 : Nat) { boxes := bs, toks := tkR encM acc, loops := [] : Heap } (AV.ref [AV.str y]) = some (AV.str y) from rfl) <| .callG ([AV.str y]) (AV.tuple [AV.int IntKind.i64 (0 : Int), AV.int IntKind.i64 (↑(sg y (0 : Nat)).snd : Int)]) (show Gives cfg (96 : FuncId) [AV.str y] (AV.tuple [AV.int IntKind.i64 (0 : Int), AV.int IntKind.i64 (↑(sg y (0 : Nat)).snd : Int)]) from hsg0) ⟨rfl, rfl⟩ ⟨rfl, rfl⟩ <| .no (show (y == []) = false from Bool.eq_false_iff.2 (show ¬ ((y == []) = true) from (by simpa using hy))) <| .ff <| .ff <| .ff <| .tt <| .idxs (show idxsA (AV.str y) (AV.int IntKind.i64 (0 : Int)) = some (AV.int IntKind.u8 (↑x.toNat : Int)) from h0) <| .no (show ((↑x.toNat : Int) == (45 : Int)) = false from Bool.eq_false_iff.2 (show ¬ (((↑x.toNat : Int) == (45 : Int)) = true) from (by simpa using hx45))) <| .tt <| .append (show appendA (3 : Nat) (40 : Nat) { boxes := bs, toks := tkR encM acc, loops := [] : Heap } (AV.sl (skF acc) (List.map encM acc)) (AV.sl SK.full [AV.agg [AV.int IntKind.i64 (3 : Int), AV.str y, AV.str []]]) = some ((rowF encM (acc ++ [{ op := (3 : Int), key := y, val := [] : Term }]), { boxes := bs, toks := tkR encM (acc ++ [{ op := (3 : Int), key := y, val := [] : Term }]), loops := [] : Heap })) from hap _) <| .bin (show binA BinOp.add (AV.int IntKind.i64 (↑i : Int)) (AV.int IntKind.i64 (1 : Int)) = some (AV.int IntKind.i64 (↑(i + (1 : Nat)) : Int)) from inc_i (by omega)) <| .cutQ k60_0 [(4, AV.sl SK.sh (List.map AV.str ps)), (5, AV.sl (skF (acc ++ [{ op := (3 : Int), key := y, val := [] : Term }])) (List.map encM (acc ++ [{ op := (3 : Int), key := y, val := [] : Term }]))), (6, AV.int IntKind.i64 (↑(i + (1 : Nat)) : Int))] ({ boxes := bs, toks := tkR encM (acc ++ [{ op := (3 : Int), key := y, val := [] : Term }]), loops := [] : Heap }) (fun T hT => (ih' (bs) T hT))) (by kernel_rfl)
theorem readM_ref (s : List UInt8) (hl : s.length ≤ 1000) (H : Heap) : Does cfg (.call (.c (.func 60 [])) [.c (.str s)]) H (.tuple [.sl .sh ((parsed partM ckM s).1.map encM), .int .i64 (parsed partM ckM s).2]) H := by
  refine does_callF (cfg := cfg) (g := 60) (xs := [.str s]) ?_ rfl rfl H
  refine GivesF.run (l60 _ _) ?_
  by_cases h45 : s = [45]
  · subst h45
    exact goG 60 []  trivial  (.tt <| .fin ((ARes.ret (AV.tuple [AV.sl SK.full [], AV.int IntKind.i64 (0 : Int)]), { boxes := [], toks := [], loops := [] : Heap })) (by exact out_bad _ _)) (by kernel_rfl)
  · obtain ⟨h1, h2⟩ := parts_len (c := 44) s
    have hs' : ∀ H, Does cfg (.call (.c (.func 80 [])) [.c (.str s), .c (.int .u8 44)]) H (.sl .sh ((parts 44 s).map .str)) H := split_does 44 hl rfl
    have h := readM_loop (parts 44 s) (by omega) (fun p hp => Nat.le_trans (h2 p hp) hl) _ 0 [] [] rfl rfl
    rw [List.drop_zero, ref_parsed encM ckM partM s h45] at h
    exact goG 60 []  trivial  (.no (show (s == [(45 : UInt8)]) = false from Bool.eq_false_iff.2 (show ¬ ((s == [(45 : UInt8)]) = true) from (by simpa using h45))) <| .effY (show Does cfg (AOp.call (Opd.c (AV.func (80 : FuncId) [])) [Opd.c (AV.str s), Opd.c (AV.int IntKind.u8 (44 : Int))]) { boxes := [], toks := [], loops := [] : Heap } (AV.sl SK.sh (List.map AV.str (parts (44 : UInt8) s))) { boxes := [], toks := [], loops := [] : Heap } from hs' _) <| .cutQ k60_0 [(4, AV.sl SK.sh (List.map AV.str (parts (44 : UInt8) s))), (5, AV.sl SK.full []), (6, AV.int IntKind.i64 (0 : Int))] ({ boxes := [], toks := [], loops := [] : Heap }) (fun T hT => (h T hT))) (by kernel_rfl)
theorem ckS_few {l : List Pair} (h : ckS l = 0) : fewP l = true := by
  have hn : l.length ≤ 8 := by unfold ckS at h; split at h <;> first | assumption | cases h
  simp only [fewP, Bool.and_eq_true, decide_eq_true_eq]
  refine ⟨by omega, few_names _ l fun x hx => ?_⟩
  have hg := ckS_good h x hx
  simp only [goodP, Bool.and_eq_true] at hg
  exact ⟨name_len hg.1, name_len hg.2⟩
theorem ckM_few {l : List Term} (h : ckM l = 0) : fewM l = true := by
  have hn : l.length ≤ 8 := by unfold ckM at h; split at h <;> first | assumption | cases h
  simp only [fewM, Bool.and_eq_true, decide_eq_true_eq]
  refine ⟨by omega, few_names _ l fun x hx => ?_⟩
  have hg := ckM_good h x hx
  simp only [goodM, Bool.and_eq_true, decide_eq_true_eq] at hg
  refine ⟨name_len hg.2.1, ?_⟩
  have := hg.2.2
  unfold valOk at this
  split at this
  · exact name_len this
  · have : x.val = [] := by simpa using this
    rw [this]; simp
theorem labelWords (s : List UInt8) : Gives cfg 9 [.str s] (.bool true) := by
  refine Gives.run (l9 _ _) ?_
  by_cases hlen : 300 < s.length
  · exact goG 60 []  trivial  (.callG ([]) (AV.bool true) (Gives.of (show lim cfg (Key.fn (38 : FuncId)) [] Heap.nil = some (ARes.ret (AV.bool true), Classical.choose known_ret38) from known4')) ⟨rfl, rfl⟩ ⟨rfl, rfl⟩ <| .ff <| .len (show lenA true (AV.str s) = some (AV.int IntKind.i64 (↑s.length : Int)) from len_str _) <| .yes (show (decide ((300 : Int) < (↑s.length : Int))) = true from decide_eq_true (show (300 : Int) < (↑s.length : Int) from (by omega))) <| .fin ((ARes.ret (AV.bool true), { boxes := [], toks := [], loops := [] : Heap })) rfl) (by kernel_rfl)
  · have hs : s.length ≤ 1000 := by omega
    have ca := parsed_ck partP ckS s rfl
    have cb := parsed_ck partM ckM s rfl
    have fa := ckS_few ca
    have fb := ckM_few cb
    have na := fewP_len fa
    have nb := fewM_len fb
    have p1 := parseP s hs
    have p2 := parseM s hs
    have q1 := readP_ref s hs
    have q2 := readM_ref s hs
    have t1 : (parsed partP ckS s).2 = 0 → Gives cfg 51 [.sl .sh ((parsed partP ckS s).1.map encP)] (.str s) := fun h => by
      have := pText_any _ fa
      rwa [read_told partP_text s h] at this
    have t2 : (parsed partM ckM s).2 = 0 → Gives cfg 53 [.sl .sh ((parsed partM ckM s).1.map encM)] (.str s) := fun h => by
      have := mText_any _ fb
      rwa [read_told partM_text s h] at this
    generalize parsed partP ckS s = A at *
    generalize parsed partM ckM s = B at *
    obtain ⟨a, e⟩ := A
    obtain ⟨b, f⟩ := B
    simp only at *
    exact goG 120 []  trivial  (.callG ([]) (AV.bool true) (Gives.of (show lim cfg (Key.fn (38 : FuncId)) [] Heap.nil = some (ARes.ret (AV.bool true), Classical.choose known_ret38) from known4')) ⟨rfl, rfl⟩ ⟨rfl, rfl⟩ <| .ff <| .len (show lenA true (AV.str s) = some (AV.int IntKind.i64 (↑s.length : Int)) from len_str _) <| .no (show (decide ((300 : Int) < (↑s.length : Int))) = false from decide_eq_false (show ¬ ((300 : Int) < (↑s.length : Int)) from (by omega))) <| .callG ([AV.str s]) (AV.tuple [AV.sl SK.sh (List.map encP a), AV.int IntKind.i64 e]) (show Gives cfg (55 : FuncId) [AV.str s] (AV.tuple [AV.sl SK.sh (List.map encP a), AV.int IntKind.i64 e]) from p1) ⟨rfl, rfl⟩ ⟨rfl, rfl⟩ <| .effY (show Does cfg (AOp.call (Opd.c (AV.func (59 : FuncId) [])) [Opd.c (AV.str s)]) { boxes := [], toks := [], loops := [] : Heap } (AV.tuple [AV.sl SK.sh (List.map encP a), AV.int IntKind.i64 e]) { boxes := [], toks := [], loops := [] : Heap } from q1 _) <| .callG ([AV.str s]) (AV.tuple [AV.sl SK.sh (List.map encM b), AV.int IntKind.i64 f]) (show Gives cfg (56 : FuncId) [AV.str s] (AV.tuple [AV.sl SK.sh (List.map encM b), AV.int IntKind.i64 f]) from p2) ⟨rfl, rfl⟩ ⟨rfl, rfl⟩ <| .effY (show Does cfg (AOp.call (Opd.c (AV.func (60 : FuncId) [])) [Opd.c (AV.str s)]) { boxes := [], toks := [], loops := [] : Heap } (AV.tuple [AV.sl SK.sh (List.map encM b), AV.int IntKind.i64 f]) { boxes := [], toks := [], loops := [] : Heap } from q2 _) <| .no (show (e != e) = false from Bool.eq_false_iff.2 (show ¬ ((e != e) = true) from (by simp_all))) <| .callG ([AV.sl SK.sh (List.map encP a)]) (AV.sl SK.sh (List.map encP a)) (show Gives cfg (41 : FuncId) [AV.sl SK.sh (List.map encP a)] (rowS Heap.nil (List.map encP a)) from ofP_any _ na) ⟨rfl, rfl⟩ Res.p <| .callG ([AV.sl SK.sh (List.map encP a), AV.sl SK.sh (List.map encP a)]) (AV.bool true) (show Gives cfg (57 : FuncId) [AV.sl SK.sh (List.map encP a), AV.sl SK.sh (List.map encP a)] (AV.bool true) from sameP _ (by omega)) ⟨rfl, rfl⟩ ⟨rfl, rfl⟩ <| .ff <| .no (show (f != f) = false from Bool.eq_false_iff.2 (show ¬ ((f != f) = true) from (by simp_all))) <| .callG ([AV.sl SK.sh (List.map encM b)]) (AV.sl SK.sh (List.map encM b)) (show Gives cfg (42 : FuncId) [AV.sl SK.sh (List.map encM b)] (rowS Heap.nil (List.map encM b)) from ofM_any _ nb) ⟨rfl, rfl⟩ Res.p <| .callG ([AV.sl SK.sh (List.map encM b), AV.sl SK.sh (List.map encM b)]) (AV.bool true) (show Gives cfg (58 : FuncId) [AV.sl SK.sh (List.map encM b), AV.sl SK.sh (List.map encM b)] (AV.bool true) from sameM _ (by omega)) ⟨rfl, rfl⟩ ⟨rfl, rfl⟩ <| .ff <| .split ((e != (0 : Int)) = true) (fun h1 => .yes (show (e != (0 : Int)) = true from h1) <| .tt <| .split ((f != (0 : Int)) = true) (fun h2 => .yes (show (f != (0 : Int)) = true from h2) <| .fin ((ARes.ret (AV.bool true), { boxes := [], toks := [], loops := [] : Heap })) rfl) (fun h2 => .no (show (f != (0 : Int)) = false from Bool.eq_false_iff.2 (show ¬ ((f != (0 : Int)) = true) from h2)) <| .callG ([AV.sl SK.sh (List.map encM b)]) (AV.str s) (show Gives cfg (53 : FuncId) [AV.sl SK.sh (List.map encM b)] (AV.str s) from t2 (by simp_all)) ⟨rfl, rfl⟩ ⟨rfl, rfl⟩ <| .fin ((ARes.ret (AV.bool (s == s)), { boxes := [], toks := [], loops := [] : Heap })) (by simp [IsRet]))) (fun h1 => .no (show (e != (0 : Int)) = false from Bool.eq_false_iff.2 (show ¬ ((e != (0 : Int)) = true) from h1)) <| .callG ([AV.sl SK.sh (List.map encP a)]) (AV.str s) (show Gives cfg (51 : FuncId) [AV.sl SK.sh (List.map encP a)] (AV.str s) from t1 (by simp_all)) ⟨rfl, rfl⟩ ⟨rfl, rfl⟩ <| .yes (show (s == s) = true from (by simp_all)) <| .split ((f != (0 : Int)) = true) (fun h2 => .yes (show (f != (0 : Int)) = true from h2) <| .fin ((ARes.ret (AV.bool true), { boxes := [], toks := [], loops := [] : Heap })) rfl) (fun h2 => .no (show (f != (0 : Int)) = false from Bool.eq_false_iff.2 (show ¬ ((f != (0 : Int)) = true) from h2)) <| .callG ([AV.sl SK.sh (List.map encM b)]) (AV.str s) (show Gives cfg (53 : FuncId) [AV.sl SK.sh (List.map encM b)] (AV.str s) from t2 (by simp_all)) ⟨rfl, rfl⟩ ⟨rfl, rfl⟩ <| .fin ((ARes.ret (AV.bool (s == s)), { boxes := [], toks := [], loops := [] : Heap })) (by simp [IsRet])))) (by kernel_rfl)
end Go.Aa.T

set_option linter.unusedVariables false
set_option linter.unusedSimpArgs false
set_option maxRecDepth 100000
namespace Go.Aa.T
open Go.Aa Go.Proofs
theorem law9 (xs : List AV) (h : TyAll Tryd.prog 5 [9] xs) (hz : SzAll Tryd.prog [9] xs) : ∃ H', lim cfg (.fn 9) xs Heap.nil = some (.ret (.bool true), H') := by
  obtain ⟨x, rfl, hx⟩ := tyall_1 h
  obtain ⟨k, rfl, -⟩ := tyv_string Tryd.underlying9 hx
  exact (labelWords k).ret
end Go.Aa.T
