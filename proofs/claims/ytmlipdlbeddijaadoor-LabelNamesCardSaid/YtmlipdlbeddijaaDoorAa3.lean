/-
  THE ABSTRACT MACHINE's RUN: operations, regions, code, calls; what more fuel does.
-/
import Derived.Test.YtmlipdlbeddijaaDoorAa2
set_option linter.unusedVariables false
set_option linter.unusedSimpArgs false
namespace Go.Aa

inductive Key where
  | fn (f : FuncId)
  | yl (l : Nat)

abbrev CallF := Key → List AV → Heap → Option (ARes × Heap)

structure Cfg where
  F : FuncId → Option AFunc
  ext : FuncId → Option (List AV → Heap → Option (AV × Heap))
  tryF : FuncId → Bool
  stopT : TypeId

inductive OutE where
  | env (T : Env) (H : Heap)
  | pan (v : AV) (H : Heap)

inductive AIt where
  | c (c : ACode)
  | blk (id : Nat)
  | lp (b : ACode)
  | beg (l : Nat)

def pureOp (op : AOp) (T : Env) : Option AV :=
  match op with
  | .mov x => some (ev T x)
  | .pick c a b => match ev T c with
    | .bool true => some (ev T a)
    | .bool false => some (ev T b)
    | _ => none
  | .build zero parts => (buildA zero (parts.map fun p => (p.1, p.2.1, ev T p.2.2))).map .agg
  | .bslice es xs => if lenOk es (xs.map fun x => shut2 (ev T x)) = true ∧ dataOk (xs.map fun x => shut2 (ev T x)) = true then some (.sl .full (xs.map fun x => shut2 (ev T x))) else none
  | .nilchk x => match ev T x with
    | .ptr k o => some (.ptr k o)
    | .ref cs => some (.ref cs)
    | .func f cs => some (.func f cs)
    | _ => none
  | .bin op x y => binA op (ev T x) (ev T y)
  | .eqst neg ks x y => eqstA neg ks (ev T x) (ev T y)
  | .eqb neg x y => eqbA neg (ev T x) (ev T y)
  | .eqnil neg k x => eqnilA neg k (ev T x)
  | .un op x => unA op (ev T x)
  | .conv c x => convA c (ev T x)
  | .mkiface t x => some (.iface t (ev T x))
  | .mkfunc f caps => some (.func f (caps.map (ev T)))
  | .slice es x lo hi mx => sliceA es (ev T x) (lo.map (ev T)) (hi.map (ev T)) (mx.map (ev T))
  | .fld off n x => fldA off n (ev T x)
  | .fldv agg off n x => fldvA agg off n (ev T x)
  | .idx es x i => idxA es (ev T x) (ev T i)
  | .idxs x i => idxsA (ev T x) (ev T i)
  | .extract x i => extractA i (ev T x)
  | .len st x => lenA st (ev T x)
  | .mm mx x y => mmA mx (ev T x) (ev T y)
  | _ => none

/-- What a call leaves of the boxes and the tokens that it made. -/
def trunc (nb nt : Nat) (v : AV) (H : Heap) : Heap :=
  let okB := H.loops.all (fun r => decide (r.nb ≤ nb)) && within nb H.toks.length v && (H.boxes.take nb).all (·.all (in2 nb H.toks.length))
  let bs := if okB then H.boxes.take nb else H.boxes
  let okT := H.loops.all (fun r => decide (r.nt ≤ nt)) && within bs.length nt v && bs.all (·.all (in2 bs.length nt))
  { H with boxes := bs, toks := if okT then H.toks.take nt else H.toks }

/-- A loop's record goes: it is idle, and nothing names it. -/
def dropL (nl : Nat) (H : Heap) : Option Heap :=
  match H.loops[nl]? with
  | some r => if r.busy = false ∧ (H.loops.take nl).all (fun r => decide (r.nl ≤ nl)) = true ∧ H.boxes.all (·.all (in2 H.boxes.length H.toks.length)) = true then some { H with loops := H.loops.take nl } else none
  | none => none

/-- The same behind a panic: its record is forgotten as it stands. -/
def dropP (nl : Nat) (H : Heap) : Option Heap :=
  if nl < H.loops.length ∧ (H.loops.take nl).all (fun r => decide (r.nl ≤ nl)) = true ∧ H.boxes.all (·.all (in2 H.boxes.length H.toks.length)) = true then some { H with loops := H.loops.take nl } else none

/-- A call that is handed the heap. -/
def callE (call : CallF) (g : FuncId) (as : List AV) (H : Heap) : Option Out :=
  match call (.fn g) as H with
  | some (.ret v, H') => some (.val (shutA v) (trunc H.boxes.length H.toks.length (shutA v) H'))
  | some (.pan v, H') => some (.pan v (trunc H.boxes.length H.toks.length v H'))
  | none => none

def callV (call : CallF) (fv : AV) (args : List AV) (H : Heap) : Option Out :=
  match fv with
  | .func g caps =>
    if (args.all isData && caps.all data0) = true then
      match call (.fn g) (args ++ caps) Heap.nil with
      | some (.ret v, _) => if isData (shutA v) = true then some (.val (shutA v) H) else callE call g (args ++ caps) H
      | some (.pan v, _) => if isData v = true then some (.pan v H) else none
      | none => none
    else callE call g (args ++ caps) H
  | .yield l =>
    match call (.yl l) args H with
    | some (.ret v, H') => some (.val v (trunc H.boxes.length H.toks.length v H'))
    | some (.pan v, H') => some (.pan v (trunc H.boxes.length H.toks.length v H'))
    | none => none
  | _ => none

def opStep (call : CallF) (op : AOp) (T : Env) (H : Heap) : Option Out :=
  match op with
  | .box x => match ev T x with
    | .undef => none
    | .tuple _ => none
    | v => some (.val (boxA H v).1 (boxA H v).2)
  | .load agg n x => match loadA agg n H (ev T x) with
    | some v => some (.val v H)
    | none => none
  | .store n x v => match storeA n H (ev T x) (ev T v) with
    | some H' => some (.val .undef H')
    | none => none
  | .append es b x y => match appendA es b H (ev T x) (ev T y) with
    | some r => some (.val r.1 r.2)
    | none => none
  | .panic x => match ev T x with
    | .iface t v => some (.pan (.iface t v) H)
    | _ => none
  | .call f args => callV call (ev T f) (args.map fun x => shutA (ev T x)) H
  | op => match pureOp op T with
    | some v => some (.val v H)
    | none => none

def setD (T : Env) (d : Option Nat) (v : AV) : Env :=
  match d with
  | some d => upd T d v
  | none => T

def wantedA (o : AOper) (T : Env) : Option Bool :=
  match o.guard with
  | none => some true
  | some (g, want) => match T g with
    | .bool b => some (b == want)
    | .tuple [] => some false
    | _ => none

/-- The operations one after the other. -/
def runOps (call : CallF) : List AOper → Env → Heap → Option OutE
  | [], T, H => some (.env T H)
  | o :: r, T, H =>
    match wantedA o T with
    | some true => match opStep call o.op T H with
      | some (.val v H') => runOps call r (setD T o.dst v) H'
      | some (.pan v H') => some (.pan v H')
      | none => none
    | some false => runOps call r (setD T o.dst (.tuple [])) H
    | none => none

def exitA (id : Nat) : List AIt → Option (List AIt)
  | .blk i :: k => if i = id then some k else exitA id k
  | _ :: k => exitA id k
  | [] => none

def resA (T : Env) (H : Heap) : ARV → Option AV
  | .tmp t => some (T t)
  | .cell t agg n => loadA agg n H (T t)
def resAll (T : Env) (H : Heap) : List ARV → Option (List AV)
  | [] => some []
  | r :: rs => match resA T H r, resAll T H rs with
    | some v, some vs => some (v :: vs)
    | _, _ => none
def retA (A : AFunc) (T : Env) (H : Heap) : Option (ARes × Heap) :=
  match resAll T H A.results with
  | some [v] => some (.ret v, H)
  | some vs => some (.ret (.tuple vs), H)
  | none => none

def initEnv (args : List AV) : Env := fun i => (args[i]?).getD .undef
def psetA (T : Env) : List Nat → List AV → Env
  | p :: ps, v :: vs => psetA (upd T p v) ps vs
  | _, _ => T

/-- In a statement whose order is open each call must be of data alone. -/
def callD (call : CallF) (fv : AV) (args : List AV) (H : Heap) : Option Out :=
  match fv with
  | .func g caps =>
    if (args.all isData && caps.all data0) = true then
      match call (.fn g) (args ++ caps) Heap.nil with
      | some (.ret v, _) => if isData (shutA v) = true then some (.val (shutA v) H) else none
      | some (.pan v, _) => if isData v = true then some (.pan v H) else none
      | none => none
    else none
  | _ => none

def opStepD (call : CallF) (op : AOp) (T : Env) (H : Heap) : Option Out :=
  match op with
  | .call f args => callD call (ev T f) (args.map fun x => shutA (ev T x)) H
  | op => opStep call op T H

/-- The operations of a statement whose order is open, in the text's order; behind a panic go on those that do not hang on what panicked. -/
def runD (call : CallF) : Nat → List AOper → Option (Nat × AV) → Env → Heap → Option OutE
  | _, [], none, T, H => some (.env T H)
  | _, [], some (_, v), _, H => some (.pan v H)
  | i, o :: r, none, T, H =>
    match wantedA o T with
    | some true => match opStepD call o.op T H with
      | some (.val v H') => runD call (i + 1) r none (setD T o.dst v) H'
      | some (.pan v H') => runD call (i + 1) r (some (i, v)) T H'
      | none => none
    | some false => runD call (i + 1) r none (setD T o.dst (.tuple [])) H
    | none => none
  | i, o :: r, some (p, x), T, H =>
    if o.deps.contains p then runD call (i + 1) r (some (p, x)) T H else
    match wantedA o T with
    | some true => match opStepD call o.op T H with
      | some (.val v H') => runD call (i + 1) r (some (p, x)) (setD T o.dst v) H'
      | _ => none
    | some false => runD call (i + 1) r (some (p, x)) (setD T o.dst (.tuple [])) H
    | none => none

def regionA (call : CallF) (draw : Bool) (ops : List AOper) (T : Env) (H : Heap) : Option OutE :=
  if draw then runD call 0 ops none T H else runOps call ops T H

/-- The function that is ranged over is called; its loop's record lies on top. -/
def rangeA (call : CallF) (fv : AV) (A : AFunc) (T : Env) (ps : List Nat) (assign body : ACode) (H : Heap) : Option Out :=
  match fv with
  | .func g caps =>
    match callV call (.func g caps) [.yield H.loops.length] { H with loops := H.loops ++ [⟨A, T, ps, assign, body, false, H.boxes.length, H.toks.length, H.loops.length⟩] } with
    | some (.val v H') => match dropL H.loops.length H' with
      | some H'' => some (.val v H'')
      | none => none
    | some (.pan v H') => if isData v = true then match dropP H.loops.length H' with
        | some H'' => some (.pan v H'')
        | none => none
      else none
    | none => none
  | _ => none
theorem rangeA_inv {call : CallF} {fv : AV} {A : AFunc} {T : Env} {ps : List Nat} {a b : ACode} {H : Heap} {out : Out} (h : rangeA call fv A T ps a b H = some out) : ∃ g caps, fv = .func g caps ∧
    ((∃ v H3 H4, callV call (.func g caps) [.yield H.loops.length] { H with loops := H.loops ++ [⟨A, T, ps, a, b, false, H.boxes.length, H.toks.length, H.loops.length⟩] } = some (.val v H3) ∧ dropL H.loops.length H3 = some H4 ∧ out = .val v H4) ∨
     (∃ v H3 H4, callV call (.func g caps) [.yield H.loops.length] { H with loops := H.loops ++ [⟨A, T, ps, a, b, false, H.boxes.length, H.toks.length, H.loops.length⟩] } = some (.pan v H3) ∧ isData v = true ∧ dropP H.loops.length H3 = some H4 ∧ out = .pan v H4)) := by
  unfold rangeA at h
  split at h
  · refine ⟨_, _, rfl, ?_⟩
    split at h
    · rename_i hc
      split at h
      · rename_i hd
        simp only [Option.some.injEq] at h
        exact .inl ⟨_, _, _, hc, hd, h.symm⟩
      · cases h
    · rename_i hc
      split at h
      · rename_i hv
        split at h
        · rename_i hd
          simp only [Option.some.injEq] at h
          exact .inr ⟨_, _, _, hc, hv, hd, h.symm⟩
        · cases h
      · cases h
    · cases h
  · cases h
theorem rangeA_val {call : CallF} {g : FuncId} {caps : List AV} {A : AFunc} {T : Env} {ps : List Nat} {a b : ACode} {H H3 H4 : Heap} {v : AV}
    (h1 : callV call (.func g caps) [.yield H.loops.length] { H with loops := H.loops ++ [⟨A, T, ps, a, b, false, H.boxes.length, H.toks.length, H.loops.length⟩] } = some (.val v H3)) (h2 : dropL H.loops.length H3 = some H4) : rangeA call (.func g caps) A T ps a b H = some (.val v H4) := by
  simp only [rangeA, h1, h2]
theorem rangeA_pan {call : CallF} {g : FuncId} {caps : List AV} {A : AFunc} {T : Env} {ps : List Nat} {a b : ACode} {H H3 H4 : Heap} {v : AV}
    (h1 : callV call (.func g caps) [.yield H.loops.length] { H with loops := H.loops ++ [⟨A, T, ps, a, b, false, H.boxes.length, H.toks.length, H.loops.length⟩] } = some (.pan v H3)) (hv : isData v = true) (h2 : dropP H.loops.length H3 = some H4) : rangeA call (.func g caps) A T ps a b H = some (.pan v H4) := by
  simp only [rangeA, h1, hv, if_true, h2]

def run (call : CallF) (A : AFunc) : Nat → List AIt → Env → Heap → Option (ARes × Heap)
  | 0, _, _, _ => none
  | _ + 1, [], T, H => retA A T H
  | n + 1, .blk _ :: k, T, H => run call A n k T H
  | n + 1, .lp b :: k, T, H => run call A n (.c b :: .lp b :: k) T H
  | n + 1, .beg l :: k, T, H =>
    match H.loops[l]? with
    | some r => if r.busy = true then none else run call A n k T { H with loops := H.loops.set l { r with busy := true } }
    | none => none
  | n + 1, .c c :: k, T, H =>
    match c with
    | .skip => run call A n k T H
    | .seq a b => run call A n (.c a :: .c b :: k) T H
    | .cond x a b => match ev T x with
      | .bool t => run call A n (.c (if t then a else b) :: k) T H
      | _ => none
    | .block id b => run call A n (.c b :: .blk id :: k) T H
    | .loop b => run call A n (.c b :: .lp b :: k) T H
    | .exit id => match exitA id k with
      | some k' => run call A n k' T H
      | none => none
    | .ret => if A.round then none else retA A T H
    | .region ops draw => match regionA call draw ops T H with
      | some (.env T' H') => run call A n k T' H'
      | some (.pan v H') => some (.pan v, H')
      | none => none
    | .range f ps assign body =>
      if A.round then none else
      match rangeA call (ev T f) A T ps assign body H with
      | some (.val _ H'') => run call A n k T H''
      | some (.pan v H'') => some (.pan v, H'')
      | none => none

def tryA : Option (ARes × Heap) → (stopT : TypeId) → Option (ARes × Heap)
  | some (.ret _, H), _ => some (.ret (.int .i64 0), H)
  | some (.pan (.iface t (.agg [.int .i64 e])), H), s => if t = s then some (.ret (.int .i64 e), H) else none
  | _, _ => none

def callN (cfg : Cfg) : Nat → CallF
  | 0 => fun _ _ _ => none
  | n + 1 => fun key args H =>
    match key with
    | .fn f =>
      if cfg.tryF f = true then
        match args with
        | [.func g caps] => tryA (callN cfg n (.fn g) caps H) cfg.stopT
        | _ => none
      else match cfg.ext f with
      | some g => match g args H with
        | some r => some (.ret r.1, r.2)
        | none => none
      | none => match cfg.F f with
        | some A => run (callN cfg n) A n [.c A.body] (initEnv args) H
        | none => none
    | .yl l =>
      match H.loops[l]? with
      | some r =>
        if args.length ≠ r.ps.length then none else
        match run (callN cfg n) { results := [], body := .skip, round := true } n [.c r.assign, .beg l, .c r.body] (psetA r.T r.ps args) H with
        | some (.ret _, H') => match H'.loops[l]? with
          | some r' => some (.ret (.bool true), { H' with loops := H'.loops.set l { r' with busy := false } })
          | none => none
        | some (.pan v, H') => some (.pan v, H')
        | none => none
      | none => none

/-! ### More fuel, more answers -/
def Le (c c' : CallF) : Prop := ∀ k a H r, c k a H = some r → c' k a H = some r
theorem Le.refl (c : CallF) : Le c c := fun _ _ _ _ h => h
theorem Le.trans {a b c : CallF} (h : Le a b) (k : Le b c) : Le a c := fun _ _ _ _ x => k _ _ _ _ (h _ _ _ _ x)

theorem callE_mono {c c' : CallF} (h : Le c c') {g as H r} (e : callE c g as H = some r) : callE c' g as H = some r := by
  unfold callE at *
  split at e
  · rename_i v H' hc; rw [h _ _ _ _ hc]; exact e
  · rename_i v H' hc; rw [h _ _ _ _ hc]; exact e
  · cases e

theorem callV_mono {c c' : CallF} (h : Le c c') {fv args H r} (e : callV c fv args H = some r) : callV c' fv args H = some r := by
  unfold callV at *
  split at e
  · split at e
    · rename_i hd
      simp only [hd, if_true]
      split at e
      · rename_i v _ hc
        rw [h _ _ _ _ hc]
        simp only
        split at e
        · rename_i hdd; rw [if_pos hdd]; exact e
        · rename_i hdd; rw [if_neg hdd]; exact callE_mono h e
      · rename_i v _ hc; rw [h _ _ _ _ hc]; exact e
      · cases e
    · rename_i hd
      simp only [hd, if_false]
      exact callE_mono h e
  · split at e
    · rename_i v H' hc; simp only [h _ _ _ _ hc]; exact e
    · rename_i v H' hc; simp only [h _ _ _ _ hc]; exact e
    · cases e
  · cases e

theorem opStep_mono {c c' : CallF} (h : Le c c') {op T H r} (e : opStep c op T H = some r) : opStep c' op T H = some r := by
  cases op <;> first | exact e | exact callV_mono h e

theorem runOps_mono {c c' : CallF} (h : Le c c') : ∀ {ops T H r}, runOps c ops T H = some r → runOps c' ops T H = some r
  | [], _, _, _, e => e
  | o :: ops, T, H, r, e => by
    simp only [runOps] at *
    split at e
    · rename_i hw
      split at e
      · rename_i v H' ho; rw [opStep_mono h ho]; exact runOps_mono h e
      · rename_i v H' ho; rw [opStep_mono h ho]; exact e
      · cases e
    · exact runOps_mono h e
    · cases e

theorem callD_mono {c c' : CallF} (h : Le c c') {fv args H r} (e : callD c fv args H = some r) : callD c' fv args H = some r := by
  unfold callD at *
  split at e
  · split at e
    · rename_i hd
      simp only [hd, if_true]
      split at e
      · rename_i v _ hc; rw [h _ _ _ _ hc]; exact e
      · rename_i v _ hc; rw [h _ _ _ _ hc]; exact e
      · cases e
    · cases e
  · cases e

theorem opStepD_mono {c c' : CallF} (h : Le c c') {op T H r} (e : opStepD c op T H = some r) : opStepD c' op T H = some r := by
  cases op <;> first | exact e | exact opStep_mono h e | exact callD_mono h e

theorem runD_mono {c c' : CallF} (h : Le c c') : ∀ {i ops p T H r}, runD c i ops p T H = some r → runD c' i ops p T H = some r
  | _, [], none, _, _, _, e => e
  | _, [], some _, _, _, _, e => e
  | i, o :: ops, none, T, H, r, e => by
    simp only [runD] at *
    split at e
    · split at e
      · rename_i v H' ho; rw [opStepD_mono h ho]; exact runD_mono h e
      · rename_i v H' ho; rw [opStepD_mono h ho]; exact runD_mono h e
      · cases e
    · exact runD_mono h e
    · cases e
  | i, o :: ops, some (p, x), T, H, r, e => by
    simp only [runD] at *
    split at e
    · rename_i hd; simp only [hd, if_true]; exact runD_mono h e
    · rename_i hd
      simp only [hd, if_false]
      split at e
      · split at e
        · rename_i v H' ho; rw [opStepD_mono h ho]; exact runD_mono h e
        · cases e
      · exact runD_mono h e
      · cases e

theorem regionA_mono {c c' : CallF} (h : Le c c') {d ops T H r} (e : regionA c d ops T H = some r) : regionA c' d ops T H = some r := by
  unfold regionA at *
  cases d with
  | true => exact runD_mono h e
  | false => exact runOps_mono h e

theorem rangeA_mono {c c' : CallF} (h : Le c c') {fv A T ps a b H r} (e : rangeA c fv A T ps a b H = some r) : rangeA c' fv A T ps a b H = some r := by
  obtain ⟨g, caps, rfl, ⟨v, H3, H4, h1, h2, rfl⟩ | ⟨v, H3, H4, h1, h2, h3, rfl⟩⟩ := rangeA_inv e
  · exact rangeA_val (callV_mono h h1) h2
  · exact rangeA_pan (callV_mono h h1) h2 h3

theorem run_mono {c c' : CallF} (h : Le c c') (A : AFunc) : ∀ (n m : Nat) (k : List AIt) (T : Env) (H : Heap) (r : ARes × Heap), n ≤ m → run c A n k T H = some r → run c' A m k T H = some r := by
  intro n
  induction n with
  | zero => intro m k T H r _ e; cases k <;> simp [run] at e
  | succ n ih =>
    intro m k T H r hm e
    obtain ⟨m, rfl⟩ : ∃ q, m = q + 1 := ⟨m - 1, by omega⟩
    have hm' : n ≤ m := by omega
    cases k with
    | nil => exact e
    | cons it k =>
      cases it with
      | blk id => exact ih m _ _ _ _ hm' e
      | lp b => exact ih m _ _ _ _ hm' e
      | beg l =>
        simp only [run] at *
        split at e
        · split at e
          · cases e
          · rename_i hb
            simp only [hb, Bool.false_eq_true, if_false]
            exact ih m _ _ _ _ hm' e
        · cases e
      | c c0 =>
        cases c0 with
        | skip => exact ih m _ _ _ _ hm' e
        | seq a b => exact ih m _ _ _ _ hm' e
        | cond x a b =>
          simp only [run] at *
          split at e
          · exact ih m _ _ _ _ hm' e
          · cases e
        | block id b => exact ih m _ _ _ _ hm' e
        | loop b => exact ih m _ _ _ _ hm' e
        | exit id =>
          simp only [run] at *
          split at e
          · exact ih m _ _ _ _ hm' e
          · cases e
        | ret => exact e
        | region ops d =>
          simp only [run] at *
          split at e
          · rename_i hr; rw [regionA_mono h hr]; exact ih m _ _ _ _ hm' e
          · rename_i hr; rw [regionA_mono h hr]; exact e
          · cases e
        | range f ps a b =>
          simp only [run] at *
          split at e
          · cases e
          · rename_i hro
            simp only [hro]
            split at e
            · rename_i hr
              rw [rangeA_mono h hr]
              exact ih m _ _ _ _ hm' e
            · rename_i hr
              rw [rangeA_mono h hr]
              exact e
            · cases e

theorem callN_mono (cfg : Cfg) : ∀ n, Le (callN cfg n) (callN cfg (n + 1)) := by
  intro n
  induction n with
  | zero => intro k a H r e; simp [callN] at e
  | succ n ih =>
    intro k a H r e
    rw [callN] at e ⊢
    cases k with
    | fn f =>
      simp only at e ⊢
      split at e
      · rename_i ht
        simp only [ht, if_true]
        split at e
        · rename_i g caps
          revert e
          cases hc : callN cfg n (.fn g) caps H with
          | none => intro e; simp [tryA] at e
          | some x => intro e; rw [ih _ _ _ _ hc]; exact e
        · cases e
      · rename_i ht
        simp only [ht, if_false]
        split at e
        · exact e
        · split at e
          · exact run_mono ih _ _ _ _ _ _ _ (Nat.le_succ n) e
          · cases e
    | yl l =>
      simp only at e ⊢
      split at e
      · rename_i rr hl
        split at e
        · cases e
        · rename_i hb
          simp only [hb, if_false]
          split at e
          · rename_i hr; rw [run_mono ih _ _ _ _ _ _ _ (Nat.le_succ n) hr]; exact e
          · rename_i hr; rw [run_mono ih _ _ _ _ _ _ _ (Nat.le_succ n) hr]; exact e
          · cases e
      · cases e

theorem callN_le (cfg : Cfg) {n m : Nat} (h : n ≤ m) : Le (callN cfg n) (callN cfg m) := by
  induction h with
  | refl => exact .refl _
  | step _ ih => exact ih.trans (callN_mono cfg _)

end Go.Aa
