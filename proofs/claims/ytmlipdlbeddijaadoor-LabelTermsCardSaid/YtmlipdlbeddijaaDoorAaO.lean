/-
  REPLAY: a way through a function, told by a script; what is left to show is what the script took for granted.
-/
import Derived.Test.YtmlipdlbeddijaaDoorAaN
set_option linter.unusedVariables false
set_option linter.unusedSimpArgs false
namespace Go.Aa

/-- 'ret v': the next call (of data) answers v; 'dec b': the next guard or condition is b; 'op v H': the next operation (or call) comes to v and leaves H; 'cut': here another theorem takes over. -/
inductive Sc where
  | ret (v : AV)
  | dec (b : Bool)
  | op (v : AV) (H : Heap)
  | cut

/-- A call of data, answered so. -/
def CallOb (call : CallF) (g : FuncId) (xs : List AV) (v : AV) : Prop := (∀ a ∈ xs, shutA a = a ∧ isData a = true) ∧ (∃ H', call (.fn g) xs Heap.nil = some (.ret v, H')) ∧ shutA v = v ∧ isData v = true

/-- One operation that is wanted. -/
def rpOp (call : CallF) (K : List Sc → Env → Heap → Prop) (s : List Sc) (d : Option Nat) (op : AOp) (T : Env) (H : Heap) : Prop :=
  match s with
  | .op v H' :: s => opStepD call op T H = some (.val v H') ∧ K s (setD T d v) H'
  | s =>
    match op with
    | .call f xs => match ev T f, s with
      | .func g [], .ret v :: s => CallOb call g (xs.map (ev T)) v ∧ K s (setD T d v) H
      | _, _ => False
    | op => match opStepD call op T H with
      | some (.val v H') => K s (setD T d v) H'
      | _ => False

/-- A statement's operations; 'kn': the guards that are known by now. -/
def rpOps (call : CallF) (Q : List Sc → Env → Heap → Prop) : List Nat → List AOper → List Sc → Env → Heap → Prop
  | _, [], s, T, H => Q s T H
  | kn, o :: r, s, T, H =>
    match o.guard with
    | none => rpOp call (fun s T H => rpOps call Q kn r s T H) s o.dst o.op T H
    | some (g, w) =>
      bif kn.contains g then
        match T g with
        | .bool b => bif b == w then rpOp call (fun s T H => rpOps call Q kn r s T H) s o.dst o.op T H else rpOps call Q kn r s (setD T o.dst (.tuple [])) H
        | _ => False
      else
      match s with
      | .dec b :: s => T g = .bool b ∧ (bif b == w then rpOp call (fun s T H => rpOps call Q (g :: kn) r s T H) s o.dst o.op (upd T g (.bool b)) H else rpOps call Q (g :: kn) r s (setD (upd T g (.bool b)) o.dst (.tuple [])) H)
      | _ => False

def Rp (cfg : Cfg) (A : AFunc) (r : ARes × Heap) : Nat → List AIt → List Sc → Env → Heap → Prop
  | 0, k, s, T, H => runL cfg A k T H = some r
  | n + 1, k, s, T, H =>
    match s with
    | .cut :: _ => runL cfg A k T H = some r
    | s =>
    match k with
    | [] => retA A T H = some r
    | .blk _ :: k => Rp cfg A r n k s T H
    | .lp b :: k => Rp cfg A r n (.c b :: .lp b :: k) s T H
    | .beg _ :: k => False
    | .c c :: k =>
      match c with
      | .skip => Rp cfg A r n k s T H
      | .seq a b => Rp cfg A r n (.c a :: .c b :: k) s T H
      | .cond x a b => match s with
        | .dec t :: s => ev T x = .bool t ∧ Rp cfg A r n (.c (bif t then a else b) :: k) s T H
        | _ => False
      | .block id b => Rp cfg A r n (.c b :: .blk id :: k) s T H
      | .loop b => Rp cfg A r n (.lp b :: k) s T H
      | .exit id => match exitA id k with
        | some k' => Rp cfg A r n k' s T H
        | none => False
      | .ret => A.round = false ∧ retA A T H = some r
      | .region ops _ => rpOps (lim cfg) (fun s T H => Rp cfg A r n k s T H) [] ops s T H
      | .range .. => False

theorem shut_map {l : List AV} (h : ∀ a ∈ l, shutA a = a ∧ isData a = true) : l.map shutA = l ∧ l.all isData = true :=
  ⟨by conv => rhs; rw [← List.map_id l]
      exact List.map_congr_left fun a ha => (h a ha).1, List.all_eq_true.2 fun a ha => (h a ha).2⟩

theorem callD_ob {call : CallF} {g : FuncId} {xs : List AV} {v : AV} (h : CallOb call g xs v) (H : Heap) : callD call (.func g []) (xs.map shutA) H = some (.val v H) := by
  obtain ⟨h1, ⟨H', h2⟩, h3, h4⟩ := h
  obtain ⟨e1, e2⟩ := shut_map h1
  rw [e1, callD_func]
  simp only [e2, List.all_nil, Bool.and_self, cond_true, List.append_nil, h2, h3, h4]

theorem rpOp_sound {call : CallF} {K : List Sc → Env → Heap → Prop} {s : List Sc} {d : Option Nat} {op : AOp} {T : Env} {H : Heap} (h : rpOp call K s d op T H) : ∃ v H' s', opStepD call op T H = some (.val v H') ∧ K s' (setD T d v) H' := by
  unfold rpOp at h
  split at h
  · exact ⟨_, _, _, h.1, h.2⟩
  · split at h
    · rename_i f xs
      split at h
      · rename_i g v s' hf hs
        refine ⟨v, H, _, ?_, h.2⟩
        have := callD_ob h.1 H
        rw [List.map_map] at this
        show callD call (ev T f) (xs.map fun x => shutA (ev T x)) H = _
        rw [hf]; exact this
      · exact h.elim
    · split at h
      · rename_i v H' ho; exact ⟨v, H', _, ho, h⟩
      · exact h.elim

theorem upd_self {T : Env} {g : Nat} {v : AV} (h : T g = v) : upd T g v = T := by
  funext i
  rw [upd_eq]
  split
  · rename_i e; rw [e, h]
  · rfl

theorem rpOps_sound {call : CallF} {Q : List Sc → Env → Heap → Prop} : ∀ {ops : List AOper} {kn : List Nat} {s : List Sc} {T : Env} {H : Heap}, rpOps call Q kn ops s T H →
    ∃ s' T' H', Q s' T' H' ∧ runOps call ops T H = some (.env T' H') ∧ ∀ i, runD call i ops none T H = some (.env T' H')
  | [], kn, s, T, H, h => ⟨s, T, H, h, rfl, fun _ => rfl⟩
  | o :: r, kn, s, T, H, h => by
    have key : ∀ kn s, wantedA o T = some true → rpOp call (fun s T H => rpOps call Q kn r s T H) s o.dst o.op T H → ∃ s' T' H', Q s' T' H' ∧ runOps call (o :: r) T H = some (.env T' H') ∧ ∀ i, runD call i (o :: r) none T H = some (.env T' H') := by
      intro kn s hw h
      obtain ⟨v, H1, s1, h1, h2⟩ := rpOp_sound h
      obtain ⟨s2, T2, H2, q, e1, e2⟩ := rpOps_sound h2
      refine ⟨s2, T2, H2, q, ?_, fun i => ?_⟩
      · simp only [runOps, hw, stepD_step h1]; exact e1
      · simp only [runD, hw, h1]; exact e2 _
    have skip : ∀ kn s, wantedA o T = some false → rpOps call Q kn r s (setD T o.dst (.tuple [])) H → ∃ s' T' H', Q s' T' H' ∧ runOps call (o :: r) T H = some (.env T' H') ∧ ∀ i, runD call i (o :: r) none T H = some (.env T' H') := by
      intro kn s hw h
      obtain ⟨s2, T2, H2, q, e1, e2⟩ := rpOps_sound h
      exact ⟨s2, T2, H2, q, by simp only [runOps, hw]; exact e1, fun i => by simp only [runD, hw]; exact e2 _⟩
    simp only [rpOps] at h
    split at h
    · rename_i hg
      exact key _ s (by unfold wantedA; rw [hg]) h
    · rename_i g w hg
      have fin : ∀ b kn s, T g = .bool b → (bif b == w then rpOp call (fun s T H => rpOps call Q kn r s T H) s o.dst o.op T H else rpOps call Q kn r s (setD T o.dst (.tuple [])) H) →
          ∃ s' T' H', Q s' T' H' ∧ runOps call (o :: r) T H = some (.env T' H') ∧ ∀ i, runD call i (o :: r) none T H = some (.env T' H') := by
        intro b kn s h1 h2
        have hw : wantedA o T = some (b == w) := by unfold wantedA; rw [hg]; simp only [h1]
        cases hb : (b == w) with
        | true => rw [hb] at hw h2; exact key _ _ hw h2
        | false => rw [hb] at hw h2; exact skip _ _ hw h2
      cases hkn : kn.contains g with
      | true =>
        rw [hkn] at h
        simp only [cond_true] at h
        split at h
        · rename_i b hb; exact fin b _ _ hb h
        · exact h.elim
      | false =>
        rw [hkn] at h
        simp only [cond_false] at h
        split at h
        · obtain ⟨h1, h2⟩ := h
          rw [upd_self h1] at h2
          exact fin _ _ _ h1 h2
        · exact h.elim

theorem rp_sound {cfg : Cfg} {A : AFunc} {r : ARes × Heap} : ∀ (n : Nat) {k : List AIt} {s : List Sc} {T : Env} {H : Heap}, Rp cfg A r n k s T H → runL cfg A k T H = some r := by
  intro n
  induction n with
  | zero => intro k s T H h; exact h
  | succ n ih =>
    intro k s T H h
    simp only [Rp] at h
    split at h
    · exact h
    · split at h
      · rw [runL_nil]; exact h
      · rw [runL_blk]; exact ih h
      · rw [runL_lp]; exact ih h
      · exact h.elim
      · split at h
        · rw [runL_skip]; exact ih h
        · rw [runL_seq]; exact ih h
        · rename_i x a b
          split at h
          · obtain ⟨h1, h2⟩ := h
            rw [runL_cond, h1]
            rename Bool => t
            cases t <;> exact ih h2
          · exact h.elim
        · rw [runL_block]; exact ih h
        · rw [runL_loop]; exact ih h
        · split at h
          · rename_i k' hk; rw [runL_exit, hk]; exact ih h
          · exact h.elim
        · rw [runL_ret, h.1]; exact h.2
        · rename_i ops d
          obtain ⟨s', T', H', q, e1, e2⟩ := rpOps_sound h
          rw [runL_region]
          have : regionA (lim cfg) d ops T H = some (.env T' H') := by cases d <;> simp [regionA, e1, e2]
          rw [this]
          exact ih q
        · exact h.elim

end Go.Aa
