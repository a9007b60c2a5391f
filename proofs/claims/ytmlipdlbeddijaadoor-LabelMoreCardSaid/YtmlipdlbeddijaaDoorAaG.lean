/-
  THE OPERATIONS OF A STATEMENT, IN THE TEXT's ORDER AND IN ANY.
-/
import Derived.Test.YtmlipdlbeddijaaDoorAaF
import Derived.OrdersIn
set_option linter.unusedVariables false
set_option linter.unusedSimpArgs false
namespace Go.Aa
open Go.RowKit

variable {P : Program} {G G' : Ghost} {w w' : World}

theorem cOpers_get {nt : Nat} {ops : Array Oper} : ∀ {l : List Oper} {acc : List (List Nat)} {as : List AOper}, cOpers P nt ops acc l = some as →
    as.length = l.length ∧ ∀ i (h1 : i < l.length) (h2 : i < as.length), cOper P nt ops (acc ++ (as.take i).map (·.deps)) l[i] = some as[i]
  | [], acc, as, h => by
    simp only [cOpers, Option.some.injEq] at h
    subst h
    exact ⟨rfl, fun i h1 => absurd h1 (by simp)⟩
  | o :: r, acc, as, h => by
    simp only [cOpers] at h
    split at h
    · cases h
    · rename_i a ha
      split at h
      · rename_i as' hr
        simp only [Option.some.injEq] at h
        subst h
        obtain ⟨i1, i2⟩ := cOpers_get hr
        refine ⟨by simp [i1], fun i h1 h2 => ?_⟩
        cases i with
        | zero => simpa using ha
        | succ i =>
          have := i2 i (by simpa using h1) (by simpa using h2)
          simpa using this
      · cases h

theorem cOper_inv {nt : Nat} {ops : Array Oper} {acc : List (List Nat)} {o : Oper} {ao : AOper} (h : cOper P nt ops acc o = some ao) :
    o.dst.all (fun d => decide (d < nt)) = true ∧ cOp P o.op = some ao.op ∧ ao.dst = o.dst ∧ ao.deps = depsOf acc o.after.toList ∧
      ((o.guard = none ∧ ao.guard = none) ∨ ∃ j want g, o.guard = some (j, want) ∧ (ops[j]?).bind (·.dst) = some g ∧ ao.guard = some (g, want)) := by
  unfold cOper at h
  split at h
  · cases h
  · rename_i hd
    split at h
    · cases h
    · rename_i op hop
      split at h
      · rename_i hg
        simp only [Option.some.injEq] at h
        subst h
        exact ⟨by simpa using hd, hop, rfl, rfl, .inl ⟨hg, rfl⟩⟩
      · rename_i j want hg
        split at h
        · rename_i g hgd
          simp only [Option.some.injEq] at h
          subst h
          exact ⟨by simpa using hd, hop, rfl, rfl, .inr ⟨j, want, g, hg, hgd, rfl⟩⟩
        · cases h

theorem wanted_sound {nt : Nat} {ops : Array Oper} {acc : List (List Nat)} {o : Oper} {ao : AOper} {n : Nat} {a : Act} {T : Env} {b : Bool} (hc : cOper P nt ops acc o = some ao) (hT : TRep G w n a.tmps T) (h : wantedA ao T = some b) :
    Region.wanted o (yielded ops a.tmps) = b := by
  obtain ⟨_, _, _, _, hg⟩ := cOper_inv hc
  unfold wantedA at h
  rcases hg with ⟨h1, h2⟩ | ⟨j, want, g, h1, h2, h3⟩
  · rw [h2] at h
    simp only [Option.some.injEq] at h
    simp [Region.wanted, h1, h]
  · rw [h3] at h
    simp only at h
    split at h <;> simp only [Option.some.injEq, reduceCtorEq] at h
    rotate_left
    · rename_i hb
      have hr := hT.get g
      rw [hb] at hr
      have hv : ∀ b, a.tmps[g]? ≠ some (.bool b) := by
        intro b hgg
        rw [show a.tmps.getD g undef = .bool b by simp [Array.getD_eq_getD_getElem?, hgg]] at hr
        cases hr
      simp only [Region.wanted, h1, yielded, h2, Option.bind_some]
      rw [← h]
      cases hgg : a.tmps[g]? with
      | none => rfl
      | some y =>
        cases y with
        | bool b => exact absurd hgg (hv b)
        | _ => rfl
    rename_i b0 hb
    have hr := hT.get g
    rw [hb] at hr
    have hv : a.tmps[g]? = some (.bool b0) := by
      generalize hx : a.tmps.getD g undef = x at hr
      cases hr
      simp only [Array.getD_eq_getD_getElem?] at hx
      cases hgg : a.tmps[g]? with
      | none => rw [hgg] at hx; simp [undef] at hx
      | some y => rw [hgg] at hx; simpa using hx
    simp only [Region.wanted, h1, yielded, h2, Option.bind_some, hv]
    rw [← h]
    cases b0 <;> cases want <;> rfl

/-- One operation, its guard looked at. -/
def exec (step : AOp → Env → Heap → Option Out) (o : AOper) (T : Env) (H : Heap) : Option Out :=
  match wantedA o T with
  | some true => step o.op T H
  | some false => some (.val (.tuple []) H)
  | none => none

/-- Where a statement's operations come to. -/
def RegPost (P : Program) (G : Ghost) (w : World) (n : Nat) (df : List Deferred) (out : OutE) : Exit → Act → World → Prop
  | .normal, a', w' => ∃ G' T' H', out = .env T' H' ∧ Step G w G' w' ∧ TRep G' w' n a'.tmps T' ∧ HRep P G' w' H' ∧ a'.defers = df
  | .panic ch, a', w' => ∃ r v H' G', ch = [{ v := r, recovered := false }] ∧ out = .pan v H' ∧ Step G w G' w' ∧ HRep P G' w' H' ∧ Rep G' w' r v ∧ a'.defers = df
  | _, _, _ => False

theorem RegPost.before {n : Nat} {df : List Deferred} {out : OutE} {e : Exit} {a' : Act} {w1 w2 : World} {G1 : Ghost} (h : RegPost P G1 w1 n df out e a' w2) (hst : Step G w G1 w1) : RegPost P G w n df out e a' w2 := by
  cases e with
  | normal => obtain ⟨G', T', H', h1, h2, h3⟩ := h; exact ⟨G', T', H', h1, hst.trans h2, h3⟩
  | panic ch => obtain ⟨r, v, H', G', h0, h1, h2, h3⟩ := h; exact ⟨r, v, H', G', h0, h1, hst.trans h2, h3⟩
  | _ => exact h.elim

theorem put_defers (a : Act) (d : Option Tmp) (v : Value) : (a.put d v).defers = a.defers := by cases d <;> rfl

/-- THE NEXT OPERATION of a list. -/
theorem index_sound {call : CallF} (hc : CallSound P call) {nt : Nat} {ops : Array Oper} {acc : List (List Nat)} {i : Nat} {o : Oper} {ao : AOper} (hi : ops[i]? = some o) (hco : cOper P nt ops acc o = some ao)
    {a : Act} {T : Env} {H : Heap} (hT : TRep G w nt a.tmps T) (hH : HRep P G w H) {out : Out} (h : exec (opStep call) ao T H = some out) {ro : Option Nat} {Q : Exit → Act → World → Prop} {K : Act → World → Prop}
    (hval : ∀ v H' a' w' G', out = .val v H' → Step G w G' w' → HRep P G' w' H' → TRep G' w' nt a'.tmps (setD T ao.dst v) → a'.defers = a.defers → K a' w')
    (hpan : ∀ v H' r w' G', out = .pan v H' → Step G w G' w' → HRep P G' w' H' → Rep G' w' r v → Q (.panic [{ v := r, recovered := false }]) a w') : wpOpIn (W ro) 0 P ops Q i K a w := by
  obtain ⟨hd, hop, hdst, _, _⟩ := cOper_inv hco
  have hset : ∀ v r w' G', Step G w G' w' → Rep G' w' r v → TRep G' w' nt (a.put o.dst r).tmps (setD T ao.dst v) := fun v r w' G' hst hr => by
    rw [hdst]
    exact (hT.step hst).setD (df := a.defers) hd hr
  unfold exec at h
  simp only [wpOpIn, hi]
  split at h
  · rename_i hw
    rw [if_pos (wanted_sound hco hT hw)]
    exact oper_sound hc hT hH hop h (fun v H' r w' G' e hst hh hr => hval v H' _ w' G' e hst hh (hset _ _ _ _ hst hr) (put_defers _ _ _)) hpan
  · rename_i hw
    simp only [Option.some.injEq] at h
    subst h
    rw [if_neg (by rw [wanted_sound hco hT hw]; simp)]
    exact ⟨fun _ _ => trivial, hval _ _ _ w G rfl (.refl _ _) hH (hset _ _ _ _ (.refl _ _) (.tuple #[] [] rfl (fun i h1 => absurd h1 (by simp)))) (put_defers _ _ _)⟩
  · cases h

theorem runOps_cons {call : CallF} {o : AOper} {r : List AOper} {T : Env} {H : Heap} {out : OutE} (h : runOps call (o :: r) T H = some out) :
    ∃ o1, exec (opStep call) o T H = some o1 ∧ (match o1 with | .val v H' => runOps call r (setD T o.dst v) H' | .pan v H' => some (.pan v H')) = some out := by
  simp only [runOps] at h
  unfold exec
  cases hw : wantedA o T with
  | none => rw [hw] at h; cases h
  | some b =>
    rw [hw] at h
    cases b with
    | false => exact ⟨_, rfl, h⟩
    | true =>
      simp only at h ⊢
      cases hs : opStep call o.op T H with
      | none => rw [hs] at h; cases h
      | some x => rw [hs] at h; exact ⟨x, rfl, by cases x <;> exact h⟩

theorem runOps_bare {call : CallF} : ∀ (l : List AOper) (T : Env) (H : Heap), runOps call (l.map AOper.bare) T H = runOps call l T H
  | [], T, H => rfl
  | o :: l, T, H => by
    simp only [List.map_cons, runOps]
    have hw : wantedA o.bare T = wantedA o T := rfl
    rw [hw]
    cases wantedA o T with
    | none => rfl
    | some b =>
      cases b with
      | false => exact runOps_bare l _ _
      | true =>
        simp only
        have ho : opStep call o.bare.op T H = opStep call o.op T H := rfl
        rw [ho]
        cases opStep call o.op T H with
        | none => rfl
        | some x =>
          cases x with
          | val v H' => exact runOps_bare l _ _
          | pan v H' => rfl

theorem seq_from {call : CallF} (hc : CallSound P call) {nt : Nat} {ops : Array Oper} {as : List AOper} (hco : cOpers P nt ops [] ops.toList = some as) {ro : Option Nat} {Q : Exit → Act → World → Prop} :
    ∀ (m k : Nat), k + m = ops.size → ∀ {G : Ghost} {w : World} {a : Act} {T : Env} {H : Heap} {out : OutE}, TRep G w nt a.tmps T → HRep P G w H → runOps call (as.drop k) T H = some out →
      (∀ e a' w', RegPost P G w nt a.defers out e a' w' → Q e a' w') → wpOpsIn (W ro) 0 P ops Q (List.range' k m) a w := by
  obtain ⟨hlen, hget⟩ := cOpers_get hco
  intro m
  induction m with
  | zero =>
    intro k hk G w a T H out hT hH h hQ
    have : as.drop k = [] := List.drop_eq_nil_of_le (by simp at hlen; omega)
    rw [this] at h
    simp only [runOps, Option.some.injEq] at h
    subst h
    exact hQ _ _ _ ⟨G, T, H, rfl, .refl _ _, hT, hH, rfl⟩
  | succ m ih =>
    intro k hk G w a T H out hT hH h hQ
    have hk' : k < as.length := by simp at hlen; omega
    have hks : k < ops.size := by omega
    rw [List.drop_eq_getElem_cons hk'] at h
    rw [List.range'_succ, wpOpsIn_cons]
    have hci := hget k (by simpa using hks) hk'
    obtain ⟨o1, h1, h2⟩ := runOps_cons h
    refine index_sound hc (o := ops[k]) (by simp [hks]) (by simpa using hci) hT hH h1 (fun v H' a' w' G' e hst hh ht hdf => ?_) (fun v H' r w' G' e hst hh hr => ?_)
    · subst e
      exact ih (k + 1) (by omega) ht hh h2 fun e a2 w2 hq => hQ _ _ _ (by rw [hdf] at hq; exact hq.before hst)
    · subst e
      simp only [Option.some.injEq] at h2
      subst h2
      exact hQ _ _ _ ⟨r, v, H', G', rfl, rfl, hst, hh, hr, rfl⟩

end Go.Aa
