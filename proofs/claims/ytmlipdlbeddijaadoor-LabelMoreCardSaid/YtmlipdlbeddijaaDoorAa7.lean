/-
  WHAT THE ABSTRACT OPERATIONS ANSWER, THE MACHINE's ANSWER TOO: conversions, composites.
-/
import Derived.Test.YtmlipdlbeddijaaDoorAa6
import Derived.Laws.Tables
import Derived.Laws.BytesArg
set_option linter.unusedVariables false
set_option linter.unusedSimpArgs false
namespace Go.Aa
open Go.RowKit

variable {P : Program} {G G' : Ghost} {w w' : World}

theorem bytesA_spec : ∀ {l : List AV} {bs : List UInt8}, bytesA l = some bs → ∃ ns : List Int, l = ns.map (AV.int .u8) ∧ bs = ns.map fun n => UInt8.ofNat n.toNat
  | [], bs, h => by simp only [bytesA, Option.some.injEq] at h; exact ⟨[], rfl, h.symm⟩
  | x :: l, bs, h => by
    simp only [bytesA] at h
    split at h
    · rename_i b bs' h1 h2
      simp only [Option.some.injEq] at h
      obtain ⟨ns, rfl, rfl⟩ := bytesA_spec h2
      unfold byteOfA at h1
      split at h1
      · rename_i n
        simp only [Option.some.injEq] at h1
        exact ⟨n :: ns, rfl, by rw [← h, ← h1]; rfl⟩
      · cases h1
    · cases h

theorem run_conv_int {x z : AV} {u : Value} {s d : TypeId} {k : IntKind} {ds : TypeDesc} (hx : Rep G w u x) (h : convA (.int k) x = some z) (hs : P.underlying s = some ds) (hd : P.underlying d = some (.int k)) :
    ∃ r, (convert s d u).run P w = .ok r w ∧ Rep G w r z := by
  cases x <;> simp only [convA, reduceCtorEq, Option.some.injEq] at h
  subst h; cases hx
  refine ⟨_, ?_, .int _ _⟩
  simp [convert, run_underlying hs, run_underlying hd, Conv.intToInt]

theorem run_conv_flt {x z : AV} {u : Value} {s d : TypeId} {k : IntKind} (hx : Rep G w u x) (h : convA .flt x = some z) (hs : P.underlying s = some (.int k)) (hd : P.underlying d = some (.float .f64)) :
    ∃ r, (convert s d u).run P w = .ok r w ∧ Rep G w r z := by
  cases x <;> simp only [convA, reduceCtorEq, Option.some.injEq] at h
  subst h; cases hx
  refine ⟨_, ?_, .flt _⟩
  simp [convert, run_underlying hs, run_underlying hd, Conv.intToFloat]

theorem run_conv_str {x z : AV} {u : Value} {s d : TypeId} (hx : Rep G w u x) (h : convA .str x = some z) (hs : P.underlying s = some .string) (hd : P.underlying d = some .string) :
    ∃ r, (convert s d u).run P w = .ok r w ∧ Rep G w r z := by
  cases x <;> simp only [convA, reduceCtorEq, Option.some.injEq] at h
  subst h; cases hx
  refine ⟨_, ?_, .str _⟩
  simp [convert, run_underlying hs, run_underlying hd]

theorem run_conv_bytes {x z : AV} {u : Value} {s d e : TypeId} (hx : Rep G w u x) (h : convA .bytes x = some z) (hs : P.underlying s = some (.slice e)) (he : P.underlying e = some (.int .u8)) (hd : P.underlying d = some .string) :
    ∃ r, (convert s d u).run P w = .ok r w ∧ Rep G w r z := by
  cases x <;> simp only [convA, reduceCtorEq, Option.map_eq_some_iff] at h
  rename_i k l
  obtain ⟨bs, hb, rfl⟩ := h
  obtain ⟨ns, rfl, rfl⟩ := bytesA_spec hb
  rcases Nat.eq_zero_or_pos ns.length with h0 | h0
  · obtain rfl : ns = [] := List.eq_nil_of_length_eq_zero h0
    cases hx with
    | sl0 a c =>
      refine ⟨.string ByteArray.empty, ?_, .str []⟩
      cases a with
      | none => simp [convert, run_underlying hs, run_underlying hd, run_underlying he, Conv.bytesToString]
      | some a =>
        obtain ⟨b, o, sp⟩ := a
        simp [convert, run_underlying hs, run_underlying hd, run_underlying he, Conv.bytesToString, loadCells, loadCellsFrom]
    | sl _ _ _ _ _ _ hl => exact absurd rfl hl
  · obtain ⟨a, c, es, us, rfl, hsp, hc, hcm, hes, he0, hlim, hdd, hcell, hrep⟩ := hx.elem (i := 0) (by simpa using h0)
    have hes1 : es = 1 := by rw [← hes 0 (by simpa using h0)]; simp [AV.cells]
    subst hes1
    obtain ⟨b, o, sp⟩ := a
    simp only at hsp
    subst hsp
    refine ⟨.string (strOfNums ns), ?_, .str _⟩
    have := run_convert_bytes_arg (P := P) w s e hs he b o (ns.map (AV.int .u8)).length c ns (by simp) (fun i hi => ?_) d hd
    · exact this
    · have hi' : i < ns.length := by simpa using hi
      have h1 := hcell i hi 0 (by omega)
      have h2 := hrep i hi 0 (by simp [AV.cells])
      simp only [List.getElem_map, AV.cells, List.getElem_cons_zero] at h2
      rw [add_off rfl] at h1
      simp only [Nat.mul_one, Nat.add_zero] at h1
      cases h2' : us i 0 <;> rw [h2'] at h2 h1 <;> cases h2
      rw [h1]
      simp [hi', List.getD, List.getElem?_eq_getElem]

/-- Cells read as abstract cells, one by one. -/
def ARep (G : Ghost) (w : World) (us : List Value) (cs : List AV) : Prop := us.length = cs.length ∧ ∀ i (h1 : i < us.length) (h2 : i < cs.length), Rep G w us[i] cs[i]

theorem ARep.of {us : Array Value} {cs : List AV} (hn : us.size = cs.length) (h : ∀ i (h1 : i < us.size) (h2 : i < cs.length), Rep G w us[i] cs[i]) : ARep G w us.toList cs :=
  ⟨by simpa using hn, fun i h1 h2 => by rw [Array.getElem_toList]; exact h i (by simpa using h1) h2⟩
theorem ARep.to {us : Array Value} {cs : List AV} (h : ARep G w us.toList cs) : us.size = cs.length ∧ ∀ i (h1 : i < us.size) (h2 : i < cs.length), Rep G w us[i] cs[i] :=
  ⟨by simpa using h.1, fun i h1 h2 => by have := h.2 i (by simpa using h1) h2; rwa [Array.getElem_toList] at this⟩

theorem ARep.set {us : List Value} {cs : List AV} {v : Value} {x : AV} (h : ARep G w us cs) (hr : Rep G w v x) (o : Nat) : ARep G w (us.set o v) (cs.set o x) := by
  refine ⟨by simpa using h.1, fun i h1 h2 => ?_⟩
  rw [List.getElem_set, List.getElem_set]
  split
  · exact hr
  · exact h.2 i (by simpa using h1) (by simpa using h2)

def pasteV (cells : List Value) (off : Nat) : List Value → List Value
  | [] => cells
  | v :: vs => pasteV (cells.set off v) (off + 1) vs

theorem ARep.paste : ∀ {vs : List Value} {xs : List AV} {us : List Value} {cs : List AV} {off : Nat}, ARep G w us cs → ARep G w vs xs → ARep G w (pasteV us off vs) (paste cs off xs)
  | [], [], _, _, _, h, _ => h
  | [], _ :: _, _, _, _, _, hv => by have := hv.1; simp at this
  | _ :: _, [], _, _, _, _, hv => by have := hv.1; simp at this
  | v :: vs, x :: xs, us, cs, off, h, hv => by
    simp only [pasteV, Go.Aa.paste]
    have h0 : Rep G w v x := hv.2 0 (by simp) (by simp)
    refine ARep.paste (h.set h0 off) ⟨by simpa using hv.1, fun i h1 h2 => ?_⟩
    have := hv.2 (i + 1) (by simpa using h1) (by simpa using h2)
    simpa using this

theorem paste_length : ∀ (xs : List AV) (cs : List AV) (off : Nat), (paste cs off xs).length = cs.length
  | [], _, _ => rfl
  | x :: xs, cs, off => by simp [paste, paste_length xs]

theorem foldl_paste (vs : List Value) : ∀ (cells : Array Value) (off j : Nat), ((vs.zipIdx j).foldl (fun cs (p : Value × Nat) => cs.setIfInBounds (off + p.2) p.1) cells).toList = pasteV cells.toList (off + j) vs := by
  induction vs with
  | nil => intro cells off j; rfl
  | cons v vs ih =>
    intro cells off j
    simp only [List.zipIdx_cons, List.foldl_cons, pasteV]
    rw [ih]
    simp [Nat.add_assoc]

/-- A value whose cells are told. -/
theorem Rep.cellsN {n : Nat} {v : Value} {x : AV} (h : Rep G w v x) (hn : cellsN n x = true) : v.cells.size = n ∧ ARep G w v.cells.toList x.cells := by
  have one : ∀ {v : Value} {x : AV}, v.cells = #[v] → x.cells = [x] → Rep G w v x → ARep G w v.cells.toList x.cells := by
    intro v x e1 e2 h
    rw [e1, e2]
    exact ⟨rfl, fun i h1 h2 => by
      have : i = 0 := by simpa using h2
      subst this
      exact h⟩
  cases h <;> simp only [Go.Aa.cellsN, Bool.false_eq_true, beq_iff_eq] at hn
  case agg us cs hl hr =>
    refine ⟨?_, ?_⟩
    · show us.size = n
      omega
    · exact ARep.of hl hr
  all_goals
    refine ⟨?_, one rfl rfl (by constructor <;> assumption)⟩
    rw [hn]; rfl

theorem fill_run (place : Nat → Option (Nat × Nat)) {n : Nat} {a : Act} {T : Env} (hT : TRep G w n a.tmps T) : ∀ (parts : List (Nat × Operand)) (ps : List (Nat × Nat × Opd)) (cells : Array Value) (cs cs' : List AV),
    cParts P place parts = some ps → ARep G w cells.toList cs → buildA cs (ps.map fun p => (p.1, p.2.1, ev T p.2.2)) = some cs' →
    ∃ out, Instr.fill place cells (parts.map fun p => (p.1, a.eval p.2)) = some out ∧ ARep G w out.toList cs'
  | [], ps, cells, cs, cs', hp, hc, h => by
    simp only [cParts, Option.some.injEq] at hp
    subst hp
    simp only [List.map_nil, buildA, Option.some.injEq] at h
    subst h
    exact ⟨cells, rfl, hc⟩
  | (i, x) :: parts, ps, cells, cs, cs', hp, hc, h => by
    simp only [cParts] at hp
    split at hp
    · rename_i o m y ys hpl hx hrest
      simp only [Option.some.injEq] at hp
      subst hp
      simp only [List.map_cons, buildA] at h
      split at h
      · rename_i hok
        obtain ⟨hN, hle⟩ := hok
        obtain ⟨hsz, hr⟩ := Rep.cellsN (cOpd_rep hT hx) hN
        have hcl := hc.1
        simp only [Array.length_toList] at hcl
        simp only [List.map_cons, Instr.fill, hpl]
        rw [if_neg (by simp [hsz]; omega)]
        refine fill_run place hT parts ys _ _ _ hrest ?_ h
        have e := foldl_paste (a.eval x).cells.toList cells o 0
        rw [Nat.add_zero] at e
        have e2 : (((a.eval x).cells.zipIdx.foldl (fun cs (x : Value × Nat) => match x with | (c, j) => cs.setIfInBounds (o + j) c) cells)).toList = pasteV cells.toList o (a.eval x).cells.toList := by
          rw [← e, ← Array.foldl_toList, Array.toList_zipIdx]
        rw [e2]
        exact hc.paste hr
      · cases h
    · cases hp

theorem run_buildA {n : Nat} {a : Act} {T : Env} {t : TypeId} {parts : Array (Nat × Operand)} {z : List AV} {place : Nat → Option (Nat × Nat)} {ps : List (Nat × Nat × Opd)} {cs : List AV} (hT : TRep G w n a.tmps T)
    (hz : zeroCells P t = some z) (hpl : placesT P t = some place) (hps : cParts P place parts.toList = some ps) (h : buildA z (ps.map fun p => (p.1, p.2.1, ev T p.2.2)) = some cs) :
    ∃ r, (Instr.build t (parts.map fun (i, x) => (i, a.eval x))).run P w = .ok r w ∧ Rep G w r (.agg cs) := by
  unfold zeroCells at hz
  split at hz
  · rename_i it hit
    split at hz
    · rename_i zv hzv
      have hz0 : ARep G w zv.cells.toList z := by
        obtain ⟨h1, h2⟩ := ofVs_rep (G := G) (w := w) hz
        exact ⟨h1, h2⟩
      obtain ⟨out, hf, ho⟩ := fill_run (P := P) place hT parts.toList ps zv.cells z cs hps hz0 h
      obtain ⟨ho1, ho2⟩ := ho.to
      refine ⟨.agg out, run_build w t _ out ?_, .agg _ _ ho1 ho2⟩
      have hl : (parts.map fun (i, x) => (i, a.eval x)).toList = parts.toList.map fun p => (p.1, a.eval p.2) := by simp
      rw [hl]
      unfold Program.built
      unfold placesT at hpl
      split at hpl
      · rename_i fs hfs
        split at hpl
        · rename_i pl hpl'
          simp only [Option.some.injEq] at hpl
          subst hpl
          simp only [hit, hfs, hzv, hpl']
          have : (fun x : Nat => pl.toArray[x]?) = fun (i : Nat) => pl[i]? := by funext x; simp
          rw [this]; exact hf
        · cases hpl
      · rename_i m e hfs
        split at hpl
        · rename_i ie hie
          simp only [Option.some.injEq] at hpl
          subst hpl
          simp only [hit, hfs, hzv, hie]
          exact hf
        · cases hpl
      · cases hpl
    · cases hz
  · cases hz

end Go.Aa
