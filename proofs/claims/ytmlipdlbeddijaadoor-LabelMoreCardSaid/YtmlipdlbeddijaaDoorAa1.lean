/-
  ABSTRACT VALUES: a by-value reading of Go's memory; what it means that a value of the machine reads as an abstract one;
  how worlds may step on without a reading being lost. No program occurs here.
-/
import Derived.Below
import Derived.OwnWalk
import Derived.Laws.Sem
import Derived.Laws.Cells
import Derived.Laws.Append
import Derived.Laws.Entries
import Derived.WalkKit
import Derived.KernelRfl
set_option linter.unusedVariables false
set_option linter.unusedSimpArgs false
namespace Go.Aa

/-- How a slice may grow: 'sh': nothing is known of what lies behind it; 'full': its capacity is its length; 'own t': it grows by token t. -/
inductive SK where
  | sh | full | own (t : Nat)
  deriving DecidableEq, Repr

/-- Abstract values. -/
inductive AV where
  | undef
  | bool (b : Bool)
  | int (k : IntKind) (n : Int)
  | flt (bits : Nat)
  | nan
  | str (s : List UInt8)
  | sl (k : SK) (l : List AV)
  | agg (cs : List AV)
  | tuple (vs : List AV)
  | ptr (k off : Nat)
  | ref (cs : List AV)
  | nilptr
  | func (f : FuncId) (caps : List AV)
  | nilFunc
  | iface (t : TypeId) (v : AV)
  | nilIface
  | msl (k off len : Nat)
  | yield (l : Nat)
  deriving Inhabited

/-- A value's cells. -/
def AV.cells : AV → List AV
  | .agg cs => cs
  | x => [x]

/-- No pointer into a box, no token, no loop: what it reads as hangs on settled memory alone. -/
inductive AV.Data : AV → Prop
  | undef : Data .undef
  | bool (b) : Data (.bool b)
  | int (k n) : Data (.int k n)
  | flt (b) : Data (.flt b)
  | nan : Data .nan
  | str (s) : Data (.str s)
  | sl (k : SK) (l) (hk : ∀ t, k ≠ .own t) (h : ∀ x ∈ l, ∀ y ∈ x.cells, Data y) : Data (.sl k l)
  | agg (cs) (h : ∀ x ∈ cs, Data x) : Data (.agg cs)
  | tuple (cs) (h : ∀ x ∈ cs, Data x) : Data (.tuple cs)
  | ref (cs) (h : ∀ x ∈ cs, Data x) : Data (.ref cs)
  | nilptr : Data .nilptr
  | func (f) (cs) (h : ∀ x ∈ cs, Data x) : Data (.func f cs)
  | nilFunc : Data .nilFunc
  | iface (t x) (h : Data x) : Data (.iface t x)
  | nilIface : Data .nilIface

/-- What is known beside the world: how far each block is settled for good; the blocks of the boxes, of the tokens' rows, of the loops' records. -/
structure Ghost where
  lim : Nat → Nat
  nb : Nat
  μ : Nat → Nat
  nt : Nat
  τ : Nat → Nat
  ext : Nat → Nat
  cap : Nat → Nat
  tes : Nat → Nat
  nl : Nat
  ln : Nat → Nat

/-- The value of the machine reads as the abstract one. -/
inductive Rep (G : Ghost) (w : World) : Value → AV → Prop
  | undef (v : Value) : Rep G w v .undef
  | bool (b : Bool) : Rep G w (.bool b) (.bool b)
  | int (k : IntKind) (n : Int) : Rep G w (.int k n) (.int k n)
  | flt (b : Nat) : Rep G w (.float .f64 b) (.flt b)
  | nan (b : Nat) (h : (FloatKind.f64.format.read b).isNaN = true) : Rep G w (.float .f64 b) .nan
  | str (s : List UInt8) : Rep G w (.string ⟨s.toArray⟩) (.str s)
  | sl0 (a : Option Addr) (c : Nat) (k : SK) (hc : k = .full → c = 0) (ht : ∀ t, k ≠ .own t) : Rep G w (.slice a 0 c) (.sl k [])
  | sl (a : Addr) (c : Nat) (k : SK) (l : List AV) (es : Nat) (us : Nat → Nat → Value)
      (hl : l ≠ []) (hc : l.length ≤ c) (hcm : c ≤ 9223372036854775807) (hs : a.spot = none) (hes : ∀ i (hi : i < l.length), (l[i]).cells.length = es) (he0 : 0 < es) (hd : ∀ x ∈ l, ∀ y ∈ x.cells, AV.Data y)
      (hlim : a.off + l.length * es ≤ G.lim a.block)
      (hcell : ∀ i, i < l.length → ∀ j, j < es → w.cell? (a.add (i * es + j)) = some (us i j))
      (hrep : ∀ i (hi : i < l.length) j (hj : j < (l[i]).cells.length), Rep G w (us i j) ((l[i]).cells[j]))
      (hfull : k = .full → c = l.length)
      (hown : ∀ t, k = .own t → t < G.nt ∧ es = G.tes t ∧ l.length ≤ G.ext t ∧ (l.length = G.ext t → a = ⟨G.τ t, 0, none⟩ ∧ c = G.cap t)) : Rep G w (.slice (some a) l.length c) (.sl k l)
  | agg (us : Array Value) (cs : List AV) (hn : us.size = cs.length) (h : ∀ i (h1 : i < us.size) (h2 : i < cs.length), Rep G w us[i] cs[i]) : Rep G w (.agg us) (.agg cs)
  | tuple (us : Array Value) (cs : List AV) (hn : us.size = cs.length) (h : ∀ i (h1 : i < us.size) (h2 : i < cs.length), Rep G w us[i] cs[i]) : Rep G w (.tuple us) (.tuple cs)
  | ptr (k off : Nat) (hk : k < G.nb) : Rep G w (.pointer (some ⟨G.μ k, off, none⟩)) (.ptr k off)
  | ref (a : Addr) (cs : List AV) (us : Nat → Value) (hs : a.spot = none) (hd : ∀ y ∈ cs, AV.Data y) (hlim : a.off + cs.length ≤ G.lim a.block)
      (hcell : ∀ j, j < cs.length → w.cell? (a.add j) = some (us j)) (hrep : ∀ j (hj : j < cs.length), Rep G w (us j) cs[j]) : Rep G w (.pointer (some a)) (.ref cs)
  | nilptr : Rep G w (.pointer none) .nilptr
  | func (f : FuncId) (us : Array Value) (cs : List AV) (hn : us.size = cs.length) (h : ∀ i (h1 : i < us.size) (h2 : i < cs.length), Rep G w us[i] cs[i]) : Rep G w (.func (.func f) #[] us) (.func f cs)
  | nilFunc : Rep G w .nilFunc .nilFunc
  | iface (t : TypeId) (v : Value) (x : AV) (h : Rep G w v x) : Rep G w (.iface t v) (.iface t x)
  | nilIface : Rep G w .nilIface .nilIface
  | msl (k off n c : Nat) (hk : k < G.nb) (hc : n ≤ c) : Rep G w (.slice (some ⟨G.μ k, off, none⟩) n c) (.msl k off n)
  | yield (l : Nat) (hl : l < G.nl) : Rep G w (.func (.yield (G.ln l)) #[] #[]) (.yield l)

/-- The world has stepped on: what is settled is as it was; only the boxes', the tokens' and the loops' blocks may have turned, and new ones have come. -/
structure Step (G : Ghost) (w : World) (G' : Ghost) (w' : World) : Prop where
  os : w'.os = w.os
  tape : w'.tape = w.tape
  output : w'.output = w.output
  size : w.heap.size ≤ w'.heap.size
  lim : ∀ b, G.lim b ≤ G'.lim b
  cell : ∀ b off, off < G.lim b → w'.cell? ⟨b, off, none⟩ = w.cell? ⟨b, off, none⟩
  nb : G.nb ≤ G'.nb
  μ : ∀ k, k < G.nb → G'.μ k = G.μ k
  μnew : ∀ k, G.nb ≤ k → k < G'.nb → w.heap.size ≤ G'.μ k
  nt : G.nt ≤ G'.nt
  ext : ∀ t, t < G.nt → G.ext t ≤ G'.ext t
  τ : ∀ t, t < G.nt → G'.ext t = G.ext t → G'.τ t = G.τ t ∧ G'.cap t = G.cap t
  tes : ∀ t, t < G.nt → G'.tes t = G.tes t
  τnew : ∀ t, t < G'.nt → (t < G.nt ∧ G'.τ t = G.τ t) ∨ w.heap.size ≤ G'.τ t
  nl : G.nl ≤ G'.nl
  ln : ∀ k, k < G.nl → G'.ln k = G.ln k
  lnew : ∀ k, G.nl ≤ k → k < G'.nl → w.heap.size ≤ G'.ln k
  frame : ∀ b, b < w.heap.size → (∀ k, k < G.nb → b ≠ G.μ k) → (∀ t, t < G.nt → b ≠ G.τ t) → (∀ k, k < G.nl → b ≠ G.ln k) → w'.heap[b]? = w.heap[b]? ∧ G'.lim b = G.lim b

theorem Step.refl (G : Ghost) (w : World) : Step G w G w :=
  ⟨rfl, rfl, rfl, Nat.le_refl _, fun _ => Nat.le_refl _, fun _ _ _ => rfl, Nat.le_refl _, fun _ _ => rfl, fun _ h1 h2 => absurd h2 (by omega), Nat.le_refl _, fun _ _ => Nat.le_refl _,
   fun _ _ _ => ⟨rfl, rfl⟩, fun _ _ => rfl, fun _ h => .inl ⟨h, rfl⟩, Nat.le_refl _, fun _ _ => rfl, fun _ h1 h2 => absurd h2 (by omega), fun _ _ _ _ _ => ⟨rfl, rfl⟩⟩

theorem Step.trans {G1 G2 G3 : Ghost} {w1 w2 w3 : World} (h : Step G1 w1 G2 w2) (k : Step G2 w2 G3 w3) : Step G1 w1 G3 w3 where
  os := k.os.trans h.os
  tape := k.tape.trans h.tape
  output := k.output.trans h.output
  size := Nat.le_trans h.size k.size
  lim := fun b => Nat.le_trans (h.lim b) (k.lim b)
  cell := fun b off ho => (k.cell b off (Nat.lt_of_lt_of_le ho (h.lim b))).trans (h.cell b off ho)
  nb := Nat.le_trans h.nb k.nb
  μ := fun i hi => (k.μ i (Nat.lt_of_lt_of_le hi h.nb)).trans (h.μ i hi)
  μnew := fun i h1 h2 => by
    by_cases hi : i < G2.nb
    · rw [k.μ i hi]; exact h.μnew i h1 hi
    · exact Nat.le_trans h.size (k.μnew i (by omega) h2)
  nt := Nat.le_trans h.nt k.nt
  ext := fun t ht => Nat.le_trans (h.ext t ht) (k.ext t (Nat.lt_of_lt_of_le ht h.nt))
  τ := fun t ht he => by
    have h1 := h.ext t ht
    have h2 := k.ext t (Nat.lt_of_lt_of_le ht h.nt)
    have a := h.τ t ht (by omega)
    have b := k.τ t (Nat.lt_of_lt_of_le ht h.nt) (by omega)
    exact ⟨b.1.trans a.1, b.2.trans a.2⟩
  tes := fun t ht => (k.tes t (Nat.lt_of_lt_of_le ht h.nt)).trans (h.tes t ht)
  τnew := fun t ht => by
    rcases k.τnew t ht with ⟨h2, he⟩ | h2
    · rcases h.τnew t h2 with ⟨h3, he3⟩ | h3
      · exact .inl ⟨h3, he.trans he3⟩
      · exact .inr (by rw [he]; exact h3)
    · exact .inr (Nat.le_trans h.size h2)
  nl := Nat.le_trans h.nl k.nl
  ln := fun i hi => (k.ln i (Nat.lt_of_lt_of_le hi h.nl)).trans (h.ln i hi)
  lnew := fun i h1 h2 => by
    by_cases hi : i < G2.nl
    · rw [k.ln i hi]; exact h.lnew i h1 hi
    · exact Nat.le_trans h.size (k.lnew i (by omega) h2)
  frame := fun b hb h1 h2 h3 => by
    obtain ⟨e1, e2⟩ := h.frame b hb h1 h2 h3
    obtain ⟨f1, f2⟩ := k.frame b (Nat.lt_of_lt_of_le hb h.size)
      (fun i hi e => by
        by_cases hi' : i < G1.nb
        · exact h1 i hi' (e.trans (h.μ i hi'))
        · have := h.μnew i (by omega) hi; omega)
      (fun t ht e => by
        rcases h.τnew t ht with ⟨h3, he3⟩ | h3
        · exact h2 t h3 (e.trans he3)
        · omega)
      (fun i hi e => by
        by_cases hi' : i < G1.nl
        · exact h3 i hi' (e.trans (h.ln i hi'))
        · have := h.lnew i (by omega) hi; omega)
    exact ⟨f1.trans e1, f2.trans e2⟩

theorem add_off {a : Addr} (hs : a.spot = none) (n : Nat) : a.add n = ⟨a.block, a.off + n, none⟩ := by
  unfold Addr.add
  split
  · next h => subst h; cases a; simp_all
  · rfl

/-- As much of it as a reading needs. -/
structure Keep (G : Ghost) (w : World) (G' : Ghost) (w' : World) : Prop where
  lim : ∀ b, G.lim b ≤ G'.lim b
  cell : ∀ b off, off < G.lim b → w'.cell? ⟨b, off, none⟩ = w.cell? ⟨b, off, none⟩
  nb : G.nb ≤ G'.nb
  μ : ∀ k, k < G.nb → G'.μ k = G.μ k
  nt : G.nt ≤ G'.nt
  ext : ∀ t, t < G.nt → G.ext t ≤ G'.ext t
  τ : ∀ t, t < G.nt → G'.ext t = G.ext t → G'.τ t = G.τ t ∧ G'.cap t = G.cap t
  tes : ∀ t, t < G.nt → G'.tes t = G.tes t
  nl : G.nl ≤ G'.nl
  ln : ∀ k, k < G.nl → G'.ln k = G.ln k

theorem Step.keep {G G' : Ghost} {w w' : World} (h : Step G w G' w') : Keep G w G' w' := ⟨h.lim, h.cell, h.nb, h.μ, h.nt, h.ext, h.τ, h.tes, h.nl, h.ln⟩

theorem Rep.keep {G G' : Ghost} {w w' : World} (hst : Keep G w G' w') {v : Value} {x : AV} (h : Rep G w v x) : Rep G' w' v x := by
  induction h with
  | undef v => exact .undef v
  | bool b => exact .bool b
  | int k n => exact .int k n
  | flt b => exact .flt b
  | nan b h => exact .nan b h
  | str s => exact .str s
  | sl0 a c k hc ht => exact .sl0 a c k hc ht
  | sl a c k l es us hl hc hcm hs hes he0 hd hlim hcell hrep hfull hown ih =>
    refine .sl a c k l es us hl hc hcm hs hes he0 hd (Nat.le_trans hlim (hst.lim _)) (fun i hi j hj => ?_) ih hfull (fun t ht => ?_)
    · rw [← hcell i hi j hj, add_off hs]
      refine hst.cell _ _ ?_
      have : i * es + es ≤ l.length * es := by
        have := Nat.mul_le_mul_right es (show i + 1 ≤ l.length from hi)
        rw [Nat.add_mul] at this; omega
      omega
    · obtain ⟨h1, h0, h2, h3⟩ := hown t ht
      have hx := hst.ext t h1
      refine ⟨Nat.lt_of_lt_of_le h1 hst.nt, by rw [hst.tes t h1]; exact h0, by omega, fun he => ?_⟩
      have he' : G'.ext t = G.ext t := by omega
      obtain ⟨e1, e2⟩ := h3 (by omega)
      obtain ⟨f1, f2⟩ := hst.τ t h1 he'
      exact ⟨by rw [f1]; exact e1, by rw [f2]; exact e2⟩
  | agg us cs hn h ih => exact .agg us cs hn ih
  | tuple us cs hn h ih => exact .tuple us cs hn ih
  | ptr k off hk => rw [← hst.μ k hk]; exact .ptr k off (Nat.lt_of_lt_of_le hk hst.nb)
  | ref a cs us hs hd hlim hcell hrep ih =>
    refine .ref a cs us hs hd (Nat.le_trans hlim (hst.lim _)) (fun j hj => ?_) ih
    rw [← hcell j hj, add_off hs]
    exact hst.cell _ _ (by omega)
  | nilptr => exact .nilptr
  | func f us cs hn h ih => exact .func f us cs hn ih
  | nilFunc => exact .nilFunc
  | iface t v x h ih => exact .iface t v x ih
  | nilIface => exact .nilIface
  | msl k off n c hk hc => rw [← hst.μ k hk]; exact .msl k off n c (Nat.lt_of_lt_of_le hk hst.nb) hc
  | yield l hl => rw [← hst.ln l hl]; exact .yield l (Nat.lt_of_lt_of_le hl hst.nl)

theorem Rep.step {G G' : Ghost} {w w' : World} (hst : Step G w G' w') {v : Value} {x : AV} (h : Rep G w v x) : Rep G' w' v x := h.keep hst.keep

theorem Rep.data {G G' : Ghost} {w : World} {v : Value} {x : AV} (h : Rep G w v x) (hd : x.Data) (hl : ∀ b, G.lim b ≤ G'.lim b) : Rep G' w v x := by
  induction h with
  | undef v => exact .undef v
  | bool b => exact .bool b
  | int k n => exact .int k n
  | flt b => exact .flt b
  | nan b h => exact .nan b h
  | str s => exact .str s
  | sl0 a c k hc ht => exact .sl0 a c k hc ht
  | sl a c k l es us hln hc hcm hs hes he0 hd0 hlim hcell hrep hfull hown ih =>
    cases hd with
    | sl _ _ hk hdl =>
      refine .sl a c k l es us hln hc hcm hs hes he0 hd0 (Nat.le_trans hlim (hl _)) hcell (fun i hi j hj => ih i hi j hj (hdl _ (List.getElem_mem hi) _ (List.getElem_mem hj))) hfull (fun t ht => absurd ht (hk t))
  | agg us cs hn h ih => cases hd with | agg _ hd => exact .agg us cs hn fun i h1 h2 => ih i h1 h2 (hd _ (List.getElem_mem h2))
  | tuple us cs hn h ih => cases hd with | tuple _ hd => exact .tuple us cs hn fun i h1 h2 => ih i h1 h2 (hd _ (List.getElem_mem h2))
  | ptr k off hk => cases hd
  | ref a cs us hs hd0 hlim hcell hrep ih => cases hd with | ref _ hd => exact .ref a cs us hs hd0 (Nat.le_trans hlim (hl _)) hcell fun j hj => ih j hj (hd _ (List.getElem_mem hj))
  | nilptr => exact .nilptr
  | func f us cs hn h ih => cases hd with | func _ _ hd => exact .func f us cs hn fun i h1 h2 => ih i h1 h2 (hd _ (List.getElem_mem h2))
  | nilFunc => exact .nilFunc
  | iface t v x h ih => cases hd with | iface _ _ hd => exact .iface t v x (ih hd)
  | nilIface => exact .nilIface
  | msl k off n c hk hc => cases hd
  | yield l hl => cases hd

/-- Names boxes below nb, tokens below nt, loops below nl alone. -/
inductive Fits (nb nt nl : Nat) : AV → Prop
  | data (x : AV) (h : x.Data) : Fits nb nt nl x
  | sl (k : SK) (l : List AV) (h : ∀ t, k = .own t → t < nt) : Fits nb nt nl (.sl k l)
  | agg (cs : List AV) (h : ∀ x ∈ cs, Fits nb nt nl x) : Fits nb nt nl (.agg cs)
  | tuple (cs : List AV) (h : ∀ x ∈ cs, Fits nb nt nl x) : Fits nb nt nl (.tuple cs)
  | ptr (k off : Nat) (h : k < nb) : Fits nb nt nl (.ptr k off)
  | func (f : FuncId) (cs : List AV) (h : ∀ x ∈ cs, Fits nb nt nl x) : Fits nb nt nl (.func f cs)
  | iface (t : TypeId) (x : AV) (h : Fits nb nt nl x) : Fits nb nt nl (.iface t x)
  | msl (k off n : Nat) (h : k < nb) : Fits nb nt nl (.msl k off n)
  | yield (l : Nat) (h : l < nl) : Fits nb nt nl (.yield l)

theorem Rep.fits {G : Ghost} {w : World} {v : Value} {x : AV} (h : Rep G w v x) : Fits G.nb G.nt G.nl x := by
  induction h with
  | undef v => exact .data _ .undef
  | bool b => exact .data _ (.bool _)
  | int k n => exact .data _ (.int _ _)
  | flt b => exact .data _ (.flt _)
  | nan b h => exact .data _ .nan
  | str s => exact .data _ (.str _)
  | sl0 a c k hc ht => exact .sl _ _ fun t e => absurd e (ht t)
  | sl a c k l es us hl hc hcm hs hes he0 hd hlim hcell hrep hfull hown ih => exact .sl _ _ fun t e => (hown t e).1
  | agg us cs hn h ih => exact .agg _ fun x hx => by obtain ⟨i, hi, rfl⟩ := List.getElem_of_mem hx; exact ih i (by omega) hi
  | tuple us cs hn h ih => exact .tuple _ fun x hx => by obtain ⟨i, hi, rfl⟩ := List.getElem_of_mem hx; exact ih i (by omega) hi
  | ptr k off hk => exact .ptr _ _ hk
  | ref a cs us hs hd hlim hcell hrep ih => exact .data _ (.ref _ hd)
  | nilptr => exact .data _ .nilptr
  | func f us cs hn h ih => exact .func _ _ fun x hx => by obtain ⟨i, hi, rfl⟩ := List.getElem_of_mem hx; exact ih i (by omega) hi
  | nilFunc => exact .data _ .nilFunc
  | iface t v x h ih => exact .iface _ _ ih
  | nilIface => exact .data _ .nilIface
  | msl k off n c hk hc => exact .msl _ _ _ hk
  | yield l hl => exact .yield _ hl

theorem Rep.cut {G : Ghost} {w : World} {v : Value} {x : AV} {nb nt nl : Nat} (h : Rep G w v x) (hf : Fits nb nt nl x) : Rep { G with nb := nb, nt := nt, nl := nl } w v x := by
  induction h with
  | undef v => exact .undef v
  | bool b => exact .bool b
  | int k n => exact .int k n
  | flt b => exact .flt b
  | nan b h => exact .nan b h
  | str s => exact .str s
  | sl0 a c k hc ht => exact .sl0 a c k hc ht
  | sl a c k l es us hln hc hcm hs hes he0 hd0 hlim hcell hrep hfull hown ih =>
    refine .sl a c k l es us hln hc hcm hs hes he0 hd0 hlim hcell (fun i hi j hj => ih i hi j hj (.data _ (hd0 _ (List.getElem_mem hi) _ (List.getElem_mem hj)))) hfull (fun t ht => ?_)
    obtain ⟨h1, h2⟩ := hown t ht
    refine ⟨?_, h2⟩
    cases hf with
    | data _ h => cases h with | sl _ _ hk _ => exact absurd ht (hk t)
    | sl _ _ h => exact h t ht
  | agg us cs hn h ih =>
    refine .agg us cs hn fun i h1 h2 => ih i h1 h2 ?_
    cases hf with
    | data _ h => cases h with | agg _ h => exact .data _ (h _ (List.getElem_mem h2))
    | agg _ h => exact h _ (List.getElem_mem h2)
  | tuple us cs hn h ih =>
    refine .tuple us cs hn fun i h1 h2 => ih i h1 h2 ?_
    cases hf with
    | data _ h => cases h with | tuple _ h => exact .data _ (h _ (List.getElem_mem h2))
    | tuple _ h => exact h _ (List.getElem_mem h2)
  | ptr k off hk =>
    cases hf with
    | data _ h => cases h
    | ptr _ _ h => exact .ptr k off h
  | ref a cs us hs hd0 hlim hcell hrep ih => exact .ref a cs us hs hd0 hlim hcell fun j hj => ih j hj (.data _ (hd0 _ (List.getElem_mem hj)))
  | nilptr => exact .nilptr
  | func f us cs hn h ih =>
    refine .func f us cs hn fun i h1 h2 => ih i h1 h2 ?_
    cases hf with
    | data _ h => cases h with | func _ _ h => exact .data _ (h _ (List.getElem_mem h2))
    | func _ _ h => exact h _ (List.getElem_mem h2)
  | nilFunc => exact .nilFunc
  | iface t v x h ih =>
    refine .iface t v x (ih ?_)
    cases hf with
    | data _ h => cases h with | iface _ _ h => exact .data _ h
    | iface _ _ h => exact h
  | nilIface => exact .nilIface
  | msl k off n c hk hc =>
    cases hf with
    | data _ h => cases h
    | msl _ _ _ h => exact .msl k off n c h hc
  | yield l hl =>
    cases hf with
    | data _ h => cases h
    | yield _ h => exact .yield l h

theorem Fits.mono {nb nt nl nb' nt' nl' : Nat} {x : AV} (h : Fits nb nt nl x) (h1 : nb ≤ nb') (h2 : nt ≤ nt') (h3 : nl ≤ nl') : Fits nb' nt' nl' x := by
  induction h with
  | data x h => exact .data x h
  | sl k l h => exact .sl k l fun t e => Nat.lt_of_lt_of_le (h t e) h2
  | agg cs h ih => exact .agg cs ih
  | tuple cs h ih => exact .tuple cs ih
  | ptr k off h => exact .ptr k off (by omega)
  | func f cs h ih => exact .func f cs ih
  | iface t x h ih => exact .iface t x ih
  | msl k off n h => exact .msl k off n (by omega)
  | yield l h => exact .yield l (by omega)

end Go.Aa
