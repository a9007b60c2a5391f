/-
  MEANS, walked.
-/
import Derived.Test.YtfcihhbingaofaaAtD
set_option linter.unusedVariables false
set_option linter.unusedSimpArgs false
set_option maxRecDepth 100000
namespace Go.Aa.T
open Go.Aa Go.Proofs
variable {H : Heap}

theorem slice_tail (x : AV) {l : List AV} (hl : FlL l) (hn : l.length < 9223372036854775807) : sliceA 1 (.sl .sh (x :: l)) (some (.int .i64 1)) none none = some (.sl .sh l) := by
  have h1 : boundA (x :: l).length none (x :: l).length = some (x :: l).length := rfl
  have h2 : boundA (x :: l).length (some (.int .i64 1)) 0 = some 1 := by
    simp only [boundA]
    rw [if_pos ⟨by omega, by simp only [List.length_cons]; omega⟩]; rfl
  simp only [sliceA, sliceSl]
  rw [if_neg (by omega), h1]
  simp only [h2]
  cases l with
  | nil => rfl
  | cons y l =>
    have : cellsN 1 y = true := (hl y (by simp)).cell
    simp [this]

theorem best_any (s : Int) (hs : s = 1 ∨ s = -1) {l : List AV} (hl : FlL l) (hn : l.length < 9223372036854775807) : lim cfg (.fn 35) [.sl .sh l, .int .i64 s] H = some (.ret (best s l), H) := by
  rw [l35]
  cases l with
  | nil => exact go 60 [] trivial (.eqT (show (([] : List AV).length : Int) = 0 from rfl) <| .tt <| .call nan_any <| .done) (by kernel_rfl)
  | cons x l =>
    have hx : Fl x := hl x (by simp)
    have hl' : FlL l := fun y hy => hl y (by simp [hy])
    simp only [List.length_cons] at hn
    exact go 60 [] trivial (.eqF (show ((x :: l).length : Int) ≠ 0 by simp only [List.length_cons]; omega) <| .ff <| .idx (idxFl (l := x :: l) (pre := []) (post := l) rfl hx) <| .slice (slice_tail x hl' (by omega)) <|
      .cut k35_0 [(1, .int .i64 s), (16, .sl .sh l), (17, .int .i64 l.length), (18, .int .i64 0), (5, x)] H (fun T hT => best_loop s hs l hl' (by omega) l [] x T rfl hx hT)) (by kernel_rfl)
theorem least_any {l : List AV} (hl : FlL l) (hn : l.length < 9223372036854775807) : lim cfg (.fn 22) [.sl .sh l] H = some (.ret (best 1 l), H) := by
  have := (best_fl (s := 1) hl).dat
  rw [l22]
  exact go 60 [] trivial (.call (best_any 1 (.inl rfl) hl hn) <| .done) (by kernel_rfl)
theorem most_any {l : List AV} (hl : FlL l) (hn : l.length < 9223372036854775807) : lim cfg (.fn 24) [.sl .sh l] H = some (.ret (best (-1) l), H) := by
  have := (best_fl (s := -1) hl).dat
  rw [l24]
  exact go 60 [] trivial (.call (best_any (-1) (.inr rfl) hl hn) <| .done) (by kernel_rfl)

def i16A (z : Int) : AV := .int .i16 z
theorem fiA_fl (z : Int) : Fl (fiA z) := fi_fl z
theorem fl_map (zs : List Int) : FlL (zs.map fiA) := fun x hx => by
  obtain ⟨z, _, rfl⟩ := List.mem_map.1 hx
  exact fiA_fl z
theorem lenOk_fl {l : List AV} (h : FlL l) : lenOk 1 l = true := List.all_eq_true.2 fun x hx => (h x hx).cell

section
variable {zs : List Int} {e : AV}
theorem mean_at (hz : ∀ z ∈ zs, z.natAbs ≤ 32768) (hn : zs.length ≤ 30) : meanF (zs.map fiA) = divF (fiA (sumZ 0 zs)) (fiA zs.length) := by
  unfold meanF
  rw [show AV.flt 0 = fiA 0 from rfl, sum_int zs 0 hz (by simp; omega), List.length_map]
  rfl
theorem mean_edge (hz : ∀ z ∈ zs, z.natAbs ≤ 32768) (hn : zs.length ≤ 30) : meanF (zs.map fiA ++ [e]) = divF (addF (fiA (sumZ 0 zs)) e) (fiA (zs.length + 1 : Nat)) := by
  unfold meanF sumF
  rw [List.foldl_append, List.length_append, List.length_map]
  have : List.foldl addF (.flt 0) (zs.map fiA) = fiA (sumZ 0 zs) := sum_int zs 0 hz (by simp; omega)
  rw [this]
  rfl
theorem sum_small (hz : ∀ z ∈ zs, z.natAbs ≤ 32768) (hn : zs.length ≤ 30) : Small (sumZ 0 zs) := by
  have h1 := sumZ_lo (-32768) zs 0 (fun z h => by have := hz z h; omega)
  have h2 := sumZ_hi 32768 zs 0 (fun z h => by have := hz z h; omega)
  unfold Small
  omega

theorem neq0 : binA .neq (fiA 0) (.flt 0) = some (.bool false) := rfl
theorem div0n {n : Nat} (hn : 0 < n) (ln : n < 9007199254740992) : divF (fiA 0) (fiA n) = fiA 0 := by
  have := div_of0 (b := (n : Int)) (by omega) (by simp; omega)
  rw [show decide ((n : Int) < 0) = false from decide_eq_false (by omega)] at this
  simp only [divF, fiA, fltOp, show FloatKind.f64.nearest 0 = 0 from rfl, this, fltR]
  rfl

theorem fl_app {l : List AV} (hl : FlL l) (he : Fl e) : FlL (l ++ [e]) := fun x hx => by
  rcases List.mem_append.1 hx with h | h
  · exact hl x h
  · rw [List.mem_singleton] at h; rw [h]; exact he
theorem conv_i16 (z : Int) : convA .flt (i16A z) = some (fiA z) := rfl

theorem means_loop (hz : ∀ z ∈ zs, z.natAbs ≤ 32768) (h0 : 0 < zs.length) (hn : zs.length ≤ 30) (he : Fl e) : ∀ (post pre : List Int) (T : Env), zs = pre ++ post →
    Has T [(0, .sl .sh (zs.map i16A)), (1, e), (5, rowS Heap.nil (pre.map fiA)), (6, .int .i64 pre.length)] →
    runL cfg a9 k9_0 T (rowH Heap.nil (pre.map fiA)) = some (.ret (.bool true), rowH Heap.nil (zs.map fiA ++ [e]))
  | z :: post, pre, T, ez, hT => by
    have hlt : pre.length < zs.length := by rw [ez]; simp
    have hi : (zs.map i16A)[pre.length]? = some (i16A z) := by rw [ez]; simp
    have hap : ((pre.map fiA).length + 1) * 8 ≤ 140737488355328 := by simp; omega
    exact go 60 _ hT (.ltT (show (pre.length : Int) < ((zs.map i16A).length : Int) by simp; omega) <| .tt <| .idx (idx_at (k := .sh) (q := .i64) (es := 1) hi rfl) <| .conv (conv_i16 z) <| .bslice (xs := [fiA z]) (fiA_fl z).shut2 (fiA_fl z).len1 (fiA_fl z).data0 <|
      .append (row_append (H := Heap.nil) hap (lenOk_fl (fl_map pre)) (fiA_fl z).cell (fiA_fl z).data0) <| .inc pre.length (by omega) <|
      .cut k9_0 [(0, .sl .sh (zs.map i16A)), (1, e), (5, rowS Heap.nil (pre.map fiA ++ [fiA z])), (6, .int .i64 ((pre.length + 1 : Nat) : Int))] (rowH Heap.nil (pre.map fiA ++ [fiA z])) (fun T hT => by
        have e1 : pre.map fiA ++ [fiA z] = (pre ++ [z]).map fiA := by simp
        rw [e1] at hT ⊢
        exact means_loop hz h0 hn he post (pre ++ [z]) T (by rw [ez]; simp) (by rw [List.length_append]; exact hT))) (by kernel_rfl)
  | [], pre, T, ez, hT => by
    rw [List.append_nil] at ez
    subst ez
    have hfl := fl_map zs
    have hfe := fl_app hfl he
    have hlen : (zs.map fiA).length < 9223372036854775807 := by simp; omega
    have hm := meanF_fl hfl
    have hme := meanF_fl hfe
    have hle := best_fl (s := 1) hfl
    have hmo := best_fl (s := -1) hfl
    have := he.dat
    have := hm.dat
    have := hme.dat
    have := hle.dat
    have := hmo.dat
    have em := mean_at hz hn
    have ee := mean_edge (e := e) hz hn
    have sS := sum_small hz hn
    have hap : ((zs.map fiA).length + 1) * 8 ≤ 140737488355328 := by simp; omega
    obtain ⟨c6, c5, c0, cx⟩ := edge_cls (n := zs.length + 1) he sS (by omega) (by omega)
    rw [← ee] at c6 c5 c0 cx
    have lo : sumZ 0 zs ≠ 0 → 0 ≤ cmp (meanF (zs.map fiA)) (best 1 (zs.map fiA)) := fun hS => by
      cases zs with
      | nil => simp at h0
      | cons z zt =>
        have e1 : best 1 ((z :: zt).map fiA) = fiA (bz 1 z zt) := best_int 1 zt z (fun y hy => by have := hz y (by simp [hy]); unfold Small; omega) (by have := hz z (by simp); unfold Small; omega)
        rw [em, e1]
        obtain ⟨b1, b2, b3⟩ := bz_min zt z
        have hb : Small (bz 1 z zt) := by
          unfold Small
          rcases b3 with b3 | b3
          · rw [b3]; have := hz z (by simp); omega
          · have := hz _ (List.mem_cons_of_mem z b3); omega
        refine mean_ge hS sS (by omega) (by omega) hb ?_
        have := sumZ_lo (bz 1 z zt) (z :: zt) 0 (fun y hy => by
          rcases List.mem_cons.1 hy with rfl | hy
          · exact b1
          · exact b2 y hy)
        omega
    have hi : sumZ 0 zs ≠ 0 → cmp (meanF (zs.map fiA)) (best (-1) (zs.map fiA)) ≤ 0 := fun hS => by
      cases zs with
      | nil => simp at h0
      | cons z zt =>
        have e1 : best (-1) ((z :: zt).map fiA) = fiA (bz (-1) z zt) := best_int (-1) zt z (fun y hy => by have := hz y (by simp [hy]); unfold Small; omega) (by have := hz z (by simp); unfold Small; omega)
        rw [em, e1]
        obtain ⟨b1, b2, b3⟩ := bz_max zt z
        have hb : Small (bz (-1) z zt) := by
          unfold Small
          rcases b3 with b3 | b3
          · rw [b3]; have := hz z (by simp); omega
          · have := hz _ (List.mem_cons_of_mem z b3); omega
        refine mean_le hS sS (by omega) (by omega) hb ?_
        have := sumZ_hi (bz (-1) z zt) (z :: zt) 0 (fun y hy => by
          rcases List.mem_cons.1 hy with rfl | hy
          · exact b1
          · exact b2 y hy)
        omega
    have nq : sumZ 0 zs = 0 → binA .neq (meanF (zs.map fiA)) (.flt 0) = some (.bool false) := fun hS => by
      rw [em, hS, div0n (by omega) (by omega)]; exact neq0
    let R : ARes × Heap := (.ret (.bool true), rowH Heap.nil (zs.map fiA ++ [e]))
    let fin : Scr cfg a9 R := .bslice (xs := [e]) he.shut2 he.len1 he.data0 <| .append (row_append (H := Heap.nil) hap (lenOk_fl hfl) he.cell he.data0) <| .callW [rowS Heap.nil (zs.map fiA ++ [e])] (mean_any hfe (by simp; omega)) <|
      .call (class_any he) <| .split (cls e = 6)
        (fun h => .eqT h <| .tt <| .call (class_any hme) <| .eqT (c6 h) <| .done)
        (fun h6 => .eqF h6 <| .ff <| .split (cls e = 5)
          (fun h => .eqT h <| .tt <| .call (class_any hme) <| .eqT (c5 h) <| .done)
          (fun h5 => .eqF h5 <| .ff <| .split (cls e = 0)
            (fun h => .eqT h <| .tt <| .call (class_any hme) <| .eqT (c0 h) <| .done)
            (fun h => .eqF h <| .ff <| .call (class_any hme) <| .ltT (cx h6) <| .done)))
    let sec : Scr cfg a9 R := .ff <| .callW [rowS Heap.nil (zs.map fiA)] (most_any hfl hlen) <| .call (compare_any hm hmo) <| .split (0 < cmp (meanF (zs.map fiA)) (best (-1) (zs.map fiA)))
      (fun h => .gtT h <| .tt <| .bin (nq (Decidable.byContradiction fun hS => by have := hi hS; omega)) <| .ff <| fin)
      (fun h => .gtF (show cmp (meanF (zs.map fiA)) (best (-1) (zs.map fiA)) ≤ 0 by omega) <| .ff <| .ff <| fin)
    exact go 60 _ hT (.ltF (show ((zs.map i16A).length : Int) ≤ zs.length by simp) <| .ff <| .callW [rowS Heap.nil (zs.map fiA)] (mean_any hfl hlen) <| .callW [rowS Heap.nil (zs.map fiA)] (least_any hfl hlen) <| .call (compare_any hm hle) <|
      .split (cmp (meanF (zs.map fiA)) (best 1 (zs.map fiA)) < 0)
      (fun h => .ltT h <| .tt <| .bin (nq (Decidable.byContradiction fun hS => by have := lo hS; omega)) <| sec)
      (fun h => .ltF (show 0 ≤ cmp (meanF (zs.map fiA)) (best 1 (zs.map fiA)) by omega) <| .ff <| sec)) (by kernel_rfl)

theorem ratioMeans (hz : ∀ z ∈ zs, z.natAbs ≤ 32768) (he : Fl e) (hl : zs.length ≤ 9223372036854775807) : ∃ H', lim cfg (.fn 9) [.sl .sh (zs.map i16A), e] Heap.nil = some (.ret (.bool true), H') := by
  rw [l9]
  by_cases h1 : zs.length < 1
  · exact ⟨_, go (r := (.ret (.bool true), Heap.nil)) 60 [] trivial (.call known' <| .ff <| .ltT (show ((zs.map i16A).length : Int) < 1 by simp; omega) <| .tt <| .tt <| .done) (by kernel_rfl)⟩
  · by_cases h2 : 30 < zs.length
    · exact ⟨_, go (r := (.ret (.bool true), Heap.nil)) 60 [] trivial (.call known' <| .ff <| .ltF (show 1 ≤ ((zs.map i16A).length : Int) by simp; omega) <| .ff <| .gtT (show 30 < ((zs.map i16A).length : Int) by simp; omega) <| .tt <| .done) (by kernel_rfl)⟩
    · exact ⟨_, go (r := (.ret (.bool true), rowH Heap.nil (zs.map fiA ++ [e]))) 60 [] trivial (.call known' <| .ff <| .ltF (show 1 ≤ ((zs.map i16A).length : Int) by simp; omega) <| .ff <| .gtF (show ((zs.map i16A).length : Int) ≤ 30 by simp; omega) <| .ff <|
        .cut k9_0 [(0, .sl .sh (zs.map i16A)), (1, e), (5, .sl .full []), (6, .int .i64 0)] Heap.nil (fun T hT => means_loop hz (by omega) (by omega) he zs [] T rfl hT)) (by kernel_rfl)⟩
end

theorem law8 (xs : List AV) (h : TyAll Try.prog 4 [36, 36, 36] xs) : ∃ H', lim cfg (.fn 8) xs Heap.nil = some (.ret (.bool true), H') := by
  obtain ⟨x, y, z, rfl, hx, hy, hz⟩ := tyall_3 h
  obtain ⟨a, rfl, ha⟩ := tyv_int Try.underlying36 hx
  obtain ⟨b, rfl, hb⟩ := tyv_int Try.underlying36 hy
  obtain ⟨c, rfl, hc⟩ := tyv_int Try.underlying36 hz
  have key : ∀ m : Int, (Lit.int .u32 m).wf = true → ∃ n : Nat, m = n ∧ n < 4294967296 := fun m h => by
    have h' : IntKind.u32.min ≤ m ∧ m ≤ IntKind.u32.max := by simpa [Lit.wf, IntKind.has] using h
    have e1 : IntKind.u32.min = 0 := rfl
    have e2 : IntKind.u32.max = 4294967295 := rfl
    exact ⟨m.toNat, by omega, by omega⟩
  obtain ⟨a, rfl, ka⟩ := key a ha
  obtain ⟨b, rfl, kb⟩ := key b hb
  obtain ⟨c, rfl, kc⟩ := key c hc
  exact ⟨_, ratioShares ka kb kc⟩
theorem law9 (xs : List AV) (h : TyAll Try.prog 4 [38, 22] xs) : ∃ H', lim cfg (.fn 9) xs Heap.nil = some (.ret (.bool true), H') := by
  obtain ⟨x, y, rfl, hx, hy⟩ := tyall_2 h
  obtain ⟨l, rfl, hl, hall⟩ := tyv_slice Try.underlying38 hx
  obtain ⟨b, rfl, hb⟩ := tyv_float Try.underlying22 hy
  have : ∃ zs : List Int, l = zs.map i16A ∧ ∀ z ∈ zs, z.natAbs ≤ 32768 := by
    clear hl h hx
    induction l with
    | nil => exact ⟨[], rfl, fun z hz => by cases hz⟩
    | cons x l ih =>
      obtain ⟨zs, rfl, hzs⟩ := ih (fun y hy => hall y (by simp [hy]))
      obtain ⟨m, rfl, hm⟩ := tyv_int Try.underlying39 (hall x (by simp))
      refine ⟨m :: zs, rfl, fun z hz => ?_⟩
      rcases List.mem_cons.1 hz with rfl | hz
      · have h' : IntKind.i16.min ≤ z ∧ z ≤ IntKind.i16.max := by simpa [Lit.wf, IntKind.has] using hm
        have e1 : IntKind.i16.min = -32768 := rfl
        have e2 : IntKind.i16.max = 32767 := rfl
        omega
      · exact hzs z hz
  obtain ⟨zs, rfl, hzs⟩ := this
  exact ratioMeans hzs (fl_of hb) (by simpa using hl)
end Go.Aa.T
