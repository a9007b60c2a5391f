/-
  WHAT THE LAW LEANS ON, part 6 of 6: a machine of values and its soundness; the functions of the law upon it; what they come to.
-/
import Derived.Test.YtppplbpilpjokaaGreatDoorZfe
import Derived.Test.YtppplbpilpjokaaGreatDoorRows
import Derived.Stop.LaidErr

set_option linter.unusedVariables false
set_option linter.unusedSimpArgs false
set_option maxRecDepth 100000
namespace Go.Aa.T
open Go.Aa Go.Proofs
theorem swap_data (k i : Nat) : dataOk (swapL (nds k) i (nd i) (nd (i + 1))) = true := by
  rw [← swap_enc]
  exact dataOk_map fun _ => rfl
theorem nl_fin {k at' : Nat} (h1 : 28 ≤ k) (h2 : k < 36) (ha : at' < 256) : ∀ T, Has T [(1, .int .u8 at'), (5, .int .i64 k), (6, stN k), (7, .int .i64 k)] → Goes cfg a9 k9_0 T (hpN k) (IsRet (.bool true)) := by
  obtain ⟨j, rfl⟩ : ∃ j, k = j + 1 := ⟨k - 1, by omega⟩
  intro T hT
  have e1 := lim1 (j + 1) h1 h2
  have hb1 : (List.replicate j [] ++ [rowCells (nds (j + 1))] : List (List AV))[j]? = some (rowCells ((ndNs (j + 1)).map encN)) := by rw [ndNs_enc]; exact hM_at j _
  have hl1 : (ndNs (j + 1)).length = j + 1 := by simp [ndNs]
  have hne1 : ndNs (j + 1) ≠ [] := fun e => by rw [e] at hl1; simp at hl1
  have c1 := ckX_any (ndNs (j + 1)) j _ hb1 hne1 (rows_data (nds_data _))
  rw [e1, hl1] at c1
  generalize hi : at' % j = i
  have hij : i < j := by rw [← hi]; exact Nat.mod_lt _ (by omega)
  have e2 := lim2 (j + 1) i h1 h2 (by omega)
  have hb2 : (List.replicate j [] ++ [rowCells (swapL (nds (j + 1)) i (nd i) (nd (i + 1)))] : List (List AV))[j]? = some (rowCells ((swapL (ndNs (j + 1)) i (ndN i) (ndN (i + 1))).map encN)) := by rw [swap_enc]; exact hM_at j _
  have hl2 : (swapL (ndNs (j + 1)) i (ndN i) (ndN (i + 1))).length = j + 1 := by simp [swapL, ndNs]
  have hne2 : swapL (ndNs (j + 1)) i (ndN i) (ndN (i + 1)) ≠ [] := fun e => by rw [e] at hl2; simp at hl2
  have c2 := ckX_any _ j _ hb2 hne2 (rows_data (swap_data _ _))
  rw [e2, hl2] at c2
  have x1 : idxA 5 (.msl j 0 (j + 1) 5) (.int .i64 (i : Nat)) = some (.ptr j (0 + i * 5)) := idx_msl (by omega)
  have x2 : idxA 5 (.msl j 0 (j + 1) 5) (.int .i64 ((i + 1 : Nat) : Int)) = some (.ptr j (0 + (i + 1) * 5)) := idx_msl (by omega)
  have l1 : Does cfg (.load true 5 (.c (.ptr j (0 + i * 5)))) (hM j (nds (j + 1))) (nd i) (hM j (nds (j + 1))) := by
    rw [Nat.zero_add]; exact does_loadM (nds_el _) (nds_at (by omega))
  have l2 : Does cfg (.load true 5 (.c (.ptr j (0 + (i + 1) * 5)))) (hM j (nds (j + 1))) (nd (i + 1)) (hM j (nds (j + 1))) := by
    rw [Nat.zero_add]; exact does_loadM (nds_el _) (nds_at (by omega))
  have s1 : Does cfg (.store 5 (.c (.ptr j (0 + i * 5))) (.c (nd (i + 1)))) (hM j (nds (j + 1))) .undef (hM j ((nds (j + 1)).set i (nd (i + 1)))) := by
    rw [Nat.zero_add]; exact does_storeM (nds_el _) rfl (by rw [nds_len]; omega) (by omega) rfl
  have hel : ((nds (j + 1)).set i (nd (i + 1))).all (elOk 5) = true := List.all_eq_true.2 fun x hx => by
    rcases List.mem_or_eq_of_mem_set hx with h | rfl
    · exact List.all_eq_true.1 (nds_el _) x h
    · rfl
  have s2 : Does cfg (.store 5 (.c (.ptr j (0 + (i + 1) * 5))) (.c (nd i))) (hM j ((nds (j + 1)).set i (nd (i + 1)))) .undef (hM j (swapL (nds (j + 1)) i (nd i) (nd (i + 1)))) := by
    rw [Nat.zero_add]; exact does_storeM hel rfl (by rw [List.length_set, nds_len]; omega) (by omega) rfl
  have c1' : Does cfg (.callM (.c (.func 43 [])) [.c (.msl j 0 (j + 1) 5)]) (hM j (nds (j + 1))) (.int .i64 (if 32 < j + 1 then 4 else 0)) (hM j (nds (j + 1))) := c1
  have c2' : Does cfg (.callM (.c (.func 43 [])) [.c (.msl j 0 (j + 1) 5)]) (hM j (swapL (nds (j + 1)) i (nd i) (nd (i + 1)))) (.int .i64 (if 32 < j + 1 then 4 else 13)) (hM j (swapL (nds (j + 1)) i (nd i) (nd (i + 1)))) := c2
  clear c1 c2 e1 e2 hb1 hb2 hl1 hl2 hne1 hne2 hel
  have hT' : Has T [(1, .int .u8 at'), (5, .int .i64 ((j + 1 : Nat) : Int)), (6, .msl j 0 (j + 1) 5), (7, .int .i64 ((j + 1 : Nat) : Int))] := hT
  show Goes cfg a9 k9_0 T (hM j (nds (j + 1))) (IsRet (.bool true))
  generalize hM j (nds (j + 1)) = q0 at *
  generalize hM j ((nds (j + 1)).set i (nd (i + 1))) = q1 at *
  generalize hM j (swapL (nds (j + 1)) i (nd i) (nd (i + 1))) = q2 at *
  generalize AV.msl j 0 (j + 1) 5 = s0 at *
  generalize AV.ptr j (0 + i * 5) = p1 at *
  generalize AV.ptr j (0 + (i + 1) * 5) = p2 at *
  generalize nd i = v1 at *
  generalize nd (i + 1) = v2 at *
  have cv : convA (.int .i64) (.int .u8 (at' : Int)) = some (.int .i64 (at' : Int)) := conv_i64 (by omega)
  have dj : binA .sub (.int .i64 ((j + 1 : Nat) : Int)) (.int .i64 1) = some (.int .i64 (j : Int)) := dec_i (by omega)
  have rm : binA .rem (.int .i64 (at' : Int)) (.int .i64 (j : Int)) = some (.int .i64 (i : Int)) := by rw [rem_nat (by omega), hi]
  by_cases h32 : 32 < j + 1
  · rw [if_pos h32] at c1' c2'
    exact goG 120 _  hT'  (.no (show (decide ((↑(j + (1 : Nat)) : Int) < (↑(j + (1 : Nat)) : Int))) = false from decide_eq_false (show ¬ ((↑(j + (1 : Nat)) : Int) < (↑(j + (1 : Nat)) : Int)) from (by omega))) <| .yes (show (decide ((32 : Int) < (↑(j + (1 : Nat)) : Int))) = true from decide_eq_true (show (32 : Int) < (↑(j + (1 : Nat)) : Int) from (by omega))) <| .effY (show Does cfg (AOp.callM (Opd.c (AV.func (43 : FuncId) [])) [Opd.c s0]) q0 (AV.int IntKind.i64 (4 : Int)) q0 from c1') <| .ff <| .conv (show convA (CV.int IntKind.i64) (AV.int IntKind.u8 (↑at' : Int)) = some (AV.int IntKind.i64 (↑at' : Int)) from cv) <| .bin (show binA BinOp.sub (AV.int IntKind.i64 (↑(j + (1 : Nat)) : Int)) (AV.int IntKind.i64 (1 : Int)) = some (AV.int IntKind.i64 (↑j : Int)) from dj) <| .bin (show binA BinOp.rem (AV.int IntKind.i64 (↑at' : Int)) (AV.int IntKind.i64 (↑j : Int)) = some (AV.int IntKind.i64 (↑i : Int)) from rm) <| .bin (show binA BinOp.add (AV.int IntKind.i64 (↑i : Int)) (AV.int IntKind.i64 (1 : Int)) = some (AV.int IntKind.i64 (↑(i + (1 : Nat)) : Int)) from inc_i (by omega)) <| .bin (show binA BinOp.add (AV.int IntKind.i64 (↑i : Int)) (AV.int IntKind.i64 (1 : Int)) = some (AV.int IntKind.i64 (↑(i + (1 : Nat)) : Int)) from inc_i (by omega)) <| .idx (show idxA (5 : Nat) s0 (AV.int IntKind.i64 (↑(i + (1 : Nat)) : Int)) = some (p2) from x2) <| .effY (show Does cfg (AOp.load true (5 : Nat) (Opd.c p2)) q0 v2 q0 from l2) <| .idx (show idxA (5 : Nat) s0 (AV.int IntKind.i64 (↑i : Int)) = some (p1) from x1) <| .effY (show Does cfg (AOp.load true (5 : Nat) (Opd.c p1)) q0 v1 q0 from l1) <| .idx (show idxA (5 : Nat) s0 (AV.int IntKind.i64 (↑i : Int)) = some (p1) from x1) <| .effY (show Does cfg (AOp.store (5 : Nat) (Opd.c p1) (Opd.c v2)) q0 AV.undef q1 from s1) <| .idx (show idxA (5 : Nat) s0 (AV.int IntKind.i64 (↑(i + (1 : Nat)) : Int)) = some (p2) from x2) <| .effY (show Does cfg (AOp.store (5 : Nat) (Opd.c p2) (Opd.c v1)) q1 AV.undef q2 from s2) <| .ff <| .effY (show Does cfg (AOp.callM (Opd.c (AV.func (43 : FuncId) [])) [Opd.c s0]) q2 (AV.int IntKind.i64 (4 : Int)) q2 from c2') <| .fin ((ARes.ret (AV.bool ((4 : Int) == (4 : Int))), q2)) rfl) (by kernel_rfl)
  · rw [if_neg h32] at c1' c2'
    exact goG 120 _  hT'  (.no (show (decide ((↑(j + (1 : Nat)) : Int) < (↑(j + (1 : Nat)) : Int))) = false from decide_eq_false (show ¬ ((↑(j + (1 : Nat)) : Int) < (↑(j + (1 : Nat)) : Int)) from (by omega))) <| .no (show (decide ((32 : Int) < (↑(j + (1 : Nat)) : Int))) = false from decide_eq_false (show ¬ ((32 : Int) < (↑(j + (1 : Nat)) : Int)) from (by omega))) <| .effY (show Does cfg (AOp.callM (Opd.c (AV.func (43 : FuncId) [])) [Opd.c s0]) q0 (AV.int IntKind.i64 (0 : Int)) q0 from c1') <| .ff <| .conv (show convA (CV.int IntKind.i64) (AV.int IntKind.u8 (↑at' : Int)) = some (AV.int IntKind.i64 (↑at' : Int)) from cv) <| .bin (show binA BinOp.sub (AV.int IntKind.i64 (↑(j + (1 : Nat)) : Int)) (AV.int IntKind.i64 (1 : Int)) = some (AV.int IntKind.i64 (↑j : Int)) from dj) <| .bin (show binA BinOp.rem (AV.int IntKind.i64 (↑at' : Int)) (AV.int IntKind.i64 (↑j : Int)) = some (AV.int IntKind.i64 (↑i : Int)) from rm) <| .bin (show binA BinOp.add (AV.int IntKind.i64 (↑i : Int)) (AV.int IntKind.i64 (1 : Int)) = some (AV.int IntKind.i64 (↑(i + (1 : Nat)) : Int)) from inc_i (by omega)) <| .bin (show binA BinOp.add (AV.int IntKind.i64 (↑i : Int)) (AV.int IntKind.i64 (1 : Int)) = some (AV.int IntKind.i64 (↑(i + (1 : Nat)) : Int)) from inc_i (by omega)) <| .idx (show idxA (5 : Nat) s0 (AV.int IntKind.i64 (↑(i + (1 : Nat)) : Int)) = some (p2) from x2) <| .effY (show Does cfg (AOp.load true (5 : Nat) (Opd.c p2)) q0 v2 q0 from l2) <| .idx (show idxA (5 : Nat) s0 (AV.int IntKind.i64 (↑i : Int)) = some (p1) from x1) <| .effY (show Does cfg (AOp.load true (5 : Nat) (Opd.c p1)) q0 v1 q0 from l1) <| .idx (show idxA (5 : Nat) s0 (AV.int IntKind.i64 (↑i : Int)) = some (p1) from x1) <| .effY (show Does cfg (AOp.store (5 : Nat) (Opd.c p1) (Opd.c v2)) q0 AV.undef q1 from s1) <| .idx (show idxA (5 : Nat) s0 (AV.int IntKind.i64 (↑(i + (1 : Nat)) : Int)) = some (p2) from x2) <| .effY (show Does cfg (AOp.store (5 : Nat) (Opd.c p2) (Opd.c v1)) q1 AV.undef q2 from s2) <| .tt <| .effY (show Does cfg (AOp.callM (Opd.c (AV.func (43 : FuncId) [])) [Opd.c s0]) q2 (AV.int IntKind.i64 (13 : Int)) q2 from c2') <| .fin ((ARes.ret (AV.bool ((13 : Int) == (13 : Int))), q2)) rfl) (by kernel_rfl)
theorem nodeLimits (n at' : Nat) (hn : n < 256) (ha : at' < 256) : Gives cfg 9 [.int .u8 n, .int .u8 at'] (.bool true) := by
  refine Gives.run (l9 _ _) ?_
  have hk : 28 ≤ 28 + n % 8 ∧ 28 + n % 8 < 36 := by omega
  have h := nl_loop (R := IsRet (.bool true)) (k := 28 + n % 8) (at' := at') (by omega) (nl_fin hk.1 hk.2 ha) (28 + n % 8) 0 (by omega)
  have rm : binA .rem (.int .u8 (n : Int)) (.int .u8 8) = some (.int .u8 ((n % 8 : Nat) : Int)) := rem_nat (by decide)
  have cv : convA (.int .i64) (.int .u8 ((n % 8 : Nat) : Int)) = some (.int .i64 ((n % 8 : Nat) : Int)) := conv_i64 (by omega)
  have ad : binA .add (.int .i64 28) (.int .i64 ((n % 8 : Nat) : Int)) = some (.int .i64 ((28 + n % 8 : Nat) : Int)) := by
    rw [addI (by omega) (by omega)]; rfl
  have kn : Does cfg (.callM (.c (.func 30 [])) []) Heap.nil (.bool true) Heap.nil := fun T => by
    obtain ⟨H', hk'⟩ := known30'.ret
    simp only [opStep, ev, List.map_nil, callW, List.all_nil, Bool.and_self, if_true, List.append_nil, hk']
    rfl
  generalize 28 + n % 8 = k at *
  generalize n % 8 = m at *
  exact goG 90 []  trivial  (.effY (show Does cfg (AOp.callM (Opd.c (AV.func (30 : FuncId) [])) []) Heap.nil (AV.bool true) Heap.nil from kn) <| .ff <| .bin (show binA BinOp.rem (AV.int IntKind.u8 (↑n : Int)) (AV.int IntKind.u8 (8 : Int)) = some (AV.int IntKind.u8 (↑m : Int)) from rm) <| .conv (show convA (CV.int IntKind.i64) (AV.int IntKind.u8 (↑m : Int)) = some (AV.int IntKind.i64 (↑m : Int)) from cv) <| .bin (show binA BinOp.add (AV.int IntKind.i64 (28 : Int)) (AV.int IntKind.i64 (↑m : Int)) = some (AV.int IntKind.i64 (↑k : Int)) from ad) <| .cutQ k9_0 [(1, AV.int IntKind.u8 (↑at' : Int)), (5, AV.int IntKind.i64 (↑k : Int)), (6, AV.sl SK.full []), (7, AV.int IntKind.i64 (0 : Int))] ({ boxes := [], toks := [], loops := [] : Heap }) (fun T hT => (h T hT))) (by kernel_rfl)
end Go.Aa.T

set_option linter.unusedVariables false
set_option linter.unusedSimpArgs false
set_option maxRecDepth 100000
namespace Go.Aa.T
open Go.Aa Go.Proofs
theorem tyU8 {k : Nat} {x : AV} (hx : TyV Tryz.prog (k + 1) 5 x) : ∃ n : Nat, n < 256 ∧ x = .int .u8 (n : Int) := by
  obtain ⟨m, rfl, hm⟩ := tyv_int Tryz.underlying5 hx
  have h' : IntKind.u8.min ≤ m ∧ m ≤ IntKind.u8.max := by simpa [Lit.wf, IntKind.has] using hm
  have e1 : IntKind.u8.min = 0 := rfl
  have e2 : IntKind.u8.max = 255 := rfl
  exact ⟨m.toNat, by omega, by congr 1; omega⟩
theorem law9 (xs : List AV) (h : TyAll Tryz.prog 5 [5, 5] xs) (hz : SzAll Tryz.prog [5, 5] xs) : ∃ H', lim cfg (.fn 9) xs Heap.nil = some (.ret (.bool true), H') := by
  obtain ⟨x1, x2, rfl, h1, h2⟩ := tyall_2 h
  obtain ⟨n, hn, rfl⟩ := tyU8 h1
  obtain ⟨w, hw, rfl⟩ := tyU8 h2
  exact (nodeLimits n w hn hw).ret
end Go.Aa.T

set_option linter.unusedVariables false
set_option linter.unusedSimpArgs false
set_option maxRecDepth 100000
namespace Go.Aa.T
open Go.Aa Go.Proofs Go.RowKit Go.ChangeShapes Go.Proofs.YtppplbpilpjokaaGreatDoor
theorem star : "*" ++ "errors.errorString" = "*errors.errorString" := by decide
theorem rowES (u : TypeId) (h : Tryz.prog.typeName? 3 u = some "*errors.errorString") : u = 331 :=
  typeName_ptr_named (nm := "errors.errorString") (by rw [star]; kernel_rfl) (by kernel_rfl) (by decide) u (by rw [star]; exact h)
theorem var_heap {P : Program} {W : World} {n : String} {cs : Array Value} {g : Nat} (h : W.var? P n = some cs) (hg : P.globalNamed n = some g) : ∃ e m, W.heap[g]? = some (.cells cs e m) := by
  simp only [World.var?, hg, Option.bind_some] at h
  split at h
  · rename_i cs' e m hc
    cases h
    exact ⟨e, m, hc⟩
  · cases h
def laidL : List (String × DataW Unit) := Rows.podEdgesRow.laid
theorem pow_eq : (Rows.laid_internal_strconv_uint64pow10 : DataW Unit) = Lib.tabData .u64 Lib.pow10Tab := by kernel_rfl
theorem cellsES : Tryz.prog.cellsOf 333 = 1 := by kernel_rfl
theorem cellsS : Tryz.prog.cellsOf 9 = 1 := by kernel_rfl
theorem glob0Z {W : World} (h : laidMet Tryz.prog laidL W) : Glob0 Tryz.prog W := by
  have h2 := laidMet.tail (laidMet.tail h)
  have ht : Lib.TabIs Tryz.prog W "internal/strconv.uint64pow10" .u64 Lib.pow10Tab := by
    have h3 : laidMet Tryz.prog (("internal/strconv.uint64pow10", Rows.laid_internal_strconv_uint64pow10) :: _) W := h2
    rw [pow_eq] at h3
    exact Lib.tabIs_of_head (g := 1) (t := 303) (n := 20) (by kernel_rfl) (by kernel_rfl) Tryz.underlying303 Tryz.underlying282 (by kernel_rfl) (by kernel_rfl) h3
  have h4 := laidMet.tail (laidMet.tail h2)
  obtain ⟨a1, s1, hv1, -, -, -⟩ := laid_sentinel h4 (g := 5) (ti := 238) (tp := 331) (te := 333) (ts := 9) (by kernel_rfl) (by kernel_rfl) Tryz.underlying238 rowES Tryz.underlying331 Tryz.underlying333 rfl rfl Tryz.underlying9 cellsES cellsS
  have h5 := laidMet.tail h4
  obtain ⟨a2, s2, hv2, -, -, -⟩ := laid_sentinel h5 (g := 4) (ti := 238) (tp := 331) (te := 333) (ts := 9) (by kernel_rfl) (by kernel_rfl) Tryz.underlying238 rowES Tryz.underlying331 Tryz.underlying333 rfl rfl Tryz.underlying9 cellsES cellsS
  intro s hs g hg
  simp only [globSpec, List.mem_cons, List.not_mem_nil, or_false] at hs
  rcases hs with rfl | rfl | rfl
  · obtain ⟨e, m, hh⟩ := var_heap ht hg
    exact ⟨_, e, m, hh, rfl⟩
  · obtain ⟨e, m, hh⟩ := var_heap hv2 hg
    exact ⟨_, e, m, hh, _, _, rfl⟩
  · obtain ⟨e, m, hh⟩ := var_heap hv1 hg
    exact ⟨_, e, m, hh, _, _, rfl⟩
end Go.Aa.T
