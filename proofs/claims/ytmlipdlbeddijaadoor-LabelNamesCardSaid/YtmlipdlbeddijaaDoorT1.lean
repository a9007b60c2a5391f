/-
  qty.Try: the function that catches what breaks off.
-/
import Derived.Test.YtmlipdlbeddijaaDoorChecked
import Derived.Test.YtmlipdlbeddijaaDoorAaT
import Derived.Tactics
import Derived.Tactics2
import Derived.Defers
import Derived.Recover
import Derived.Laws.Pointers
import Derived.WalkKit
set_option linter.unusedVariables false
set_option linter.unusedSimpArgs false
set_option maxRecDepth 100000
namespace Go.Proofs.YtmlipdlbeddijaaDoor
open Go.RowKit
open Go.Aa

theorem T.catch_idle (p : Addr) (w : World) :
    CallsD Tryd.prog 123 #[.pointer (some p)] .returning w fun e u' w' => e = .returned (.tuple #[]) ∧ u' = .returning ∧ w' = w := by
  refine callsD_of_wpS Tryd.func123 rfl fun c₀ cs hu => ?_
  apply wpS_seq
  apply wpS_region
  simp [wpOpsS, go_sem, recoverD, hu, Tryd.ntmps123, Exit.thenS]
  refine wpS_of_wp ?_
  go_wp2
  cases c₀
  simp_all [bodyPostS, results, Tryd.results123]
theorem T.hta (v : Value) (w : World) : (Instr.typeAssert (.iface 159 v) 20 159 true).run Tryd.prog w = .ok (.tuple #[v, .bool true]) w := by kernel_rfl
set_option maxHeartbeats 4000000 in
theorem T.catch_stop (b : Nat) (x : Int) (n : Int) (older : List PanicEntry) (w : World) (hlt : b < w.heap.size) (hne : ¬ w.heap.size = b) (hne' : ¬ b = w.heap.size) (hc : w.cell? ⟨b, 0, none⟩ = some (.int .i64 x)) (hz : w.frozen? ⟨b, 0, none⟩ = false) :
    CallsD Tryd.prog 123 #[.pointer (some ⟨b, 0, none⟩)] (.panicking ({ v := .iface 159 (.agg #[.int .i64 n]), recovered := false } :: older)) w fun e u' w' =>
      e = .returned (.tuple #[]) ∧ u' = .panicking ({ v := .iface 159 (.agg #[.int .i64 n]), recovered := true } :: older) ∧ w' = (w.setCell ⟨b, 0, none⟩ (.int .i64 n)).alloc (.cells #[.int .i64 n] 159) := by
  have hta := T.hta
  have hz0 : ∀ w : World, (zeroValue 159).run Tryd.prog w = .ok (.agg #[.int .i64 0]) w := fun _ => by kernel_rfl
  have hsz : Tryd.prog.cellsOf 159 = 1 := by kernel_rfl
  have hag : ∀ w : World, (isAgg 159).run Tryd.prog w = .ok true w := fun _ => by kernel_rfl
  refine callsD_of_wpS Tryd.func123 rfl fun c₀ cs hu => ?_
  apply wpS_seq
  apply wpS_region
  simp [wpOpsS, go_sem, recoverD, hu, Tryd.ntmps123, Exit.thenS]
  refine wpS_of_wp ?_
  go_wp2
  cases c₀
  simp_all [bodyPostS, results, Tryd.results123]
theorem T.try_ok {call : CallF} (hcs : CallSound Tryd.prog call) {g : FuncId} {caps : List AV} {H H' : Heap} {r : ARes} (hr : tryA (call (.fn g) caps H) 159 = some (r, H')) {G : Ghost} {w : World} {us : Array Value} (hH : HRep Tryd.prog G w H) (hargs : Args G w us caps) :
    Calls Tryd.prog 101 #[.func (.func g) #[] us] w (PostOk Tryd.prog G w r H') := by
  have hmf : ∀ (fn : Fn) (first cap : Array Value) (w : World), (Instr.makeFunc fn first cap).run Tryd.prog w = .ok (.func fn first cap) w := fun _ _ _ _ => rfl
  obtain ⟨st1, hH1⟩ := lay_step hH (.cells #[.int .i64 0] 33)
  have hlt := tok_lt hH1
  have hfree := free_new hH
  have hsz : (w.alloc (.cells #[.int .i64 0] 33)).heap.size = w.heap.size + 1 := by simp
  have hb0 : (w.alloc (.cells #[.int .i64 0] 33)).heap[w.heap.size]? = some (.cells #[.int .i64 0] 33 (0, 0)) := World.alloc_heap_new w _
  have hcall : ∃ r1 H1, call (.fn g) caps H = some (r1, H1) ∧ ((∃ v, r1 = .ret v ∧ r = .ret (.int .i64 0) ∧ H1 = H') ∨ (∃ n, r1 = .pan (.iface 159 (.agg [.int .i64 n])) ∧ r = .ret (.int .i64 n) ∧ H1 = H')) := by
    cases hcc : call (.fn g) caps H with
    | none => rw [hcc] at hr; cases hr
    | some x =>
      obtain ⟨r1, H1⟩ := x
      rw [hcc] at hr
      cases r1 with
      | ret v =>
        simp only [tryA, Option.some.injEq, Prod.mk.injEq] at hr
        exact ⟨_, _, rfl, .inl ⟨v, rfl, hr.1.symm, hr.2⟩⟩
      | pan v =>
        unfold tryA at hr
        split at hr
        · rename_i h; cases h
        · rename_i h
          split at hr
          · rename_i ht
            subst ht
            simp only [Option.some.injEq, Prod.mk.injEq] at hr
            simp only [Option.some.injEq, Prod.mk.injEq, ARes.pan.injEq] at h
            obtain ⟨rfl, rfl⟩ := h
            exact ⟨_, _, rfl, .inr ⟨_, rfl, hr.1.symm, hr.2⟩⟩
          · cases hr
        · cases hr
  obtain ⟨r1, H1, hc, hend⟩ := hcall
  have hco := hcs.fn g caps H r1 H1 hc G _ us hH1 (hargs.step st1)
  go_enter_defers Tryd.func101, Tryd.ntmps101
  go_wp2
  rcases hco with ⟨_, hrun, hcalls, _⟩ | ⟨u, w', hrun, hpost⟩
  · rw [hrun]
    simp only [Oper.upon]
    refine hcalls.mono ?_
    rintro e w2 ⟨G2, st2, hH2, hend2⟩
    obtain ⟨hfree2, hb2⟩ := free_step hfree (by rw [hsz]; omega) st2 hlt
    rw [hb0] at hb2
    have hc2 : w2.cell? ⟨w.heap.size, 0, none⟩ = some (.int .i64 0) := by simp [World.cell?, hb2]
    have hz2 : w2.frozen? ⟨w.heap.size, 0, none⟩ = false := by simp [World.frozen?, hb2]
    have pk : ∀ n : Int, Step G w G2 (w2.setCell ⟨w.heap.size, 0, none⟩ (.int .i64 n)) ∧ HRep Tryd.prog G2 (w2.setCell ⟨w.heap.size, 0, none⟩ (.int .i64 n)) H1 := fun n =>
      poke hfree2 hH.base (Nat.le_refl _) (st1.trans st2) hH2 (fun k hk => Below.heap_setCell _ _ _ k hk) (by simp) rfl rfl rfl
    rcases hend with ⟨v, rfl, rfl, rfl⟩ | ⟨n, rfl, rfl, rfl⟩
    · obtain ⟨u, rfl, hu⟩ := hend2
      simp only
      apply ‹∀ (a : Act) (w : World), wpList _ _ _ _ a w → _›
      go_wp2
      refine leaves_cons (f := 123) (args := #[.pointer (some ⟨w.heap.size, 0, none⟩)]) (by simp) (by simp [go_sem]) ?_
      refine (T.catch_idle _ _).mono ?_
      rintro e u' w'' ⟨rfl, rfl, rfl⟩
      have hc3 : (w2.setCell ⟨w.heap.size, 0, none⟩ (.int .i64 0)).cell? ⟨w.heap.size, 0, none⟩ = some (.int .i64 0) := by first | exact World.cell?_setCell_same _ hc2 | exact World.cell?_setCell_same _ _ hc2 | exact World.cell?_setCell_same _ _ _ hc2
      simp [Leaves, settle, results, Tryd.results101, go_sem, hc3]
      exact ⟨G2, (pk 0).1, (pk 0).2, _, rfl, .int _ _⟩
    · obtain ⟨u, rfl, hu⟩ := hend2
      have hu' : u = .iface 159 (.agg #[.int .i64 n]) := by
        cases hu with
        | iface _ v _ hv =>
          cases hv with
          | agg us _ hn hv =>
            have h0 : us.size = 1 := hn
            have h1 := hv 0 (by omega) (by simp)
            have e : us = #[us[0]] := Array.ext (by simpa using h0) (fun i i1 i2 => by
              have : i = 0 := by omega
              subst this; rfl)
            rw [List.getElem_cons_zero] at h1
            generalize us[0] = y at h1 e
            cases h1
            rw [e]
      subst hu'
      have hb3 : w.heap.size < w2.heap.size := (Array.getElem?_eq_some_iff.1 hb2).1
      simp only [Exit.then]
      refine leaves_cons (f := 123) (args := #[.pointer (some ⟨w.heap.size, 0, none⟩)]) (by simp) (by simp [go_sem]) ?_
      refine (T.catch_stop w.heap.size 0 n [] w2 hb3 (by omega) (by omega) hc2 hz2).mono ?_
      rintro e u' w'' ⟨rfl, rfl, rfl⟩
      have hc3 : ((w2.setCell ⟨w.heap.size, 0, none⟩ (.int .i64 n)).alloc (.cells #[.int .i64 n] 159)).cell? ⟨w.heap.size, 0, none⟩ = some (.int .i64 n) := by
        have e1 := Below.heap_alloc (w2.setCell ⟨w.heap.size, 0, none⟩ (.int .i64 n)) (.cells #[.int .i64 n] 159) w.heap.size (by simpa using hb3)
        have c : (w2.setCell ⟨w.heap.size, 0, none⟩ (.int .i64 n)).cell? ⟨w.heap.size, 0, none⟩ = some (.int .i64 n) := by first | exact World.cell?_setCell_same _ hc2 | exact World.cell?_setCell_same _ _ hc2 | exact World.cell?_setCell_same _ _ _ hc2
        unfold World.cell? at c ⊢
        rw [e1]; exact c
      simp [Leaves, settle, results, Tryd.results101, go_sem, hc3]
      obtain ⟨s3, h3⟩ := pk n
      obtain ⟨s4, h4⟩ := lay_step h3 (.cells #[.int .i64 n] 159)
      exact ⟨G2, s3.trans s4, h4, _, rfl, .int _ _⟩
  · rw [hrun]
    simp only [Oper.upon]
    obtain ⟨G2, st2, hH2, hend2⟩ := hpost
    obtain ⟨hfree2, hb2⟩ := free_step hfree (by rw [hsz]; omega) st2 hlt
    rw [hb0] at hb2
    have hc2 : w'.cell? ⟨w.heap.size, 0, none⟩ = some (.int .i64 0) := by simp [World.cell?, hb2]
    have hz2 : w'.frozen? ⟨w.heap.size, 0, none⟩ = false := by simp [World.frozen?, hb2]
    have pk : ∀ n : Int, Step G w G2 (w'.setCell ⟨w.heap.size, 0, none⟩ (.int .i64 n)) ∧ HRep Tryd.prog G2 (w'.setCell ⟨w.heap.size, 0, none⟩ (.int .i64 n)) H1 := fun n =>
      poke hfree2 hH.base (Nat.le_refl _) (st1.trans st2) hH2 (fun k hk => Below.heap_setCell _ _ _ k hk) (by simp) rfl rfl rfl
    rcases hend with ⟨v, rfl, rfl, rfl⟩ | ⟨n, rfl, rfl, rfl⟩
    · obtain ⟨u', hu', hu⟩ := hend2
      apply ‹∀ (a : Act) (w : World), wpList _ _ _ _ a w → _›
      go_wp2
      refine leaves_cons (f := 123) (args := #[.pointer (some ⟨w.heap.size, 0, none⟩)]) (by simp) (by simp [go_sem]) ?_
      refine (T.catch_idle _ _).mono ?_
      rintro e u' w'' ⟨rfl, rfl, rfl⟩
      have hc3 : (w'.setCell ⟨w.heap.size, 0, none⟩ (.int .i64 0)).cell? ⟨w.heap.size, 0, none⟩ = some (.int .i64 0) := by first | exact World.cell?_setCell_same _ hc2 | exact World.cell?_setCell_same _ _ hc2 | exact World.cell?_setCell_same _ _ _ hc2
      simp [Leaves, settle, results, Tryd.results101, go_sem, hc3]
      exact ⟨G2, (pk 0).1, (pk 0).2, _, rfl, .int _ _⟩
    · obtain ⟨u', hu', hu⟩ := hend2
      cases hu'
theorem T.tryOk : TryOk Tryd.prog 101 159 := by
  intro call hcs g caps H r H' hr G w vs hH hargs
  obtain ⟨h1, h2⟩ := hargs
  have hs : vs.size = 1 := h1
  have e : vs = #[vs[0]] := Array.ext (by simpa using hs) (fun i i1 i2 => by
    have : i = 0 := by omega
    subst this; rfl)
  have hv := h2 0 (by omega) (by simp)
  rw [List.getElem_cons_zero] at hv
  generalize vs[0] = y at hv e
  subst e
  cases hv with
  | func _ us _ hn hu => exact .inl ⟨w, by kernel_rfl, T.try_ok hcs hr hH ⟨hn, hu⟩, rfl⟩
#print axioms T.tryOk
end Go.Proofs.YtmlipdlbeddijaaDoor
