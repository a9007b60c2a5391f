/-
  WHAT THE LAW LEANS ON, part 14 of 14: a machine of values and its soundness; the functions of the law upon it; what they come to.
-/
import Derived.Test.YtjoblbpgpmknmaaGreatDoorXsoum
import Derived.JoinedOf
set_option linter.unusedVariables false
set_option linter.unusedSimpArgs false
namespace Go.Aa
open Go.Proofs Go.RowKit
variable{P:Program}{G:Ghost}{w w':World}{H:Heap}
theorem ARep.app{u1 u2:List Value}{c1 c2:List AV}(h1:ARep G w u1 c1)(h2:ARep G w u2 c2):ARep G w (u1++u2) (c1++c2):=by
 refine⟨by simp[h1.1,h2.1],fun i i1 i2=> ?_⟩
 by_cases h:i<u1.length
 ·rw[List.getElem_append_left h,List.getElem_append_left (by rw[←h1.1];exact h)]
  exact h1.2 i h _
 ·rw[List.getElem_append_right (by omega),List.getElem_append_right (by rw[←h1.1];omega)]
  have:=h2.2 (i-u1.length) (by simp only[List.length_append]at i1;omega) (by have:=h1.1;simp only[List.length_append]at i2;omega)
  simp only[h1.1]at this⊢
  exact this
theorem ARep.tk{us:List Value}{cs:List AV}(o:Nat)(h:ARep G w us cs):ARep G w (us.take o) (cs.take o):=
 ⟨by simp[h.1],fun i i1 i2=>by simp only[List.getElem_take];exact h.2 i _ _⟩
theorem ARep.dr{us:List Value}{cs:List AV}(o:Nat)(h:ARep G w us cs):ARep G w (us.drop o) (cs.drop o):=
 ⟨by simp[h.1],fun i i1 i2=>by simp only[List.getElem_drop];exact h.2 _ _ _⟩
theorem setCells_row(P:Program){g o:Nat}{cur:Array Value}{t:TypeId}{vs:List Value}(hg:w.heap[g]?=some (.cells cur t (0,0)))(hfit:o+vs.length≤cur.size)(h1:∀v∈vs,v.oneCell'=true):
 w.setCells g o vs=w.setRow g (cur.toList.take o++vs++cur.toList.drop (o+vs.length)).toArray:=by
 have e1:=run_storeCells_at P g o t vs 0 cur w hg (by simpa using hfit) h1
 have e2:=run_storeCells_cells (P:=P) g o vs 0 w (fun j hj=>by
  have:o+j<cur.size:=by omega
  simp[World.cell?,hg,this]) (fun j hj=>by simp[World.frozen?,hg]) h1
 rw[e1]at e2
 simp only[Nat.add_zero,Result.ok.injEq,true_and]at e2
 exact e2.symm
theorem box_more{k:Nat}{cs cs':List AV}{us:Array Value}{e:TypeId}{X rest:List Value}(hH:HRep P G w H)(hk:G.on k)(hcs:H.boxes[k]?=some cs)(hne:cs≠[])(hb:w.heap[G.μ k]?=some (.cells us e (0,0)))
 (hX:ARep G w X cs')(hsz:(X++rest).length=us.size)(h1:w'.os=w.os)(h2:w'.tape=w.tape)(h3:w'.output=w.output)(h4:w.heap.size≤w'.heap.size)(h5:w'.heap[G.μ k]?=some (.cells (X++rest).toArray e (0,0)))
 (h6:∀b,b<w.heap.size→b≠G.μ k→w'.heap[b]?=w.heap[b]?):Step G w (G.more k) w'∧HRep P (G.more k) w' {H with boxes:=H.boxes.set k []++[cs']}:=by
 obtain⟨s1,s2⟩:=more_box (blk:=(X++rest).toArray) (cs':=cs') hH hk hcs hne hb (by simpa using hsz) (by simp[hX.1]) fun q q1 q2=>by
  have q3:q<X.length:=by rw[hX.1];exact q2
  have:(X++rest).toArray[q]=X[q]:=by simp only[List.getElem_toArray];exact List.getElem_append_left q3
  rw[this]
  exact hX.2 q q3 q2
 have hB:Below (w.setRow (G.μ k) (X++rest).toArray).heap.size (w.setRow (G.μ k) (X++rest).toArray) w':=by
  refine⟨h1,h2,h3,by simpa using h4,fun b hb'=> ?_⟩
  by_cases eb:b=G.μ k
  ·subst eb
   rw[h5]
   exact(setRow_heap w (G.μ k) us _ e (0,0) hb).symm
  ·rw[setRow_other _ _ _ _ eb]
   exact h6 b (by simpa using hb') eb
 obtain⟨t1,t2⟩:=below_step s2 hB
 exact⟨s1.trans t1,t2⟩
theorem box_made{cs':List AV}{e:TypeId}{X rest:List Value}(hH:HRep P G w H)(hX:ARep G w X cs')(h1:w'.os=w.os)(h2:w'.tape=w.tape)(h3:w'.output=w.output)(h4:w'.heap.size=w.heap.size+1)
 (h5:w'.heap[w.heap.size]?=some (.cells (X++rest).toArray e (0,0)))(h6:∀b,b<w.heap.size→w'.heap[b]?=w.heap[b]?):
 Step G w (G.box w.heap.size (X++rest).length) w'∧HRep P (G.box w.heap.size (X++rest).length) w' {H with boxes:=H.boxes++[cs']}:=by
 obtain⟨s1,s2⟩:=box_new hH e (us:=(X++rest).toArray) (cs:=cs') (by simp[hX.1]) fun q q1 q2=>by
  have q3:q<X.length:=by rw[hX.1];exact q2
  have:(X++rest).toArray[q]=X[q]:=by simp only[List.getElem_toArray];exact List.getElem_append_left q3
  rw[this]
  exact hX.2 q q3 q2
 simp only[List.size_toArray]at s1 s2
 have hB:Below (w.alloc (.cells (X++rest).toArray e)).heap.size (w.alloc (.cells (X++rest).toArray e)) w':=by
  refine⟨h1,h2,h3,by simp[h4],fun b hb'=> ?_⟩
  have hb':b<w.heap.size+1:=by simpa using hb'
  by_cases eb:b=w.heap.size
  ·subst eb
   rw[h5]
   show _=(w.heap.push _)[w.heap.size]?
   simp
  ·rw[Below.heap_alloc _ _ _ (by omega)]
   exact h6 b (by omega)
 obtain⟨t1,t2⟩:=below_step s2 hB
 exact⟨s1.trans t1,t2⟩
end Go.Aa
namespace Go.Aa.T
open Go.Aa Go.Proofs Go.RowKit
set_option maxHeartbeats 4000000 in
set_option maxRecDepth 100000 in
theorem clone_nil(n c:Nat)(w:World):Calls Tryz.prog 90 #[.slice none n c] w fun e w'=>e=.returned (.slice none 0 0)∧w'=w:=by
 have q22:∀(w:World)(a:Option Addr)(n c n' c':Nat),(binOp .eql 23 (.slice a n c) (.slice none n' c')).run Tryz.prog w=.ok (.bool a.isNone) w:=fun w a n c n' c'=>Lib.run_eql_slice_nil w _ _ a n c n' c' Tryz.underlying23
 go_enter Tryz.func90,Tryz.ntmps90
 go_wp2
 go_ret
 exact⟨rfl,rfl⟩
set_option maxHeartbeats 4000000 in
set_option maxRecDepth 100000 in
theorem clone_some(a:Addr)(n c:Nat)(w:World)(r:Value)(w2:World)(hr:(Builtin.append_ #[23,23] 23 #[.slice (some ⟨w.heap.size,0,none⟩) 0 0,.slice (some a) n c]).run Tryz.prog (w.alloc (.cells #[] 35))=.ok r w2):
 Calls Tryz.prog 90 #[.slice (some a) n c] w fun e w'=>e=.returned r∧w'=w2:=by
 have q22:∀(w:World)(a:Option Addr)(n c n' c':Nat),(binOp .eql 23 (.slice a n c) (.slice none n' c')).run Tryz.prog w=.ok (.bool a.isNone) w:=fun w a n c n' c'=>Lib.run_eql_slice_nil w _ _ a n c n' c' Tryz.underlying23
 obtain⟨ab,ao,asp⟩:=a
 go_enter Tryz.func90,Tryz.ntmps90
 go_wp2_with(at_builtin;refine Lib.wpList_append_run _ rfl _ _ _ _ rfl _ _ rfl rfl _ _ hr ?_)
 go_ret
 exact⟨rfl,rfl⟩
theorem info_el:∃i z,Tryz.prog.info? 35=some i∧i.zero=some z∧z.cells.size=11∧i.size=11∧i.bytes=184:=by
 have h:((Tryz.prog.info? 35).any fun i=>i.zero.any (fun z=>z.cells.size==11)&&(i.size==11&&i.bytes==184))=true:=by kernel_rfl
 obtain⟨i,hi,h⟩:=(Option.any_eq_true _ _).1 h
 simp only[Bool.and_eq_true,beq_iff_eq]at h
 obtain⟨h,h2,h3⟩:=h
 obtain⟨z,hz,h⟩:=(Option.any_eq_true _ _).1 h
 exact⟨i,z,hi,hz,by simpa using h,h2,h3⟩
theorem ext_clone:ExtOk Tryz.prog 90 (cloneE 11 184):=by
 intro az H v H' hg G w vs hH hargs
 unfold cloneE at hg
 split at hg
 ·rename_i k l
  obtain⟨i,z,hi,hz,hzs,his,hib⟩:=info_el
  rw[←his,←hib]at hg
  obtain⟨u,rfl,hr⟩:=args_1 hargs
  have hu:∃b n c,u=.slice b n c:=by
   cases hr with
   |sl0 a c=>exact⟨_,_,_,rfl⟩
   |sl a c=>exact⟨_,_,_,rfl⟩
  obtain⟨b,n,c,rfl⟩:=hu
  cases b with
  |none=>
   refine .inl ⟨w,by kernel_rfl,(clone_nil n c w).mono fun e1 w' hh=> ?_,rfl⟩
   obtain⟨rfl,rfl⟩:=hh
   cases hr with
   |sl0 a c=>
    simp only[appendMA,Option.some.injEq,Prod.mk.injEq]at hg
    obtain⟨rfl,rfl⟩:=hg
    exact⟨G,.refl _ _,hH,_,rfl,.sl0 none 0 .nil (fun _=>rfl) (fun t e=>by cases e)⟩
  |some a=>
   have hg1:=Grow.alloc (w:=w) hH.base (.cells #[] 35) 0
   have hst:=hg1.step hH.base
   have hx:Rep (G.set w.heap.size 0) (w.alloc (.cells #[] 35)) (.slice (some ⟨w.heap.size,0,none⟩) 0 0) (.sl .full []):=.sl0 _ _ _ (fun _=>rfl) (fun t e=>by cases e)
   obtain⟨r,w2,G2,j1,j2,j3,j4⟩:=run_appendMA (ty:=23) (hH.grow hg1) hx (hr.step hst) hg Tryz.underlying23 Tryz.underlying23 hi hz (by rw[hzs,his]) (by rw[his];decide) (by rw[hib];decide)
   refine .inl ⟨w,by kernel_rfl,(clone_some a n c w r w2 j1).mono fun e1 w' hh=> ?_,rfl⟩
   obtain⟨rfl,rfl⟩:=hh
   exact⟨G2,hst.trans j2,j3,_,rfl,j4⟩
 ·cases hg
theorem alls{G:Ghost}{w:World}{l:List AV}(h:l.all data0=true){us:List Value}(hr:ARep G w us l):∀v∈us,v.oneCell'=true:=by
 intro v hv
 obtain⟨j,hj,rfl⟩:=List.getElem_of_mem hv
 have hj2:j<l.length:=by rw[←hr.1];exact hj
 exact(hr.2 j hj hj2).one (data0_cell (List.all_eq_true.1 h _ (List.getElem_mem hj2)))
theorem ext_ins : ExtOk Tryz.prog 119 (insE 11 184) := by
  intro az H v H' hg G w vs hH hargs
  obtain ⟨i0, z, hi0, hz0, hzc, hzs, hzb⟩ := info_el
  unfold insE at hg
  split at hg
  · rename_i k off n es1 i kv ov m es2
    split at hg
    · rename_i cs vsA hcs hvs
      split at hg
      · rename_i hc
        obtain ⟨⟨hkk, rfl, rfl, rfl, rfl, rfl, hi1, hin⟩, hlen, hne, hvl, hd, hdv, hbig⟩ := hc
        simp only [Option.some.injEq, Prod.mk.injEq] at hg
        obtain ⟨rfl, rfl⟩ := hg
        obtain ⟨u0, u1, u2, rfl, r0, r1, r2⟩ := args_three hargs
        rw [int_inv r1]
        obtain ⟨N, rfl⟩ : ∃ N : Nat, i = N := ⟨i.toNat, by omega⟩
        have hN : N ≤ n := by omega
        simp only [Int.toNat_natCast]
        cases r0 with
        | msl _ _ _ c _ hk hnc hcm he0 hcap =>
        cases r2 with
        | msl _ _ _ vc _ hkv hvnc hvcm _ hvcap =>
        obtain ⟨hlt, hcs'⟩ := List.getElem?_eq_some_iff.1 hcs
        obtain ⟨hltv, hvs'⟩ := List.getElem?_eq_some_iff.1 hvs
        obtain ⟨us, e, hb, ⟨hsz, hmc⟩, hrep⟩ := hH.box k hlt hk.2
        obtain ⟨vu, ve, hvb, ⟨hvsz, hvmc⟩, hvrep⟩ := hH.box kv hltv hkv.2
        rw [hcs'] at hsz hrep
        rw [hvs'] at hvsz hvrep
        have hne' : cs ≠ [] := fun e => by rw [e] at hne; simp at hne
        have hlive : LiveB H k := fun e => by rw [hcs] at e; simp only [Option.some.injEq] at e; exact hne' e
        have hlivev : LiveB H kv := fun e => by rw [hvs] at e; simp only [Option.some.injEq] at e; rw [e] at hvl; simp at hvl
        have hμ : G.μ kv ≠ G.μ k := fun e => hkk (hH.μinj kv k hkv hk hlivev hlive e).symm
        have hCS : ARep G w (us.toList.take (n * 11)) (cs.take (n * 11)) := ⟨by simp; omega, fun j j1 j2 => by
          simp only [List.getElem_take, Array.getElem_toList]
          exact hrep j (by simp at j1; omega) (by simp at j2; omega)⟩
        have hVS : ARep G w (vu.toList.take 11) vsA := ⟨by simp; omega, fun j j1 j2 => by
          simp only [List.getElem_take, Array.getElem_toList]
          exact hvrep j (by simp at j1; omega) j2⟩
        have hX : ARep G w ((us.toList.take (n * 11)).take (N * 11) ++ vu.toList.take 11 ++ (us.toList.take (n * 11)).drop (N * 11)) (cs.take (N * 11) ++ vsA ++ (cs.take (n * 11)).drop (N * 11)) := by
          have := ((hCS.tk (N * 11)).app hVS).app (hCS.dr (N * 11))
          rw [List.take_take, Nat.min_eq_left (by omega)] at this
          rw [List.take_take, Nat.min_eq_left (by omega)]
          rw [List.take_take, Nat.min_eq_left (by omega)] at this
          exact this
        have h1c := alls (List.all_eq_true.2 fun x hx => List.all_eq_true.1 hd x (List.mem_of_mem_take hx)) hCS
        have h1v := alls hdv hVS
        have hCSl : (us.toList.take (n * 11)).length = n * 11 := by rw [List.length_take, Array.length_toList]; omega
        have hVSl : (vu.toList.take 11).length = 1 * 11 := by rw [List.length_take, Array.length_toList]; omega
        have hcsc : ∀ j x, (us.toList.take (n * 11))[j]? = some x → w.cell? ⟨G.μ k, 0 + j, none⟩ = some x := fun j x hj => by
          rw [List.getElem?_take] at hj
          split at hj
          · rw [Array.getElem?_toList] at hj
            simp [World.cell?, hb, hj]
          · cases hj
        have hvsc : ∀ j x, (vu.toList.take 11)[j]? = some x → w.cell? ⟨G.μ kv, 0 + j, none⟩ = some x := fun j x hj => by
          rw [List.getElem?_take] at hj
          split at hj
          · rw [Array.getElem?_toList] at hj
            simp [World.cell?, hvb, hj]
          · cases hj
        have hfz : ∀ j, w.frozen? ⟨G.μ k, j, none⟩ = false := fun j => by simp [World.frozen?, hb]
        have hvfz : ∀ j, w.frozen? ⟨G.μ kv, j, none⟩ = false := fun j => by simp [World.frozen?, hvb]
        have hcell : ∀ j, j < us.size → (w.cell? ⟨G.μ k, j, none⟩).isSome = true := fun j hj => by simp [World.cell?, hb, hj]
        have hXl := hX.1
        generalize hCSe : us.toList.take (n * 11) = CS at hX hXl hCSl hcsc h1c
        generalize hVSe : vu.toList.take 11 = VS at hX hXl hVSl hvsc h1v
        have hlb : (H.boxes.set k []).length = H.boxes.length := by simp
        by_cases hroom : n + 1 ≤ c
        · -- there is room
          have hcu : (n + 1) * 11 ≤ us.size := by
            have := Nat.mul_le_mul_right 11 hroom
            omega
          have hfin : ∀ w', w'.os = w.os → w'.tape = w.tape → w'.output = w.output → w.heap.size ≤ w'.heap.size → w'.heap[G.μ k]? = some (.cells ((CS.take (N * 11) ++ VS ++ CS.drop (N * 11)) ++ us.toList.drop ((n + 1) * 11)).toArray e (0, 0)) →
              (∀ b, b < w.heap.size → b ≠ G.μ k → w'.heap[b]? = w.heap[b]?) → PostOk Tryz.prog G w (.ret (.msl H.boxes.length 0 (n + 1) 11)) { H with boxes := H.boxes.set k [] ++ [cs.take (N * 11) ++ vsA ++ (cs.take (n * 11)).drop (N * 11)] } (.returned (.slice (some ⟨G.μ k, 0, none⟩) (n + 1) c)) w' := fun w' h1 h2 h3 h4 h5 h6 => by
            obtain ⟨s1, s2⟩ := box_more hH hk hcs hne' hb hX (by
              simp only [List.length_append, List.length_take, List.length_drop, Array.length_toList, hCSl, hVSl]; omega) h1 h2 h3 h4 h5 h6
            refine ⟨_, s1, s2, _, rfl, ?_⟩
            have := Rep.msl (G := G.more k) (w := w') G.nb 0 (n + 1) c 11 ⟨by simp [Ghost.more], by simp [Ghost.more]⟩ hroom hcm (by decide) (by simp only [Ghost.more, if_pos]; rw [← hmc, hmc]; exact hcap)
            simp only [Ghost.more, if_pos] at this
            rw [← hH.nb]
            exact this
          by_cases hend : N = n
          · subst hend
            have hcall := ins_end_room (G.μ k) 0 N c (G.μ kv) 0 1 vc VS w i0 hi0 hzs (by omega) hroom hcm hVSl (fun j hj => by rw [show 0 + N * 11 + j = N * 11 + j by omega]; exact hcell _ (by omega)) (fun j hj => hfz _) hvsc h1v
            refine .inl ⟨w, by kernel_rfl, hcall.mono fun e1 w' hh => ?_, rfl⟩
            obtain ⟨rfl, rfl⟩ := hh
            rw [setCells_row Tryz.prog hb (by rw [hVSl]; omega) h1v]
            refine hfin _ rfl rfl rfl (by simp) ?_ (fun b hb1 hb2 => setRow_other _ _ _ _ hb2)
            rw [setRow_heap _ _ us _ e (0, 0) hb]
            rw [show 0 + N * 11 = N * 11 by omega, hVSl, ← hCSe, List.take_take, Nat.min_self, List.drop_eq_nil_of_le («as» := us.toList.take (N * 11)) (by simp; omega), List.append_nil, show N * 11 + 1 * 11 = (N + 1) * 11 by omega]
          · have hcall := ins_shift (G.μ k) 0 n c N (G.μ kv) 0 1 vc CS VS w (by omega) (by omega) hroom hcm hμ hCSl hVSl hcsc (fun j hj => by rw [Nat.zero_add]; exact hcell _ (by omega)) (fun j hj => hfz _) hvsc h1c h1v ve e vu.size us.size
              (by simp [World.shape?, hvb]) (by simp [World.shape?, hb]) (by omega) (hvfz _) (hvfz _)
            refine .inl ⟨w, by kernel_rfl, hcall.mono fun e1 w' hh => ?_, rfl⟩
            obtain ⟨rfl, rfl⟩ := hh
            have hb0 : w.drew.heap[G.μ k]? = some (.cells us e (0, 0)) := hb
            have hdl : (CS.drop (N * 11)).length = (n - N) * 11 := by rw [List.length_drop, hCSl]; omega
            rw [setCells_row Tryz.prog hb0 (by rw [hdl]; omega) (fun v hv => h1c v (List.mem_of_mem_drop hv))]
            have hb1 := setRow_heap w.drew (G.μ k) us ((us.toList.take (0 + (N + 1) * 11) ++ CS.drop (N * 11) ++ us.toList.drop (0 + (N + 1) * 11 + (CS.drop (N * 11)).length)).toArray) e (0, 0) hb0
            rw [setCells_row Tryz.prog hb1 (by simp only [List.size_toArray, List.length_append, List.length_take, List.length_drop, Array.length_toList, hVSl, hCSl]; omega) h1v]
            refine hfin _ rfl rfl rfl (by simp) ?_ (fun b hb1 hb2 => by rw [setRow_other _ _ _ _ hb2, setRow_other _ _ _ _ hb2]; rfl)
            rw [setRow_heap _ _ _ _ e (0, 0) hb1]
            refine congrArg (fun l : List Value => some (Obj.cells l.toArray e (0, 0))) ?_
            simp only [List.append_assoc, hVSl, hdl]
            rw [show 0 + N * 11 + 1 * 11 = 0 + (N + 1) * 11 by omega]
            rw [List.take_append_of_le_length (by simp only [List.length_take, Array.length_toList]; omega), List.take_take, Nat.min_eq_left (by omega)]
            rw [List.drop_append_of_le_length (by simp only [List.length_take, Array.length_toList]; omega), List.drop_eq_nil_of_le («as» := us.toList.take _) (by simp only [List.length_take, Array.length_toList]; omega), List.nil_append, ← hCSe, List.take_take, Nat.min_eq_left (by omega), show 0 + N * 11 = N * 11 by omega,
              show 0 + (N + 1) * 11 + (n - N) * 11 = (n + 1) * 11 by omega]
        · -- a new block
          have hfin : ∀ (cap : Nat) (rest : List Value) w', n + 1 ≤ cap → cap ≤ 9223372036854775807 → ((CS.take (N * 11) ++ VS ++ CS.drop (N * 11)) ++ rest).length = cap * 11 → w'.os = w.os → w'.tape = w.tape → w'.output = w.output → w'.heap.size = w.heap.size + 1 → w'.heap[w.heap.size]? = some (.cells ((CS.take (N * 11) ++ VS ++ CS.drop (N * 11)) ++ rest).toArray 35 (0, 0)) →
              (∀ b, b < w.heap.size → w'.heap[b]? = w.heap[b]?) → PostOk Tryz.prog G w (.ret (.msl H.boxes.length 0 (n + 1) 11)) { H with boxes := H.boxes.set k [] ++ [cs.take (N * 11) ++ vsA ++ (cs.take (n * 11)).drop (N * 11)] } (.returned (.slice (some ⟨w.heap.size, 0, none⟩) (n + 1) cap)) w' := fun cap rest w' hc1 hc2 hc3 h1 h2 h3 h4 h5 h6 => by
            obtain ⟨s1, s2⟩ := box_made (hH.kill k) hX h1 h2 h3 h4 h5 h6
            rw [hc3] at s1 s2
            refine ⟨_, s1, s2, _, rfl, ?_⟩
            have := Rep.msl (G := G.box w.heap.size (cap * 11)) (w := w') G.nb 0 (n + 1) cap 11 ⟨by simp [Ghost.box], by simp [Ghost.box]⟩ hc1 hc2 (by decide) (by simp [Ghost.box])
            simp only [Ghost.box, if_pos] at this
            rw [← hH.nb]
            exact this
          have hcap1 : n + 1 ≤ grownCap w (n + 1) c 35 := grownCap_ge _ _ _ _
          have hcap2 : grownCap w (n + 1) c 35 ≤ 9223372036854775807 := grownCap_lt _ _ (by omega)
          generalize hgc : grownCap w (n + 1) c 35 = cap at hcap1 hcap2
          by_cases hend : N = n
          · subst hend
            have hcall := ins_end_grow (some ⟨G.μ k, 0, none⟩) N c (G.μ kv) 0 1 vc CS VS w i0 z hi0 hz0 hzs hzb (by omega) hnc (by omega) hbig hCSl hVSl (fun e => by cases e) (fun a ha j x hj => by
              simp only [Option.some.injEq] at ha
              subst ha
              rw [Addr.add_lit]
              exact hcsc j x hj) hvsc h1v
            rw [hgc] at hcall
            refine .inl ⟨w, by kernel_rfl, hcall.mono fun e1 w' hh => ?_, rfl⟩
            obtain ⟨rfl, rfl⟩ := hh
            have e0 : CS.take (N * 11) ++ VS ++ CS.drop (N * 11) = CS ++ VS := by rw [List.take_of_length_le (by omega), List.drop_eq_nil_of_le (by omega), List.append_nil]
            refine hfin cap (Builtin.zeroCells z.cells (cap - (N + 1))).toList _ hcap1 hcap2 (by
              rw [e0]
              simp only [List.length_append, Array.length_toList, size_zeroCells, hzc, hCSl, hVSl]; omega) rfl rfl rfl (by simp) ?_ (fun b hb1 => Below.heap_alloc _ _ _ hb1)
            show (w.drew.heap.push _)[w.drew.heap.size]? = _
            rw [Array.getElem?_push_size, e0, Array.toArray_append]
          · have hcall := ins_grow (G.μ k) 0 n c N (G.μ kv) 0 1 vc CS VS w i0 z hi0 hz0 hzs hzb hzc (by omega) (by omega) hnc (by omega) hbig hCSl hVSl hcsc hvsc h1c h1v
            rw [hgc] at hcall
            refine .inl ⟨w, by kernel_rfl, hcall.mono fun e1 w' hh => ?_, rfl⟩
            obtain ⟨rfl, rfl⟩ := hh
            have hdl : (CS.drop (N * 11)).length = (n - N) * 11 := by rw [List.length_drop, hCSl]; omega
            have htl : (CS.take (N * 11)).length = N * 11 := by rw [List.length_take, hCSl]; omega
            generalize hR0 : (CS.take (N * 11)).toArray ++ Builtin.zeroCells z.cells (n + 1 - N) ++ Builtin.zeroCells z.cells (cap - (n + 1)) = R0
            have hR0l : R0.toList = CS.take (N * 11) ++ ((Builtin.zeroCells z.cells (n + 1 - N)).toList ++ (Builtin.zeroCells z.cells (cap - (n + 1))).toList) := by rw [← hR0]; simp
            have hZ1 : (Builtin.zeroCells z.cells (n + 1 - N)).toList.length = (n + 1 - N) * 11 := by rw [Array.length_toList, size_zeroCells, hzc]
            have hZ2 : (Builtin.zeroCells z.cells (cap - (n + 1))).toList.length = (cap - (n + 1)) * 11 := by rw [Array.length_toList, size_zeroCells, hzc]
            generalize (Builtin.zeroCells z.cells (n + 1 - N)).toList = Z1 at hR0l hZ1
            have hR0s : R0.size = cap * 11 := by
              rw [← Array.length_toList, hR0l]
              simp only [List.length_append, htl, hZ1, hZ2]; omega
            have hb0 : (w.alloc (.cells R0 35)).drew.heap[w.heap.size]? = some (.cells R0 35 (0, 0)) := by
              show (w.heap.push _)[w.heap.size]? = _
              simp
            rw [setCells_row Tryz.prog hb0 (by rw [hVSl, hR0s]; omega) h1v]
            have hb1 := setRow_heap (w.alloc (.cells R0 35)).drew w.heap.size R0 ((R0.toList.take (N * 11) ++ VS ++ R0.toList.drop (N * 11 + VS.length)).toArray) 35 (0, 0) hb0
            rw [setCells_row Tryz.prog (w := ((w.alloc (.cells R0 35)).drew.setRow w.heap.size (R0.toList.take (N * 11) ++ VS ++ R0.toList.drop (N * 11 + VS.length)).toArray).drew) hb1 (by
              simp only [List.size_toArray, List.length_append, List.length_take, List.length_drop, Array.length_toList, hVSl, hR0s, hCSl]; omega) (fun v hv => h1c v (List.mem_of_mem_drop hv))]
            refine hfin cap (Builtin.zeroCells z.cells (cap - (n + 1))).toList _ hcap1 hcap2 (by
              simp only [List.length_append, hZ2, hdl, htl, hVSl]; omega) rfl rfl rfl (by simp) ?_ (fun b hb1 => by
                rw [setRow_other _ _ _ _ (by omega)]
                show ((w.alloc (.cells R0 35)).drew.setRow w.heap.size _).heap[b]? = _
                rw [setRow_other _ _ _ _ (by omega)]
                exact Below.heap_alloc _ _ _ hb1)
            rw [setRow_heap (((w.alloc (.cells R0 35)).drew.setRow w.heap.size (R0.toList.take (N * 11) ++ VS ++ R0.toList.drop (N * 11 + VS.length)).toArray).drew) _ _ _ 35 (0, 0) hb1]
            refine congrArg (fun l : List Value => some (Obj.cells l.toArray 35 (0, 0))) ?_
            simp only [hVSl, hdl, hR0l]
            have a1 : (CS.take (N * 11) ++ (Z1 ++ (Builtin.zeroCells z.cells (cap - (n + 1))).toList)).take (N * 11) = CS.take (N * 11) := by
              rw [List.take_append_of_le_length (by omega), List.take_of_length_le (by omega)]
            rw [a1]
            have a2 : (CS.take (N * 11) ++ VS ++ (CS.take (N * 11) ++ (Z1 ++ (Builtin.zeroCells z.cells (cap - (n + 1))).toList)).drop (N * 11 + 1 * 11)).take ((N + 1) * 11) = CS.take (N * 11) ++ VS := by
              rw [List.take_append_of_le_length (by simp only [List.length_append, htl, hVSl]; omega), List.take_of_length_le (by simp only [List.length_append, htl, hVSl]; omega)]
            rw [a2]
            refine congrArg (fun l : List Value => CS.take (N * 11) ++ VS ++ CS.drop (N * 11) ++ l) ?_
            have hx1 : (CS.take (N * 11) ++ VS).length = N * 11 + 1 * 11 := by simp only [List.length_append, htl, hVSl]
            have hx2 : (CS.take (N * 11) ++ Z1).length = N * 11 + 1 * 11 + (n - N) * 11 := by simp only [List.length_append, htl, hZ1]; omega
            rw [List.drop_append, hx1, List.drop_eq_nil_of_le (by rw [hx1]; omega), List.nil_append, List.drop_drop, ← List.append_assoc (CS.take (N * 11)) Z1, show N * 11 + 1 * 11 + ((N + 1) * 11 + (n - N) * 11 - (N * 11 + 1 * 11)) = (CS.take (N * 11) ++ Z1).length by omega, List.drop_append_length]
      · cases hg
    · cases hg
  · rename_i i kv ov m es2
    split at hg
    · rename_i vsA hvs
      split at hg
      · rename_i hc
        obtain ⟨rfl, rfl, rfl, rfl, hvl, hdv, hbig⟩ := hc
        simp only [Option.some.injEq, Prod.mk.injEq] at hg
        obtain ⟨rfl, rfl⟩ := hg
        obtain ⟨u0, u1, u2, rfl, r0, r1, r2⟩ := args_three hargs
        rw [int_inv r1]
        cases r2 with
        | msl _ _ _ vc _ hkv hvnc hvcm _ hvcap =>
        obtain ⟨hltv, hvs'⟩ := List.getElem?_eq_some_iff.1 hvs
        obtain ⟨vu, ve, hvb, ⟨hvsz, hvmc⟩, hvrep⟩ := hH.box kv hltv hkv.2
        rw [hvs'] at hvsz hvrep
        have hVS : ARep G w (vu.toList.take 11) vsA := ⟨by simp; omega, fun j j1 j2 => by
          simp only [List.getElem_take, Array.getElem_toList]
          exact hvrep j (by simp at j1; omega) j2⟩
        have h1v := alls hdv hVS
        have hVSl : (vu.toList.take 11).length = 1 * 11 := by rw [List.length_take, Array.length_toList]; omega
        have hvsc : ∀ j x, (vu.toList.take 11)[j]? = some x → w.cell? ⟨G.μ kv, 0 + j, none⟩ = some x := fun j x hj => by
          rw [List.getElem?_take] at hj
          split at hj
          · rw [Array.getElem?_toList] at hj
            simp [World.cell?, hvb, hj]
          · cases hj
        generalize hVSe : vu.toList.take 11 = VS at hVS hVSl hvsc h1v
        cases r0 with
        | sl _ _ _ _ _ _ hl => exact absurd rfl hl
        | sl0 a c _ hc0 _ =>
        have : c = 0 := hc0 rfl
        subst this
        have hcall := ins_end_grow a 0 0 (G.μ kv) 0 1 vc [] VS w i0 z hi0 hz0 hzs hzb (by omega) (by omega) (by omega) (by omega) rfl hVSl (fun _ => rfl) (fun _ _ _ _ hj => by simp at hj) hvsc h1v
        have hcap1 : 0 + 1 ≤ grownCap w (0 + 1) 0 35 := grownCap_ge _ _ _ _
        have hcap2 : grownCap w (0 + 1) 0 35 ≤ 9223372036854775807 := grownCap_lt _ _ (by omega)
        generalize hgc : grownCap w (0 + 1) 0 35 = cap at hcap1 hcap2 hcall
        refine .inl ⟨w, by kernel_rfl, hcall.mono fun e1 w' hh => ?_, rfl⟩
        obtain ⟨rfl, rfl⟩ := hh
        have hl0 : (VS ++ (Builtin.zeroCells z.cells (cap - (0 + 1))).toList).length = cap * 11 := by
          simp only [List.length_append, Array.length_toList, size_zeroCells, hzc, hVSl]; omega
        obtain ⟨s1, s2⟩ := box_made (e := 35) (rest := (Builtin.zeroCells z.cells (cap - (0 + 1))).toList) (w' := w.drew.alloc (.cells (([] ++ VS).toArray ++ Builtin.zeroCells z.cells (cap - (0 + 1))) 35)) hH hVS rfl rfl rfl (by simp) (by
          show (w.drew.heap.push _)[w.drew.heap.size]? = _
          rw [Array.getElem?_push_size, List.nil_append, Array.toArray_append]) (fun b hb1 => Below.heap_alloc _ _ _ hb1)
        rw [hl0] at s1 s2
        refine ⟨_, s1, s2, _, rfl, ?_⟩
        have := Rep.msl (G := G.box w.heap.size (cap * 11)) (w := w.drew.alloc (.cells (([] ++ VS).toArray ++ Builtin.zeroCells z.cells (cap - (0 + 1))) 35)) G.nb 0 (0 + 1) cap 11 ⟨by simp [Ghost.box], by simp [Ghost.box]⟩ hcap1 hcap2 (by decide) (by simp [Ghost.box])
        simp only [Ghost.box, if_pos] at this
        rw [← hH.nb]
        exact this
      · cases hg
    · cases hg
  · cases hg
end Go.Aa.T
set_option linter.unusedVariables false
set_option linter.unusedSimpArgs false
set_option maxRecDepth 100000
namespace Go.Aa.T
open Go.Aa Go.Proofs Go.RowKit Go.Shelf
theorem cfgOk:CfgOk Tryz.prog cfg:=by
 refine⟨by kernel_rfl,fun f A h=>tab_fn h,fun f g h=> ?_,fun f h=> ?_⟩
 ·have h:extF f=some g:=h
  unfold extF at h
  split at h<;>simp only[Option.some.injEq,reduceCtorEq]at h<;>subst h
  ·exact ext_trim (fun _ _=>by kernel_rfl) fun s c w h1 h2 h3=>Any.strings_Trim_laid Tryz.lays160 (by kernel_rfl) s c w h1 h2 h3
  ·exact ext_cmp (fun _ _=>by kernel_rfl) fun a b w=>Any.strings_Compare Tryz.lays106 a b w
  ·exact ext_sort (fun _ _=>by kernel_rfl) (fun a c w=>Any.slices_Sort_string_none Tryz.lays190 a c w) fun blk off cap ss w h1 h2 h3=>Any.slices_Sort_string Tryz.lays190 blk off cap ss w h1 h2 h3
  ·exact ext_ins
  ·exact ext_clone
 ·have h:(f==77)=true:=h
  have:f=77:=by simpa using h
  subst this
  exact Go.Proofs.YtjoblbpgpmknmaaGreatDoor.T.tryOk
#print axioms cfgOk
end Go.Aa.T
set_option linter.unusedVariables false
set_option linter.unusedSimpArgs false
namespace Go.Aa
variable{P:Program}{R:List (Nat×Nat)}
def rkOf(R:List (Nat×Nat))(u:Nat):Option Nat:=(R.find? fun p=>p.1==u).map (·.2)
def rkB(P:Program)(R:List (Nat×Nat)):Bool:=R.all fun p=>(P.partsOf p.1).all fun v=>match rkOf R v with
 |some r=>Nat.blt r p.2
 |none=>false
theorem rk_part(h:rkB P R=true){u ru v:Nat}(hu:rkOf R u=some ru)(hv:v∈P.partsOf u):∃r,rkOf R v=some r∧r<ru:=by
 unfold rkOf at hu
 obtain⟨p,hp,rfl⟩:=Option.map_eq_some_iff.1 hu
 have hm:=List.mem_of_find?_eq_some hp
 have he:=List.find?_some hp
 simp only[beq_iff_eq]at he
 have h1:=List.all_eq_true.1 h p hm
 rw[he]at h1
 have h2:=List.all_eq_true.1 h1 v hv
 split at h2
 ·rename_i r hr
  exact⟨r,hr,by simpa using h2⟩
 ·cases h2
theorem rk_grow(h:rkB P R=true){s:List TypeId}{r:Nat}(hs:∀x∈s,∃q,rkOf R x=some q∧q≤r):∀x∈P.grow s,∃q,rkOf R x=some q∧q≤r:=by
 intro x hx
 unfold Program.grow at hx
 rw[List.mem_eraseDups,List.mem_append]at hx
 rcases hx with hx|hx
 ·exact hs x hx
 ·obtain⟨u,hu,hx⟩:=List.mem_flatMap.1 hx
  obtain⟨q,hq,hl⟩:=hs u hu
  obtain⟨q',hq',hl'⟩:=rk_part h hq hx
  exact⟨q',hq',by omega⟩
theorem rk_grown(h:rkB P R=true){r:Nat}:∀(n:Nat){s:List TypeId},(∀x∈s,∃q,rkOf R x=some q∧q≤r)→∀x∈P.grown n s,∃q,rkOf R x=some q∧q≤r
 |0,_,hs=>hs
 |n+1,_,hs=>rk_grown h n (rk_grow h hs)
theorem rk_book(h:rkB P R=true){t r:Nat}(ht:rkOf R t=some r):∀x∈P.book t,∃q,rkOf R x=some q∧q≤r:=
 rk_grown h _ fun x hx=>by
  rw[List.mem_singleton]at hx
  subst hx
  exact⟨r,ht,Nat.le_refl _⟩
theorem rk_loops(h:rkB P R=true){t r:Nat}(ht:rkOf R t=some r):P.loopsFrom t=false:=by
 unfold Program.loopsFrom
 rw[List.any_eq_false]
 intro u hu
 obtain⟨ru,hu1,-⟩:=rk_book h ht u hu
 simp only[Bool.not_eq_true]
 rw[List.any_eq_false]
 intro v hv
 obtain⟨rv,hv1,hlt⟩:=rk_part h hu1 hv
 intro hc
 have hm:u∈P.book v:=by simpa using hc
 obtain⟨q,hq,hl⟩:=rk_book h hv1 u hm
 rw[hu1]at hq
 simp only[Option.some.injEq]at hq
 omega
theorem rk_all(h:rkB P R=true){ts:List TypeId}(ht:(ts.all fun t=>(rkOf R t).isSome)=true):ts.any (P.loopsFrom ·)=false:=by
 rw[List.any_eq_false]
 intro t hm
 have:=List.all_eq_true.1 ht t hm
 obtain⟨r,hr⟩:=Option.isSome_iff_exists.1 this
 rw[rk_loops h hr]
 exact Bool.false_ne_true
end Go.Aa
