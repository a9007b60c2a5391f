/-
  WHAT THE LAW LEANS ON, part 5 of 14: a machine of values and its soundness; the functions of the law upon it; what they come to.
-/
import Derived.Test.YthlhlfiklmmenaaGreatDoorYoncd
set_option linter.unusedVariables false
set_option linter.unusedSimpArgs false
namespace Go.Aa
open Go.RowKit
open Classical in
noncomputable def limOpt{α:Type}(p:Nat→Option α):Option α:=if h:∃r n,p n=some r then some (Classical.choose h)else none
theorem limOpt_iff{α:Type}{p:Nat→Option α}(hm:∀n m r,n≤m→p n=some r→p m=some r){r:α}:limOpt p=some r↔∃n,p n=some r:=by
 unfold limOpt
 constructor
 ·intro h
  split at h
  ·rename_i hex
   simp only[Option.some.injEq]at h
   rw[←h]
   exact Classical.choose_spec hex
  ·cases h
 ·rintro⟨n,h⟩
  have hex:∃r n,p n=some r:=⟨r,n,h⟩
  rw[dif_pos hex]
  obtain⟨m,hs⟩:=Classical.choose_spec hex
  have h1:=hm n (max n m) _ (Nat.le_max_left _ _) h
  have h2:=hm m (max n m) _ (Nat.le_max_right _ _) hs
  rw[h1]at h2
  exact h2.symm
noncomputable def lim(cfg:Cfg):CallF:=fun k xs H=>limOpt fun n=>callN cfg n k xs H
theorem lim_iff{cfg:Cfg}{k:Key}{xs:List AV}{H:Heap}{r:ARes×Heap}:lim cfg k xs H=some r↔∃n,callN cfg n k xs H=some r:=
 limOpt_iff fun n m r hnm h=>callN_le cfg hnm _ _ _ _ h
theorem le_lim(cfg:Cfg)(n:Nat):Le (callN cfg n) (lim cfg):=fun k xs H r h=>lim_iff.2 ⟨n,h⟩
noncomputable def runL(cfg:Cfg)(A:AFunc)(k:List AIt)(T:Env)(H:Heap):Option (ARes×Heap):=limOpt fun n=>run (lim cfg) A n k T H
theorem runL_iff{cfg:Cfg}{A:AFunc}{k:List AIt}{T:Env}{H:Heap}{r:ARes×Heap}:runL cfg A k T H=some r↔∃n,run (lim cfg) A n k T H=some r:=
 limOpt_iff fun n m r hnm h=>run_mono (.refl _) A n m k T H r hnm h
section
variable{cfg:Cfg}
theorem callE_lim{g:FuncId}{xs:List AV}{H:Heap}{out:Out}(h:callE (lim cfg) g xs H=some out):∃n,callE (callN cfg n) g xs H=some out:=by
 unfold callE at h
 split at h
 ·rename_i v H' hc;obtain⟨n,hn⟩:=lim_iff.1 hc;exact⟨n,by unfold callE;rw[hn];exact h⟩
 ·rename_i v H' hc;obtain⟨n,hn⟩:=lim_iff.1 hc;exact⟨n,by unfold callE;rw[hn];exact h⟩
 ·cases h
theorem callV_lim{fv:AV}{xs:List AV}{H:Heap}{out:Out}(h:callV (lim cfg) fv xs H=some out):∃n,callV (callN cfg n) fv xs H=some out:=by
 unfold callV at h
 split at h
 ·rename_i g caps
  split at h
  ·rename_i hd
   split at h
   ·rename_i v _ hc
    obtain⟨n,hn⟩:=lim_iff.1 hc
    split at h
    ·rename_i hdd;exact⟨n,by unfold callV;simp only[hd,if_true,hn,hdd];exact h⟩
    ·rename_i hdd
     obtain⟨m,hm⟩:=callE_lim h
     refine⟨max n m,?_⟩
     unfold callV
     simp only[hd,if_true,callN_le cfg (Nat.le_max_left n m) _ _ _ _ hn]
     rw[hdd]
     exact callE_mono (callN_le cfg (Nat.le_max_right n m)) hm
   ·rename_i v _ hc
    obtain⟨n,hn⟩:=lim_iff.1 hc
    exact⟨n,by unfold callV;simp only[hd,if_true,hn];exact h⟩
   ·cases h
  ·rename_i hd
   obtain⟨m,hm⟩:=callE_lim h
   exact⟨m,by unfold callV;simp only[hd,if_false];exact hm⟩
 ·split at h
  ·rename_i v H' hc;obtain⟨n,hn⟩:=lim_iff.1 hc;exact⟨n,by unfold callV;simp only[hn];exact h⟩
  ·rename_i v H' hc;obtain⟨n,hn⟩:=lim_iff.1 hc;exact⟨n,by unfold callV;simp only[hn];exact h⟩
  ·cases h
 ·cases h
theorem callW_lim{fv:AV}{xs:List AV}{H:Heap}{out:Out}(h:callW (lim cfg) fv xs H=some out):∃n,callW (callN cfg n) fv xs H=some out:=by
 unfold callW at h
 split at h
 ·rename_i g caps
  split at h
  ·rename_i hd
   split at h
   ·rename_i v _ hc
    obtain⟨n,hn⟩:=lim_iff.1 hc
    split at h
    ·rename_i hdd;exact⟨n,by unfold callW;simp only[hd,if_true,hn,hdd];exact h⟩
    ·rename_i hdd
     obtain⟨m,hm⟩:=callE_lim h
     refine⟨max n m,?_⟩
     unfold callW
     simp only[hd,if_true,callN_le cfg (Nat.le_max_left n m) _ _ _ _ hn]
     rw[if_neg hdd]
     exact callE_mono (callN_le cfg (Nat.le_max_right n m)) hm
   ·rename_i v _ hc
    obtain⟨n,hn⟩:=lim_iff.1 hc
    exact⟨n,by unfold callW;simp only[hd,if_true,hn];exact h⟩
   ·cases h
  ·rename_i hd
   obtain⟨m,hm⟩:=callE_lim h
   exact⟨m,by unfold callW;simp only[hd,if_false];exact hm⟩
 ·cases h
theorem opStep_lim{op:AOp}{T:Env}{H:Heap}{out:Out}(h:opStep (lim cfg) op T H=some out):∃n,opStep (callN cfg n) op T H=some out:=by
 cases op with
 |call f xs=>exact callV_lim h
 |callM f xs=>exact callW_lim h
 |_=>exact⟨0,h⟩
theorem runOps_lim:∀{ops:List AOper}{T:Env}{H:Heap}{out:OutE},runOps (lim cfg) ops T H=some out→∃n,runOps (callN cfg n) ops T H=some out
 |[],T,H,out,h=>⟨0,h⟩
 |o::ops,T,H,out,h=>by
  simp only[runOps]at h
  split at h
  ·rename_i hw
   split at h
   ·rename_i v H' ho
    obtain⟨n,hn⟩:=opStep_lim ho
    obtain⟨m,hm⟩:=runOps_lim h
    refine⟨max n m,?_⟩
    simp only[runOps,hw,opStep_mono (callN_le cfg (Nat.le_max_left n m)) hn]
    exact runOps_mono (callN_le cfg (Nat.le_max_right n m)) hm
   ·rename_i v H' ho
    obtain⟨n,hn⟩:=opStep_lim ho
    exact⟨n,by simp only[runOps,hw,hn];exact h⟩
   ·cases h
  ·rename_i hw
   obtain⟨m,hm⟩:=runOps_lim h
   exact⟨m,by simp only[runOps,hw];exact hm⟩
  ·cases h
theorem callD_lim{fv:AV}{xs:List AV}{H:Heap}{out:Out}(h:callD (lim cfg) fv xs H=some out):∃n,callD (callN cfg n) fv xs H=some out:=by
 unfold callD at h
 split at h
 ·split at h
  ·rename_i hd
   split at h
   ·rename_i v _ hc;obtain⟨n,hn⟩:=lim_iff.1 hc;exact⟨n,by unfold callD;simp only[hd,if_true,hn];exact h⟩
   ·rename_i v _ hc;obtain⟨n,hn⟩:=lim_iff.1 hc;exact⟨n,by unfold callD;simp only[hd,if_true,hn];exact h⟩
   ·cases h
  ·rename_i hd
   obtain⟨v,h1,rfl⟩:=calm_some h
   obtain⟨n,hn⟩:=callE_lim h1
   exact⟨n,by unfold callD;simp only[hd,if_false,hn];exact calm_val⟩
 ·cases h
theorem callDW_lim{fv:AV}{xs:List AV}{H:Heap}{out:Out}(h:callDW (lim cfg) fv xs H=some out):∃n,callDW (callN cfg n) fv xs H=some out:=by
 unfold callDW at h
 split at h
 ·split at h
  ·rename_i hd
   split at h
   ·rename_i v _ hc;obtain⟨n,hn⟩:=lim_iff.1 hc;exact⟨n,by unfold callDW;simp only[hd,if_true,hn];exact h⟩
   ·rename_i v _ hc;obtain⟨n,hn⟩:=lim_iff.1 hc;exact⟨n,by unfold callDW;simp only[hd,if_true,hn];exact h⟩
   ·cases h
  ·rename_i hd
   obtain⟨v,h1,rfl⟩:=calm_some h
   obtain⟨n,hn⟩:=callE_lim h1
   exact⟨n,by unfold callDW;simp only[hd,if_false,hn];exact calm_val⟩
 ·cases h
theorem opStepD_lim{op:AOp}{T:Env}{H:Heap}{out:Out}(h:opStepD (lim cfg) op T H=some out):∃n,opStepD (callN cfg n) op T H=some out:=by
 cases op with
 |call f xs=>exact callD_lim h
 |callM f xs=>exact callDW_lim h
 |_=>exact⟨0,h⟩
theorem runD_lim:∀{ops:List AOper}{i:Nat}{p:Option (Nat×AV)}{T:Env}{H:Heap}{out:OutE},runD (lim cfg) i ops p T H=some out→∃n,runD (callN cfg n) i ops p T H=some out
 |[],i,none,T,H,out,h=>⟨0,h⟩
 |[],i,some _,T,H,out,h=>⟨0,h⟩
 |o::ops,i,none,T,H,out,h=>by
  simp only[runD]at h
  split at h
  ·rename_i hw
   split at h
   ·rename_i v H' ho
    obtain⟨n,hn⟩:=opStepD_lim ho
    obtain⟨m,hm⟩:=runD_lim h
    refine⟨max n m,?_⟩
    simp only[runD,hw,opStepD_mono (callN_le cfg (Nat.le_max_left n m)) hn]
    exact runD_mono (callN_le cfg (Nat.le_max_right n m)) hm
   ·rename_i v H' ho
    obtain⟨n,hn⟩:=opStepD_lim ho
    obtain⟨m,hm⟩:=runD_lim h
    refine⟨max n m,?_⟩
    simp only[runD,hw,opStepD_mono (callN_le cfg (Nat.le_max_left n m)) hn]
    exact runD_mono (callN_le cfg (Nat.le_max_right n m)) hm
   ·cases h
  ·rename_i hw
   obtain⟨m,hm⟩:=runD_lim h
   exact⟨m,by simp only[runD,hw];exact hm⟩
  ·cases h
 |o::ops,i,some (p,x),T,H,out,h=>by
  simp only[runD]at h
  split at h
  ·rename_i hd
   obtain⟨m,hm⟩:=runD_lim h
   exact⟨m,by simp only[runD,hd,if_true];exact hm⟩
  ·rename_i hd
   split at h
   ·rename_i hw
    split at h
    ·rename_i v H' ho
     obtain⟨n,hn⟩:=opStepD_lim ho
     obtain⟨m,hm⟩:=runD_lim h
     refine⟨max n m,?_⟩
     simp only[runD,hd,if_false,hw,opStepD_mono (callN_le cfg (Nat.le_max_left n m)) hn]
     exact runD_mono (callN_le cfg (Nat.le_max_right n m)) hm
    ·cases h
   ·rename_i hw
    obtain⟨m,hm⟩:=runD_lim h
    exact⟨m,by simp only[runD,hd,if_false,hw];exact hm⟩
   ·cases h
theorem regionA_lim{d:Bool}{ops:List AOper}{T:Env}{H:Heap}{out:OutE}(h:regionA (lim cfg) d ops T H=some out):∃n,regionA (callN cfg n) d ops T H=some out:=by
 cases d with
 |true=>exact runD_lim h
 |false=>exact runOps_lim h
theorem rangeA_lim{fv A T ps a b H r}(h:rangeA (lim cfg) fv A T ps a b H=some r):∃n,rangeA (callN cfg n) fv A T ps a b H=some r:=by
 obtain⟨g,caps,rfl,⟨v,H3,H4,h1,h2,rfl⟩|⟨v,H3,H4,h1,h2,h3,rfl⟩⟩:=rangeA_inv h
 ·obtain⟨n,hn⟩:=callV_lim h1;exact⟨n,rangeA_val hn h2⟩
 ·obtain⟨n,hn⟩:=callV_lim h1;exact⟨n,rangeA_pan hn h2 h3⟩
theorem run_lim {A : AFunc} : ∀ (n : Nat) (k : List AIt) (T : Env) (H : Heap) (r : ARes × Heap), run (lim cfg) A n k T H = some r → ∃ m, run (callN cfg m) A m k T H = some r := by
  intro n
  induction n with
  | zero => intro k T H r e; cases k <;> simp [run] at e
  | succ n ih =>
    intro k T H r e
    -- one step, and what is behind it
    have step : ∀ k' T' H', run (lim cfg) A n k' T' H' = some r → (∀ m, run (callN cfg m) A m k' T' H' = some r → ∃ j, m ≤ j ∧ run (callN cfg j) A (j + 1) k T H = some r) → ∃ m, run (callN cfg m) A m k T H = some r := by
      intro k' T' H' h1 h2
      obtain ⟨m, hm⟩ := ih _ _ _ _ h1
      obtain ⟨j, _, hj⟩ := h2 m hm
      exact ⟨j + 1, run_mono (callN_mono cfg j) A _ _ _ _ _ _ (Nat.le_refl _) hj⟩
    cases k with
    | nil => exact ⟨1, e⟩
    | cons it k =>
      cases it with
      | blk id => exact step _ _ _ e fun m hm => ⟨m, Nat.le_refl _, hm⟩
      | lp b => exact step _ _ _ e fun m hm => ⟨m, Nat.le_refl _, hm⟩
      | beg l =>
        simp only [run] at e
        split at e
        · rename_i r0 hr0
          split at e
          · cases e
          · rename_i hb
            exact step _ _ _ e fun m hm => ⟨m, Nat.le_refl _, by simp only [run, hr0, hb, Bool.false_eq_true, if_false]; exact hm⟩
        · cases e
      | c c0 =>
        cases c0 with
        | skip => exact step _ _ _ e fun m hm => ⟨m, Nat.le_refl _, hm⟩
        | seq a b => exact step _ _ _ e fun m hm => ⟨m, Nat.le_refl _, hm⟩
        | cond x a b =>
          simp only [run] at e
          split at e
          · rename_i t ht
            exact step _ _ _ e fun m hm => ⟨m, Nat.le_refl _, by simp only [run, ht]; exact hm⟩
          · cases e
        | block id b => exact step _ _ _ e fun m hm => ⟨m, Nat.le_refl _, hm⟩
        | loop b => exact step _ _ _ e fun m hm => ⟨m, Nat.le_refl _, hm⟩
        | exit id =>
          simp only [run] at e
          split at e
          · rename_i k' hk'
            exact step _ _ _ e fun m hm => ⟨m, Nat.le_refl _, by simp only [run, hk']; exact hm⟩
          · cases e
        | ret => exact ⟨1, e⟩
        | region ops d =>
          simp only [run] at e
          split at e
          · rename_i T' H' hr
            obtain ⟨q, hq⟩ := regionA_lim hr
            refine step _ _ _ e fun m hm => ⟨max m q, Nat.le_max_left _ _, ?_⟩
            simp only [run, regionA_mono (callN_le cfg (Nat.le_max_right m q)) hq]
            exact run_mono (callN_le cfg (Nat.le_max_left m q)) A _ _ _ _ _ _ (Nat.le_max_left m q) hm
          · rename_i v H' hr
            obtain ⟨q, hq⟩ := regionA_lim hr
            refine ⟨q + 1, ?_⟩
            simp only [run, regionA_mono (callN_mono cfg q) hq]
            exact e
          · cases e
        | range f ps a b =>
          simp only [run] at e
          split at e
          · cases e
          · rename_i hro
            split at e
            · rename_i H' hr
              obtain ⟨q, hq⟩ := rangeA_lim hr
              refine step _ _ _ e fun m hm => ⟨max m q, Nat.le_max_left _ _, ?_⟩
              simp only [run, hro, rangeA_mono (callN_le cfg (Nat.le_max_right m q)) hq]
              exact run_mono (callN_le cfg (Nat.le_max_left m q)) A _ _ _ _ _ _ (Nat.le_max_left m q) hm
            · rename_i v H' hr
              obtain ⟨q, hq⟩ := rangeA_lim hr
              refine ⟨q + 1, ?_⟩
              simp only [run, hro, rangeA_mono (callN_mono cfg q) hq]
              exact e
            · cases e

theorem opt_ext{α:Type}{x y:Option α}(h:∀r,x=some r↔y=some r):x=y:=by
 cases x with
 |some a=>exact((h a).1 rfl).symm
 |none=>
  cases y with
  |none=>rfl
  |some b=>exact(h b).2 rfl
theorem lim_fn{f:FuncId}{A:AFunc}(ht:cfg.tryF f=false)(hx:cfg.ext f=none)(hA:cfg.F f=some A)(xs:List AV)(H:Heap):lim cfg (.fn f) xs H=runL cfg A [.c A.body] (initEnv xs) H:=by
 refine opt_ext fun r=> ?_
 rw[lim_iff,runL_iff]
 constructor
 ·rintro⟨n,h⟩
  cases n with
  |zero=>simp[callN]at h
  |succ n=>
   rw[callN]at h
   simp only[ht,Bool.false_eq_true,if_false,hx,hA]at h
   exact⟨n,run_mono (le_lim cfg n) A _ _ _ _ _ _ (Nat.le_refl _) h⟩
 ·rintro⟨n,h⟩
  obtain⟨m,hm⟩:=run_lim _ _ _ _ _ h
  refine⟨m+1,?_⟩
  rw[callN]
  simp only[ht,Bool.false_eq_true,if_false,hx,hA]
  exact hm
theorem lim_ext{f:FuncId}{g:List AV→Heap→Option (AV×Heap)}(ht:cfg.tryF f=false)(hx:cfg.ext f=some g)(xs:List AV)(H:Heap):lim cfg (.fn f) xs H=(g xs H).map fun r=>(.ret r.1,r.2):=by
 refine opt_ext fun r=> ?_
 rw[lim_iff]
 constructor
 ·rintro⟨n,h⟩
  cases n with
  |zero=>simp[callN]at h
  |succ n=>
   rw[callN]at h
   simp only[ht,Bool.false_eq_true,if_false,hx]at h
   cases hg:g xs H with
   |none=>rw[hg]at h;cases h
   |some x=>rw[hg]at h;simpa using h
 ·intro h
  refine⟨1,?_⟩
  rw[callN]
  simp only[ht,Bool.false_eq_true,if_false,hx]
  cases hg:g xs H with
  |none=>rw[hg]at h;cases h
  |some x=>rw[hg]at h;simpa using h
theorem lim_of{n:Nat}{k:Key}{xs:List AV}{H:Heap}{r:ARes×Heap}(h:callN cfg n k xs H=some r):lim cfg k xs H=some r:=lim_iff.2 ⟨n,h⟩
variable{A:AFunc}{k:List AIt}{T:Env}{H:Heap}
theorem runL_step{it:AIt}{k':List AIt}{T':Env}{H':Heap}(h:∀n,run (lim cfg) A (n+1) (it::k) T H=run (lim cfg) A n k' T' H'):runL cfg A (it::k) T H=runL cfg A k' T' H':=by
 refine opt_ext fun r=> ?_
 rw[runL_iff,runL_iff]
 constructor
 ·rintro⟨n,e⟩
  cases n with
  |zero=>simp[run]at e
  |succ n=>exact⟨n,by rw[←h];exact e⟩
 ·rintro⟨n,e⟩
  exact⟨n+1,by rw[h];exact e⟩
theorem runL_now{ks:List AIt}{x:Option (ARes×Heap)}(h:∀n,run (lim cfg) A (n+1) ks T H=x):runL cfg A ks T H=x:=by
 refine opt_ext fun r=> ?_
 rw[runL_iff]
 constructor
 ·rintro⟨n,e⟩
  cases n with
  |zero=>cases ks<;>simp[run]at e
  |succ n=>rw[h]at e;exact e
 ·intro e;exact⟨1,by rw[h];exact e⟩
theorem runL_nil:runL cfg A [] T H=retA A T H:=runL_now fun n=>rfl
theorem runL_blk{id:Nat}:runL cfg A (.blk id::k) T H=runL cfg A k T H:=runL_step fun n=>rfl
theorem runL_lp{b:ACode}:runL cfg A (.lp b::k) T H=runL cfg A (.c b::.lp b::k) T H:=runL_step fun n=>rfl
theorem runL_skip:runL cfg A (.c .skip::k) T H=runL cfg A k T H:=runL_step fun n=>rfl
theorem runL_seq{a b:ACode}:runL cfg A (.c (.seq a b)::k) T H=runL cfg A (.c a::.c b::k) T H:=runL_step fun n=>rfl
theorem runL_block{id:Nat}{b:ACode}:runL cfg A (.c (.block id b)::k) T H=runL cfg A (.c b::.blk id::k) T H:=runL_step fun n=>rfl
theorem runL_loop{b:ACode}:runL cfg A (.c (.loop b)::k) T H=runL cfg A (.lp b::k) T H:=by
 rw[runL_lp];exact runL_step fun n=>rfl
theorem runL_ret:runL cfg A (.c .ret::k) T H=if A.round then none else retA A T H:=runL_now fun n=>rfl
theorem runL_cond{x:Opd}{a b:ACode}:runL cfg A (.c (.cond x a b)::k) T H=match ev T x with|.bool t=>runL cfg A (.c (if t then a else b)::k) T H|_=>none:=by
 cases hx:ev T x with
 |bool t=>exact runL_step fun n=>by simp only[run,hx]
 |_=>exact runL_now fun n=>by simp only[run,hx]
theorem runL_exit{id:Nat}:runL cfg A (.c (.exit id)::k) T H=match exitA id k with|some k'=>runL cfg A k' T H|none=>none:=by
 cases hx:exitA id k with
 |some k'=>exact runL_step fun n=>by simp only[run,hx]
 |none=>exact runL_now fun n=>by simp only[run,hx]
theorem runL_region{ops:List AOper}{d:Bool}:runL cfg A (.c (.region ops d)::k) T H=match regionA (lim cfg) d ops T H with|some (.env T' H')=>runL cfg A k T' H'|some (.pan v H')=>some (.pan v,H')|none=>none:=by
 cases hx:regionA (lim cfg) d ops T H with
 |none=>exact runL_now fun n=>by simp only[run,hx]
 |some o=>
  cases o with
  |env T' H'=>exact runL_step fun n=>by simp only[run,hx]
  |pan v H'=>exact runL_now fun n=>by simp only[run,hx]
end
theorem callV_func{call:CallF}{g:FuncId}{caps args:List AV}{H:Heap}:callV call (.func g caps) args H=bif(args.all isData&&caps.all data0)then(match call (.fn g) (args++caps) Heap.nil with
 |some (.ret v,H1)=>match dataOut H1 v with
  |some u=>some (.val u H)
  |none=>callE call g (args++caps) H
 |some (.pan v,_)=>bif isData v then some (.pan v H)else none
 |none=>none)else callE call g (args++caps) H:=by
 simp only[callV]
 cases(args.all isData&&caps.all data0)with
 |false=>rfl
 |true=>
  simp only[if_true,cond_true]
  cases call (.fn g) (args++caps) Heap.nil with
  |none=>rfl
  |some r=>
   obtain⟨r1,r2⟩:=r
   cases r1 with
   |ret v=>rfl
   |pan v=>simp only;cases isData v<;>rfl
theorem callD_func{call:CallF}{g:FuncId}{caps args:List AV}{H:Heap}:callD call (.func g caps) args H=bif(args.all isData&&caps.all data0)then(match call (.fn g) (args++caps) Heap.nil with
 |some (.ret v,H1)=>match dataOut H1 v with
  |some u=>some (.val u H)
  |none=>none
 |some (.pan v,_)=>bif isData v then some (.pan v H)else none
 |none=>none)else calm H (callE call g (args++caps) H):=by
 simp only[callD]
 cases(args.all isData&&caps.all data0)with
 |false=>rfl
 |true=>
  simp only[if_true,cond_true]
  cases call (.fn g) (args++caps) Heap.nil with
  |none=>rfl
  |some r=>
   obtain⟨r1,r2⟩:=r
   cases r1 with
   |ret v=>rfl
   |pan v=>simp only;cases isData v<;>rfl
theorem dataOut_of{H:Heap}{v w:AV}(h:shutA v=w∧isData w=true):dataOut H v=some w:=by
 unfold dataOut
 rw[h.1,if_pos h.2]
end Go.Aa
set_option linter.unusedVariables false
set_option linter.unusedSimpArgs false
namespace Go.Aa
def NN(b:Nat):Prop:=(FloatKind.f64.format.read b).isNaN=false
def rank(b:Nat):Int:=if b/9223372036854775808%2=1 then-(b%9223372036854775808:Nat)else(b%9223372036854775808:Nat)
def worth(r:Nat):Nat:=if r<4503599627370496 then r else(4503599627370496+r%4503599627370496)*2^(r/4503599627370496-1)
theorem worth_lt{r s:Nat}(h:r<s):worth r<worth s:=by
 unfold worth
 by_cases hr:r<4503599627370496
 ·rw[if_pos hr]
  by_cases hs:s<4503599627370496
  ·rw[if_pos hs];exact h
  ·rw[if_neg hs]
   have h1:0<2^(s/4503599627370496-1):=Nat.two_pow_pos _
   have h2:=Nat.mul_le_mul (Nat.le_refl (4503599627370496+s%4503599627370496)) (show 1≤2^(s/4503599627370496-1)from h1)
   omega
 ·rw[if_neg hr,if_neg (show¬s<4503599627370496 by omega)]
  have hq:r/4503599627370496≤s/4503599627370496:=Nat.div_le_div_right (by omega)
  have hr1:1≤r/4503599627370496:=by omega
  rcases Nat.lt_or_ge (r/4503599627370496) (s/4503599627370496)with hlt|hge
  ·have e1:(4503599627370496+r%4503599627370496)*2^(r/4503599627370496-1)<9007199254740992*2^(r/4503599627370496-1):=
    Nat.mul_lt_mul_of_pos_right (by omega) (Nat.two_pow_pos _)
   have e2:9007199254740992*2^(r/4503599627370496-1)=4503599627370496*2^(r/4503599627370496):=by
    obtain⟨q,hq'⟩:∃q,r/4503599627370496=q+1:=⟨r/4503599627370496-1,by omega⟩
    rw[hq',Nat.add_sub_cancel,Nat.pow_succ]
    omega
   have e3:2^(r/4503599627370496)≤2^(s/4503599627370496-1):=Nat.pow_le_pow_right (by omega) (by omega)
   have e4:4503599627370496*2^(r/4503599627370496)≤(4503599627370496+s%4503599627370496)*2^(s/4503599627370496-1):=Nat.mul_le_mul (by omega) e3
   omega
  ·have he:s/4503599627370496=r/4503599627370496:=by omega
   rw[he]
   exact Nat.mul_lt_mul_of_pos_right (by omega) (Nat.two_pow_pos _)
theorem compare_worth(s t:Bool)(a b:Nat):compare (if s then-(worth a:Int)else worth a) (if t then-(worth b:Int)else worth b)=compare (if s then-(a:Int)else a) (if t then-(b:Int)else b):=by
 have w0:worth 0=0:=rfl
 have wp:∀x,0<x→0<worth x:=fun x hx=>by have:=worth_lt hx;rw[w0]at this;exact this
 have key:∀x y u v:Int,(x<y↔u<v)→(y<x↔v<u)→compare x y=compare u v:=by
  intro x y u v h1 h2
  simp only[compare,compareOfLessAndEq]
  by_cases hxy:x<y
  ·rw[if_pos hxy,if_pos (h1.1 hxy)]
  ·rw[if_neg hxy,if_neg (fun h=>hxy (h1.2 h))]
   by_cases he:x=y
   ·rw[if_pos he,if_pos (by
     have a1:¬u<v:=fun h=>hxy (h1.2 h)
     have a2:¬v<u:=fun h=>by have:=h2.2 h;omega
     omega)]
   ·rw[if_neg he,if_neg (fun h=>by
     have a1:y<x:=by omega
     have:=h2.1 a1
     omega)]
 rcases Nat.lt_trichotomy a b with h|h|h
 ·have hw:=worth_lt h
  rcases Nat.eq_zero_or_pos a with ha|ha
  ·subst ha
   have:=wp b h
   rw[w0]at hw⊢
   cases s<;>cases t<;>refine key _ _ _ _ ?_ ?_<;>simp<;>omega
  ·have h1:=wp a ha
   cases s<;>cases t<;>refine key _ _ _ _ ?_ ?_<;>simp<;>omega
 ·subst h
  rcases Nat.eq_zero_or_pos a with ha|ha
  ·subst ha;rw[w0]
  ·have h1:=wp a ha
   cases s<;>cases t<;>refine key _ _ _ _ ?_ ?_<;>simp<;>omega
 ·have hw:=worth_lt h
  rcases Nat.eq_zero_or_pos b with hb|hb
  ·subst hb
   have:=wp a h
   rw[w0]at hw⊢
   cases s<;>cases t<;>refine key _ _ _ _ ?_ ?_<;>simp<;>omega
  ·have h1:=wp b hb
   cases s<;>cases t<;>refine key _ _ _ _ ?_ ?_<;>simp<;>omega
theorem signed_eq(s:Bool)(m k:Nat):Ieee.signed s m k=if s then-((m*2^k:Nat):Int)else((m*2^k:Nat):Int):=by
 unfold Ieee.signed
 rw[Nat.shiftLeft_eq]
theorem compare_scale(x y:Int)(k:Nat):compare (x*2^k) (y*2^k)=compare x y:=by
 have hp:(0:Int)<2^k:=by exact_mod_cast Nat.two_pow_pos k
 simp only[compare,compareOfLessAndEq]
 have h1:x*2^k<y*2^k↔x<y:=Int.mul_lt_mul_right hp
 have h2:x*2^k=y*2^k↔x=y:=⟨fun h=>Int.eq_of_mul_eq_mul_right (by omega) h,fun h=>by rw[h]⟩
 simp only[h1,h2]
theorem compare_signed(s t:Bool)(m n i j:Nat):compare (Ieee.signed s m (i-min i j)) (Ieee.signed t n (j-min i j))=
 compare (if s then-((m*2^i:Nat):Int)else((m*2^i:Nat):Int)) (if t then-((n*2^j:Nat):Int)else((n*2^j:Nat):Int)):=by
 rw[←compare_scale _ _ (min i j),signed_eq,signed_eq]
 have e1:((m*2^(i-min i j):Nat):Int)*2^(min i j)=((m*2^i:Nat):Int):=by
  have:m*2^(i-min i j)*2^(min i j)=m*2^i:=by
   rw[Nat.mul_assoc,←Nat.pow_add,Nat.sub_add_cancel (Nat.min_le_left _ _)]
  rw[←this];push_cast;rfl
 have e2:((n*2^(j-min i j):Nat):Int)*2^(min i j)=((n*2^j:Nat):Int):=by
  have:n*2^(j-min i j)*2^(min i j)=n*2^j:=by
   rw[Nat.mul_assoc,←Nat.pow_add,Nat.sub_add_cancel (Nat.min_le_right _ _)]
  rw[←this];push_cast;rfl
 congr 1
 ·cases s
  ·simp only[Bool.false_eq_true,if_false];exact e1
  ·simp only[if_true];rw[Int.neg_mul,e1]
 ·cases t
  ·simp only[Bool.false_eq_true,if_false];exact e2
  ·simp only[if_true];rw[Int.neg_mul,e2]
inductive Reads(b:Nat):Prop
 |number(m k:Nat)(h:FloatKind.f64.format.read b=.number (decide (b/9223372036854775808%2=1)) m (-1074+(k:Int)))(hw:m*2^k=worth (b%9223372036854775808))(hlt:b%9223372036854775808<9218868437227405312)
 |inf(h:FloatKind.f64.format.read b=.infinity (decide (b/9223372036854775808%2=1)))(he:b%9223372036854775808=9218868437227405312)
 |nan(s:Bool)(x:Nat)(h:FloatKind.f64.format.read b=.nan s x)(hgt:9218868437227405312<b%9223372036854775808)
theorem reads(b:Nat):Reads b:=by
 have e1:FloatKind.f64.format.signWeight=9223372036854775808:=rfl
 have e2:FloatKind.f64.format.binade=4503599627370496:=rfl
 have e3:FloatKind.f64.format.infRung=9218868437227405312:=rfl
 have e4:FloatKind.f64.format.leastPlace= -1074:=rfl
 have es:(b/9223372036854775808%2==1)=decide (b/9223372036854775808%2=1):=by
  by_cases h:b/9223372036854775808%2=1<;>simp[h]
 by_cases h1:b%9223372036854775808<4503599627370496
 ·refine .number (b%9223372036854775808) 0 ?_ ?_ (by omega)
  ·unfold Ieee.Format.read
   simp only[e1,e2,e3,e4,es]
   rw[if_pos h1]
   simp
  ·unfold worth;rw[if_pos h1];simp
 ·by_cases h2:b%9223372036854775808<9218868437227405312
  ·refine .number (4503599627370496+b%9223372036854775808%4503599627370496) (b%9223372036854775808/4503599627370496-1) ?_ ?_ h2
   ·unfold Ieee.Format.read
    simp only[e1,e2,e3,e4,es]
    rw[if_neg h1,if_pos h2]
   ·unfold worth;rw[if_neg h1]
  ·by_cases h3:b%9223372036854775808=9218868437227405312
   ·refine .inf ?_ h3
    unfold Ieee.Format.read
    simp only[e1,e2,e3,e4,es]
    rw[if_neg h1,if_neg h2,if_pos h3]
   ·refine .nan (decide (b/9223372036854775808%2=1)) (b%9223372036854775808-9218868437227405312) ?_ (by omega)
    unfold Ieee.Format.read
    simp only[e1,e2,e3,e4,es]
    rw[if_neg h1,if_neg h2,if_neg h3]
theorem NN_iff(b:Nat):NN b↔b%9223372036854775808≤9218868437227405312:=by
 unfold NN
 rcases reads b with⟨m,k,h,hw,hlt⟩|⟨h,he⟩|⟨s,x,h,hgt⟩
 ·rw[h];simp[Ieee.Datum.isNaN];omega
 ·rw[h];simp[Ieee.Datum.isNaN];omega
 ·rw[h];simp[Ieee.Datum.isNaN];omega
theorem rank_eq(b:Nat):rank b=if decide (b/9223372036854775808%2=1)then-((b%9223372036854775808:Nat):Int)else((b%9223372036854775808:Nat):Int):=by
 unfold rank
 by_cases h:b/9223372036854775808%2=1<;>simp[h]
theorem ord_rank{a b:Nat}(ha:NN a)(hb:NN b):fltOrd (some a) (some b)=some (compare (rank a) (rank b)):=by
 rw[NN_iff]at ha hb
 unfold fltOrd Ieee.Format.order
 simp only
 have cl:∀x y:Int,x<y→compare x y=.lt:=fun x y h=>by simp[compare,compareOfLessAndEq,h]
 have cg:∀x y:Int,y<x→compare x y=.gt:=fun x y h=>by
  have h1:¬x<y:=by omega
  have h2:¬x=y:=by omega
  simp[compare,compareOfLessAndEq,h1,h2]
 rcases reads a with⟨m,i,h,hw,hlt⟩|⟨h,he⟩|⟨s,x,h,hgt⟩
 ·rcases reads b with⟨n,j,h',hw',hlt'⟩|⟨h',he'⟩|⟨s',x',h',hgt'⟩
  ·rw[h,h']
   simp only[Ieee.Datum.order]
   have e1:((-1074+(i:Int))-min (-1074+(i:Int)) (-1074+(j:Int))).toNat=i-min i j:=by omega
   have e2:((-1074+(j:Int))-min (-1074+(i:Int)) (-1074+(j:Int))).toNat=j-min i j:=by omega
   rw[e1,e2,compare_signed,hw,hw',compare_worth,rank_eq,rank_eq]
  ·rw[h,h',rank_eq,rank_eq,he']
   simp only[Ieee.Datum.order]
   by_cases ht:b/9223372036854775808%2=1
   ·simp only[ht,decide_true,if_true]
    rw[cg]
    split<;>omega
   ·simp only[ht,decide_false,Bool.false_eq_true,if_false]
    rw[cl]
    split<;>omega
  ·omega
 ·rcases reads b with⟨n,j,h',hw',hlt'⟩|⟨h',he'⟩|⟨s',x',h',hgt'⟩
  ·rw[h,h',rank_eq,rank_eq,he]
   simp only[Ieee.Datum.order]
   by_cases ht:a/9223372036854775808%2=1
   ·simp only[ht,decide_true,if_true]
    rw[cl]
    split<;>omega
   ·simp only[ht,decide_false,Bool.false_eq_true,if_false]
    rw[cg]
    split<;>omega
  ·rw[h,h',rank_eq,rank_eq,he,he']
   simp only[Ieee.Datum.order]
   by_cases hs:a/9223372036854775808%2=1<;>by_cases ht:b/9223372036854775808%2=1<;>simp[hs,ht,compare,compareOfLessAndEq]
  ·omega
 ·omega
theorem cmp_lt(x y:Int):(compare x y==Ordering.lt)=decide (x<y):=by
 simp only[compare,compareOfLessAndEq]
 by_cases h:x<y
 ·simp[h]
 ·by_cases h2:x=y<;>simp[h,h2]
theorem cmp_gt(x y:Int):(compare x y==Ordering.gt)=decide (y<x):=by
 simp only[compare,compareOfLessAndEq]
 by_cases h:x<y
 ·have:¬y<x:=by omega
  simp[h,this]
 ·by_cases h2:x=y
  ·subst h2;simp
  ·have:y<x:=by omega
   simp[h,h2,this]
theorem cmp_eq(x y:Int):(compare x y==Ordering.eq)=decide (x=y):=by
 simp only[compare,compareOfLessAndEq]
 by_cases h:x<y
 ·have:¬x=y:=by omega
  simp[h,this]
 ·by_cases h2:x=y<;>simp[h,h2]
theorem sign_rank{b:Nat}(h:b<18446744073709551616):(IntKind.i64.wrap (b:Int)<0)↔b/9223372036854775808%2=1:=by
 have:IntKind.i64.wrap (b:Int)=if b<9223372036854775808 then(b:Int)else(b:Int)-18446744073709551616:=by
  have e:((b:Int)%18446744073709551616)=b:=Int.emod_eq_of_lt (by omega) (by omega)
  simp only[IntKind.wrap,IntKind.bits,IntKind.signed,Bool.true_and,show(2:Int)^64=18446744073709551616 from rfl,show(2:Int)^(64-1)=9223372036854775808 from rfl,e,decide_eq_true_eq]
  split<;>split<;>omega
 rw[this]
 split<;>omega
theorem neg_mod(b:Nat):Op.negFloat .f64 b%9223372036854775808=b%9223372036854775808:=by
 have e:Op.negFloat .f64 b=b^^^2^63:=rfl
 rw[e]
 have h:=Nat.xor_mod_two_pow (a:=b) (b:=2^63) (n:=63)
 rw[Nat.mod_self,Nat.xor_zero]at h
 exact h
theorem neg_div(b:Nat):Op.negFloat .f64 b/9223372036854775808%2=1-b/9223372036854775808%2:=by
 have e:Op.negFloat .f64 b=b^^^2^63:=rfl
 rw[e]
 have h:(b^^^2^63)/2^63=(b/2^63)^^^1:=by
  rw[←Nat.shiftRight_eq_div_pow,←Nat.shiftRight_eq_div_pow,Nat.shiftRight_xor_distrib]
  rfl
 have h2:(b^^^2^63)/9223372036854775808=(b/9223372036854775808)^^^1:=h
 rw[h2]
 generalize b/9223372036854775808=q
 have h3:=Nat.xor_mod_two_pow (a:=q) (b:=1) (n:=1)
 simp only[Nat.pow_one]at h3
 rw[h3]
 have:q%2=0∨q%2=1:=by omega
 rcases this with h|h<;>rw[h]<;>rfl
theorem rank_neg(b:Nat):rank (Op.negFloat .f64 b)= -rank b:=by
 unfold rank
 rw[neg_mod,neg_div]
 have:b/9223372036854775808%2=0∨b/9223372036854775808%2=1:=by omega
 rcases this with h|h<;>rw[h]<;>simp
theorem nn_neg{b:Nat}(h:NN b):NN (Op.negFloat .f64 b):=by
 rw[NN_iff]at h⊢
 rw[neg_mod];exact h
end Go.Aa
set_option linter.unusedVariables false
set_option linter.unusedSimpArgs false
namespace Go.Aa
inductive Sc where
 |ret(v:AV)
 |dec(b:Bool)
 |op(v:AV)(H:Heap)
 |cut
theorem upd_self{T:Env}{g:Nat}{v:AV}(h:T g=v):upd T g v=T:=by
 funext i
 rw[upd_eq]
 split
 ·rename_i e;rw[e,h]
 ·rfl
end Go.Aa
set_option linter.unusedVariables false
set_option linter.unusedSimpArgs false
namespace Go.Aa
def cl(T:Env)(x:Opd):Opd:=.c (ev T x)
def clOp(T:Env):AOp→AOp
 |.mov x=>.mov (cl T x)
 |.pick c a b=>.pick (cl T c) (cl T a) (cl T b)
 |.box x=>.box (cl T x)
 |.build z ps=>.build z (ps.map fun p=>(p.1,p.2.1,cl T p.2.2))
 |.bslice es xs=>.bslice es (xs.map (cl T))
 |.bsliceM es xs=>.bsliceM es (xs.map (cl T))
 |.makeM es b z x=>.makeM es b z (cl T x)
 |.clearM z x=>.clearM z (cl T x)
 |.callM f az=>.callM (cl T f) (az.map (cl T))
 |.appendM es b x y=>.appendM es b (cl T x) (cl T y)
 |.load a n x=>.load a n (cl T x)
 |.store n x v=>.store n (cl T x) (cl T v)
 |.nilchk x=>.nilchk (cl T x)
 |.bin o x y=>.bin o (cl T x) (cl T y)
 |.eqst g ks x y=>.eqst g ks (cl T x) (cl T y)
 |.eqb g x y=>.eqb g (cl T x) (cl T y)
 |.eqnil g k x=>.eqnil g k (cl T x)
 |.un o x=>.un o (cl T x)
 |.conv c x=>.conv c (cl T x)
 |.mkiface t x=>.mkiface t (cl T x)
 |.mkfunc f caps=>.mkfunc f (caps.map (cl T))
 |.slice es x lo hi mx=>.slice es (cl T x) (lo.map (cl T)) (hi.map (cl T)) (mx.map (cl T))
 |.fld a b x=>.fld a b (cl T x)
 |.fldv g a b x=>.fldv g a b (cl T x)
 |.idx es x i=>.idx es (cl T x) (cl T i)
 |.idxs x i=>.idxs (cl T x) (cl T i)
 |.extract x i=>.extract (cl T x) i
 |.call f az=>.call (cl T f) (az.map (cl T))
 |.len s x=>.len s (cl T x)
 |.append es b x y=>.append es b (cl T x) (cl T y)
 |.mm m x y=>.mm m (cl T x) (cl T y)
 |.panic x=>.panic (cl T x)
theorem ev_cl(T T':Env)(x:Opd):ev T' (cl T x)=ev T x:=rfl
theorem evs_cl(T T':Env)(xs:List Opd):(xs.map (cl T)).map (ev T')=xs.map (ev T):=by
 rw[List.map_map];exact List.map_congr_left fun a _=>rfl
theorem evo_cl(T T':Env)(x:Option Opd):(x.map (cl T)).map (ev T')=x.map (ev T):=by cases x<;>rfl
theorem cl_pure(T T':Env)(op:AOp):pureOp (clOp T op) T'=pureOp op T:=by
 cases op with
 |build z ps=>simp only[clOp,pureOp,List.map_map,Function.comp_def,ev_cl]
 |bslice es xs=>simp only[clOp,pureOp,List.map_map,Function.comp_def,ev_cl]
 |mkfunc f caps=>simp only[clOp,pureOp,evs_cl]
 |slice es x lo hi mx=>simp only[clOp,pureOp,evo_cl,ev_cl]
 |_=>rfl
theorem cl_step(call:CallF)(T T':Env)(op:AOp)(H:Heap):opStep call (clOp T op) T' H=opStep call op T H:=by
 cases op with
 |build z ps=>exact congrArg (fun x=>match x with|some v=>some (Out.val v H)|none=>none) (cl_pure T T' (.build z ps))
 |bslice es xs=>exact congrArg (fun x=>match x with|some v=>some (Out.val v H)|none=>none) (cl_pure T T' (.bslice es xs))
 |mkfunc f caps=>exact congrArg (fun x=>match x with|some v=>some (Out.val v H)|none=>none) (cl_pure T T' (.mkfunc f caps))
 |slice es x lo hi mx=>exact congrArg (fun x=>match x with|some v=>some (Out.val v H)|none=>none) (cl_pure T T' (.slice es x lo hi mx))
 |call f az=>
  simp only[clOp,opStep,ev_cl,List.map_map]
  congr 1
 |callM f az=>
  simp only[clOp,opStep,ev_cl,List.map_map]
  congr 1
 |bsliceM es xs=>
  simp only[clOp,opStep,List.map_map]
  rfl
 |_=>rfl
theorem cl_stepD(call:CallF)(T T':Env)(op:AOp)(H:Heap):opStepD call (clOp T op) T' H=opStepD call op T H:=by
 cases op with
 |call f az=>
  simp only[clOp,opStepD,ev_cl,List.map_map]
  congr 1
 |callM f az=>
  simp only[clOp,opStepD,ev_cl,List.map_map]
  congr 1
 |bsliceM es xs=>exact cl_step call T T' (.bsliceM es xs) H
 |mov x=>exact cl_step call T T' (.mov x) H
 |pick a b c=>exact cl_step call T T' (.pick a b c) H
 |box x=>exact cl_step call T T' (.box x) H
 |build z ps=>exact cl_step call T T' (.build z ps) H
 |bslice es xs=>exact cl_step call T T' (.bslice es xs) H
 |mkfunc f caps=>exact cl_step call T T' (.mkfunc f caps) H
 |slice es x lo hi mx=>exact cl_step call T T' (.slice es x lo hi mx) H
 |_=>rfl
def binNo:BinOp→Nat
 |.add=>1|.sub=>2|.mul=>3|.quo=>4|.rem=>5|.eql=>6|.neq=>7|.lss=>8|.leq=>9|.gtr=>10|.geq=>11|_=>12
def tag:AOp→Nat
 |.mov _=>1|.pick .. =>2|.box _=>3|.build .. =>4|.bslice .. =>5|.load .. =>6|.store .. =>7|.nilchk _=>8|.eqst .. =>9|.eqb .. =>10|.eqnil .. =>11
 |.un .. =>12|.conv .. =>13|.mkiface .. =>14|.mkfunc .. =>15|.slice .. =>16|.fld .. =>17|.fldv .. =>18|.idx .. =>19|.idxs .. =>20|.extract .. =>21
 |.call .. =>22|.len .. =>23|.append .. =>24|.mm .. =>25|.panic _=>26
 |.bsliceM .. =>27|.appendM .. =>28|.makeM .. =>29|.clearM .. =>30|.callM .. =>31
 |.bin o _ _=>100+binNo o
def isMust(o:AOp):Bool:=match o with
 |.call .. |.idx .. |.idxs .. |.slice .. |.append .. |.panic _|.appendM .. |.makeM .. |.clearM .. |.callM .. =>true
 |_=>false
def isCall(o:AOp):Bool:=match o with
 |.call .. =>true
 |.callM .. =>true
 |_=>false
theorem stepD_of{call:CallF}{o:AOp}(h:isCall o=false)(T:Env)(H:Heap):opStepD call o T H=opStep call o T H:=by
 cases o<;>first|rfl|cases h
def Has(T:Env):List (Nat×AV)→Prop
 |[]=>True
 |(i,v)::r=>T i=v∧Has T r
def updL(T:Env):List (Nat×AV)→Env
 |[]=>T
 |(i,v)::r=>upd (updL T r) i v
theorem updL_self{T:Env}:∀{vs:List (Nat×AV)},Has T vs→updL T vs=T
 |[],_=>rfl
 |(i,v)::r,h=>by rw[updL,updL_self h.2];exact upd_self h.1
theorem has_of{T:Env}:∀{vs:List (Nat×AV)},vs.map (fun p=>T p.1)=vs.map (fun p=>p.2)→Has T vs
 |[],_=>trivial
 |(i,v)::r,h=>by
  simp only[List.map_cons,List.cons.injEq]at h
  exact⟨h.1,has_of h.2⟩
inductive ScrQ(cfg:Cfg)(A:AFunc)(R:ARes×Heap→Prop)where
 |fin(r:ARes×Heap)(h:R r)
 |dec(b p:Bool)(h:p=b)(s:ScrQ cfg A R)
 |op(o:AOp)(v:AV)(h:∀T H,opStepD (lim cfg) o T H=some (.val v H))(s:ScrQ cfg A R)
 |eff(o:AOp)(H:Heap)(v:AV)(H':Heap)(h:∀T,opStep (lim cfg) o T H=some (.val v H'))(s:ScrQ cfg A R)
 |pan(o:AOp)(H:Heap)(v:AV)(H':Heap)(h:∀T,opStepD (lim cfg) o T H=some (.pan v H'))(hq:R (.pan v,H'))
 |panE(o:AOp)(H:Heap)(v:AV)(H':Heap)(h:∀T,opStep (lim cfg) o T H=some (.pan v H'))(hq:R (.pan v,H'))
 |cutQ(k:List AIt)(vs:List (Nat×AV))(H:Heap)(h:∀T,Has T vs→∃r,runL cfg A k T H=some r∧R r)
 |split(p:Prop)(s1:p→ScrQ cfg A R)(s2:¬p→ScrQ cfg A R)
 |effS(o:AOp)(H:Heap)(v:AV)(h:∀T,opStepD (lim cfg) o T H=some (.val v H))(s:ScrQ cfg A R)
abbrev Scr(cfg:Cfg)(A:AFunc)(r:ARes×Heap):=ScrQ cfg A (fun x=>x=r)
inductive Chk where
 |av(x:AV)(c:Chk)
 |op(o:AOp)(c:Chk)
 |eff(o:AOp)(H:Heap)(c:Chk)
 |pan(o:AOp)(H:Heap)
 |cut(k:List AIt)(vs:List AV)(H:Heap)
 |res(r:Option (ARes×Heap))
 |want(o:AOp)(H:Heap)
 |wantB(x:AV)
 |stuck
 |split(p:Prop)(f:p→Chk)(g:¬p→Chk)
section
variable{cfg:Cfg}{A:AFunc}{R:ARes×Heap→Prop}
def claims:ScrQ cfg A R→Chk
 |.fin r h=>.res (some r)
 |.dec b p h s=>.av (.bool p) (claims s)
 |.op o v h s=>.op o (claims s)
 |.eff o H v H' h s=>.eff o H (claims s)
 |.effS o H v h s=>.eff o H (claims s)
 |.pan o H v H' h hq=>.pan o H
 |.panE o H v H' h hq=>.pan o H
 |.cutQ k vs H h=>.cut k (vs.map fun p=>p.2) H
 |.split p s1 s2=>.split p (fun h=>claims (s1 h)) (fun h=>claims (s2 h))
theorem claims_want(s:ScrQ cfg A R){o:AOp}{H:Heap}:claims s≠.want o H:=by cases s<;>simp[claims]
theorem claims_wantB(s:ScrQ cfg A R){x:AV}:claims s≠.wantB x:=by cases s<;>simp[claims]
theorem claims_stuck(s:ScrQ cfg A R):claims s≠.stuck:=by cases s<;>simp[claims]
def uns:ScrQ cfg A R→(ScrQ cfg A R→Chk)→Chk
 |.split p s1 s2,K=>.split p (fun h=>uns (s1 h) K) (fun h=>uns (s2 h) K)
 |.fin r h,K=>K (.fin r h)
 |.dec b p h s,K=>K (.dec b p h s)
 |.op o v h s,K=>K (.op o v h s)
 |.eff o H v H' h s,K=>K (.eff o H v H' h s)
 |.effS o H v h s,K=>K (.effS o H v h s)
 |.pan o H v H' h hq,K=>K (.pan o H v H' h hq)
 |.panE o H v H' h hq,K=>K (.panE o H v H' h hq)
 |.cutQ k vs H h,K=>K (.cutQ k vs H h)
theorem uns_sound{K:ScrQ cfg A R→Chk}:∀{s:ScrQ cfg A R},uns s K=claims s→∃s',K s'=claims s':=by
 intro s
 induction s with
 |split p s1 s2 h1 h2=>
  intro h
  simp only[uns,claims,Chk.split.injEq,heq_eq_eq,true_and]at h
  by_cases hp:p
  ·exact h1 hp (congrFun h.1 hp)
  ·exact h2 hp (congrFun h.2 hp)
 |_=>exact fun h=>⟨_,h⟩
noncomputable def auto(cfg:Cfg)(K:Env→Heap→Chk)(d:Option Nat)(o:AOp)(T:Env)(H:Heap):Chk:=
 bif isMust o then .want (clOp T o) H else match opStepD (lim cfg) o T H with
 |some (.val v H')=>K (setD T d v) H'
 |_=>.want (clOp T o) H
noncomputable def actOp(draw:Bool)(last:Heap→Bool)(K:ScrQ cfg A R→Env→Heap→Chk)(s:ScrQ cfg A R)(d:Option Nat)(o:AOp)(T:Env)(H:Heap):Chk:=
 match s with
 |.op o' v h s'=>bif tag o'==tag o then .op (clOp T o) (uns s' fun s'=>K s' (setD T d v) H)else auto cfg (K s) d o T H
 |.eff o' H0 v H' h s'=>bif tag o'==tag o then(bif draw&&isCall o then .stuck else .eff (clOp T o) H (uns s' fun s'=>K s' (setD T d v) H'))else auto cfg (K s) d o T H
 |.effS o' H0 v h s'=>bif tag o'==tag o then .eff (clOp T o) H (uns s' fun s'=>K s' (setD T d v) H)else auto cfg (K s) d o T H
 |.pan o' H0 v H' h hq=>bif tag o'==tag o then(bif draw&& !last H' then .stuck else .pan (clOp T o) H)else auto cfg (K s) d o T H
 |.panE o' H0 v H' h hq=>bif tag o'==tag o then(bif draw then .stuck else .pan (clOp T o) H)else auto cfg (K s) d o T H
 |s=>auto cfg (K s) d o T H
def quietVal(o:AOp)(T:Env)(H:Heap):Option AV:=match o with
 |.mov x=>some (ev T x)
 |.idx es x i=>idxA es (ev T x) (ev T i)
 |.idxs x i=>idxsA (ev T x) (ev T i)
 |.fld a b x=>fldA a b (ev T x)
 |.len s x=>lenA s (ev T x)
 |.bin b x y=>binA b (ev T x) (ev T y)
 |.load a n x=>loadA a n H (ev T x)
 |_=>none
theorem quiet_step{o:AOp}{T:Env}{H:Heap}{v:AV}(h:quietVal o T H=some v)(call:CallF):opStepD call o T H=some (.val v H):=by
 cases o<;>simp only[quietVal,reduceCtorEq]at h<;>simp only[opStepD,opStep,pureOp,h]
def quiet(p:Nat):List AOper→Env→Heap→Bool
 |[],_,_=>true
 |o::r,T,H=>bif o.deps.contains p then quiet p r T H else match o.guard with
  |some _=>false
  |none=>match quietVal o.op T H with
   |some v=>quiet p r (setD T o.dst v) H
   |none=>false
theorem runD_quiet{call:CallF}{p:Nat}{v:AV}:∀{ops:List AOper}(i:Nat){T:Env}{H:Heap},quiet p ops T H=true→runD call i ops (some (p,v)) T H=some (.pan v H)
 |[],_,_,_,_=>rfl
 |o::ops,i,T,H,h=>by
  unfold quiet at h
  cases hd:o.deps.contains p with
  |true=>
   rw[hd]at h
   simp only[runD,hd,if_true]
   exact runD_quiet _ h
  |false=>
   rw[hd]at h
   simp only[cond_false]at h
   split at h
   ·cases h
   ·rename_i hg
    split at h
    ·rename_i u hu
     have hw:wantedA o T=some true:=by unfold wantedA;rw[hg]
     simp only[runD,hd,hw,quiet_step hu,Bool.false_eq_true,if_false]
     exact runD_quiet _ h
    ·cases h
def lastB(i:Nat)(ops:List AOper)(T:Env)(H:Heap):Bool:=(ops.all fun o=>o.deps.contains i)||quiet i ops T H
noncomputable def actOps(draw:Bool)(Q:ScrQ cfg A R→Env→Heap→Chk):Nat→List Nat→List AOper→ScrQ cfg A R→Env→Heap→Chk
 |_,_,[],s,T,H=>Q s T H
 |i,kn,o::ops,s,T,H=>
  match o.guard with
  |none=>actOp draw (fun H'=>lastB i ops T H') (fun s T H=>actOps draw Q (i+1) kn ops s T H) s o.dst o.op T H
  |some (g,w)=>
   match T g with
   |.tuple []=>actOps draw Q (i+1) kn ops s (setD T o.dst (.tuple [])) H
   |.bool p'=>
    bif kn.contains g then bif p'==w then actOp draw (fun H'=>lastB i ops T H') (fun s T H=>actOps draw Q (i+1) kn ops s T H) s o.dst o.op T H else actOps draw Q (i+1) kn ops s (setD T o.dst (.tuple [])) H
    else
    match s with
    |.dec b p h s=>.av (.bool p') (uns s fun s=>bif b==w then actOp draw (fun H'=>lastB i ops T H') (fun s T H=>actOps draw Q (i+1) (g::kn) ops s T H) s o.dst o.op (upd T g (.bool b)) H
      else actOps draw Q (i+1) (g::kn) ops s (setD (upd T g (.bool b)) o.dst (.tuple [])) H)
    |_=>.wantB (.bool p')
   |_=>.stuck
noncomputable def acts:Nat→List AIt→ScrQ cfg A R→Env→Heap→Chk
 |0,_,_,_,_=>.stuck
 |n+1,k,s,T,H=>
  match k with
  |[]=>match s with
   |.fin _ _=>.res (retA A T H)
   |_=>.stuck
  |.blk _::k=>acts n k s T H
  |.lp b::k=>match s with
   |.cutQ k' vs H' h=>.cut (.lp b::k) (vs.map fun p=>T p.1) H
   |s=>acts n (.c b::.lp b::k) s T H
  |.beg _::k=>.stuck
  |.c c::k=>
   match c with
   |.skip=>acts n k s T H
   |.seq a b=>acts n (.c a::.c b::k) s T H
   |.cond x a b=>match s with
    |.dec t p h s=>.av (ev T x) (uns s fun s=>acts n (.c (bif t then a else b)::k) s T H)
    |_=>.wantB (ev T x)
   |.block id b=>acts n (.c b::.blk id::k) s T H
   |.loop b=>acts n (.lp b::k) s T H
   |.exit id=>match exitA id k with
    |some k'=>acts n k' s T H
    |none=>.stuck
   |.ret=>match s with
    |.fin _ _=>bif A.round then .stuck else .res (retA A T H)
    |_=>.stuck
   |.region ops draw=>bif draw then actOps true (fun s T H=>acts n k s T H) 0 [] (resv H.boxes.length ops) s T (roomH H (resvCells ops))else actOps false (fun s T H=>acts n k s T H) 0 [] ops s T H
   |.range f ps a b=>match s with
    |.cutQ k' vs H' h=>.cut (.c (.range f ps a b)::k) (vs.map fun p=>T p.1) H
    |_=>.stuck
theorem auto_sound{K:Env→Heap→Chk}{s:ScrQ cfg A R}{d:Option Nat}{o:AOp}{T:Env}{H:Heap}(h:auto cfg K d o T H=claims s):∃v H',opStepD (lim cfg) o T H=some (.val v H')∧K (setD T d v) H'=claims s:=by
 unfold auto at h
 cases hm:isMust o with
 |true=>rw[hm]at h;exact absurd h.symm (claims_want s)
 |false=>
  rw[hm]at h
  simp only[cond_false]at h
  split at h
  ·rename_i v H' ho;exact⟨v,H',ho,h⟩
  ·exact absurd h.symm (claims_want s)
def OneA(cfg:Cfg)(A:AFunc)(R:ARes×Heap→Prop)(draw:Bool)(last:Heap→Bool)(K:ScrQ cfg A R→Env→Heap→Chk)(d:Option Nat)(o:AOp)(T:Env)(H:Heap):Prop:=
 (∃v H' s',opStep (lim cfg) o T H=some (.val v H')∧(draw=true→opStepD (lim cfg) o T H=some (.val v H'))∧K s' (setD T d v) H'=claims s')∨
 (∃v H',opStep (lim cfg) o T H=some (.pan v H')∧(draw=true→opStepD (lim cfg) o T H=some (.pan v H')∧last H'=true)∧R (.pan v,H'))
theorem actOp_sound{draw:Bool}{last:Heap→Bool}{K:ScrQ cfg A R→Env→Heap→Chk}{s:ScrQ cfg A R}{d:Option Nat}{o:AOp}{T:Env}{H:Heap}(h:actOp draw last K s d o T H=claims s):OneA cfg A R draw last K d o T H:=by
 have au:auto cfg (K s) d o T H=claims s→OneA cfg A R draw last K d o T H:=fun h=>by
  obtain⟨v,H',h1,h2⟩:=auto_sound h
  exact .inl ⟨v,H',s,stepD_step h1,fun _=>h1,h2⟩
 unfold actOp at h
 split at h
 ·rename_i o' v hp s'
  cases ht:tag o'==tag o with
  |false=>rw[ht]at h;exact au h
  |true=>
   rw[ht]at h
   simp only[cond_true,claims,Chk.op.injEq]at h
   have e:opStepD (lim cfg) o T H=some (.val v H):=by
    have hh:=hp T H
    rw[←hh,←h.1,cl_stepD]
   obtain⟨s2,h2⟩:=uns_sound h.2
   exact .inl ⟨v,H,s2,stepD_step e,fun _=>e,h2⟩
 ·rename_i o' H0 v H' hp s'
  cases ht:tag o'==tag o with
  |false=>rw[ht]at h;exact au h
  |true=>
   rw[ht]at h
   simp only[cond_true]at h
   cases hd:draw&&isCall o with
   |true=>rw[hd]at h;exact absurd h.symm (claims_stuck _)
   |false=>
    rw[hd]at h
    simp only[cond_false,claims,Chk.eff.injEq]at h
    have e:opStep (lim cfg) o T H=some (.val v H'):=by
     have hh:=hp T
     rw[←hh,←h.1,h.2.1,cl_step]
    obtain⟨s2,h2⟩:=uns_sound h.2.2
    refine .inl ⟨v,H',s2,e,fun hdr=> ?_,h2⟩
    rw[hdr,Bool.true_and]at hd
    rw[stepD_of hd];exact e
 ·rename_i o' H0 v hp s'
  cases ht:tag o'==tag o with
  |false=>rw[ht]at h;exact au h
  |true=>
   rw[ht]at h
   simp only[cond_true,claims,Chk.eff.injEq]at h
   have e:opStepD (lim cfg) o T H=some (.val v H):=by
    have hh:=hp T
    rw[←h.1,←h.2.1,cl_stepD]at hh
    exact hh
   obtain⟨s2,h2⟩:=uns_sound h.2.2
   exact .inl ⟨v,H,s2,stepD_step e,fun _=>e,h2⟩
 ·rename_i o' H0 v H' hp hq
  cases ht:tag o'==tag o with
  |false=>rw[ht]at h;exact au h
  |true=>
   rw[ht]at h
   simp only[cond_true]at h
   cases hd:draw&& !last H' with
   |true=>rw[hd]at h;exact absurd h.symm (claims_stuck _)
   |false=>
    rw[hd]at h
    simp only[cond_false,claims,Chk.pan.injEq]at h
    obtain⟨hc,hc2⟩:=h
    have e:opStepD (lim cfg) o T H=some (.pan v H'):=by
     have hh:=hp T
     rw[←hh,←hc,hc2,cl_stepD]
    refine .inr ⟨v,H',stepD_step e,fun hdr=>⟨e,?_⟩,hq⟩
    rw[hdr]at hd;simpa using hd
 ·rename_i o' H0 v H' hp hq
  cases ht:tag o'==tag o with
  |false=>rw[ht]at h;exact au h
  |true=>
   rw[ht]at h
   simp only[cond_true]at h
   cases draw with
   |true=>exact absurd h.symm (claims_stuck _)
   |false=>
    simp only[cond_false,claims,Chk.pan.injEq]at h
    obtain⟨hc,hc2⟩:=h
    have e:opStep (lim cfg) o T H=some (.pan v H'):=by
     have hh:=hp T
     rw[←hh,←hc,hc2,cl_step]
    exact .inr ⟨v,H',e,(fun hdr=>by cases hdr),hq⟩
 ·exact au h
noncomputable def regI(cfg:Cfg)(draw:Bool)(i:Nat)(ops:List AOper)(T:Env)(H:Heap):Option OutE:=if draw then runD (lim cfg) i ops none T H else runOps (lim cfg) ops T H
def Comes(cfg:Cfg)(A:AFunc)(R:ARes×Heap→Prop)(draw:Bool)(Q:ScrQ cfg A R→Env→Heap→Chk)(i:Nat)(ops:List AOper)(T:Env)(H:Heap):Prop:=
 (∃s' T' H',Q s' T' H'=claims s'∧regI cfg draw i ops T H=some (.env T' H'))∨(∃v H',regI cfg draw i ops T H=some (.pan v H')∧R (.pan v,H'))
theorem runD_last0{call:CallF}{p:Nat}{v:AV}:∀{ops:List AOper}(i:Nat){T:Env}{H:Heap},(ops.all fun o=>o.deps.contains p)=true→runD call i ops (some (p,v)) T H=some (.pan v H)
 |[],_,_,_,_=>rfl
 |o::ops,i,T,H,h=>by
  rw[List.all_cons,Bool.and_eq_true]at h
  simp only[runD,h.1,if_true]
  exact runD_last0 _ h.2
theorem runD_last{call:CallF}{i:Nat}{v:AV}{ops:List AOper}{T:Env}{H:Heap}(h:lastB i ops T H=true):runD call (i+1) ops (some (i,v)) T H=some (.pan v H):=by
 unfold lastB at h
 rw[Bool.or_eq_true]at h
 rcases h with h|h
 ·exact runD_last0 _ h
 ·exact runD_quiet _ h
theorem actOps_sound{draw:Bool}{Q:ScrQ cfg A R→Env→Heap→Chk}:∀{ops:List AOper}{i:Nat}{kn:List Nat}{s:ScrQ cfg A R}{T:Env}{H:Heap},actOps draw Q i kn ops s T H=claims s→Comes cfg A R draw Q i ops T H
 |[],i,kn,s,T,H,h=>.inl ⟨s,T,H,h,by cases draw<;>rfl⟩
 |o::ops,i,kn,s,T,H,h=>by
  have key:∀kn s,wantedA o T=some true→actOp draw (fun H'=>lastB i ops T H') (fun s T H=>actOps draw Q (i+1) kn ops s T H) s o.dst o.op T H=claims s→Comes cfg A R draw Q i (o::ops) T H:=by
   intro kn s hw h
   rcases actOp_sound h with⟨v,H',s',h1,h2,h3⟩|⟨v,H',h1,h2,h3⟩
   ·rcases actOps_sound h3 with⟨s2,T2,H2,q,e⟩|⟨v2,H2,e,q⟩
    ·refine .inl ⟨s2,T2,H2,q,?_⟩
     cases draw with
     |false=>simp only[regI,runOps,hw,h1,Bool.false_eq_true,if_false]at e⊢;exact e
     |true=>simp only[regI,runD,hw,h2 rfl,if_true]at e⊢;exact e
    ·refine .inr ⟨v2,H2,?_,q⟩
     cases draw with
     |false=>simp only[regI,runOps,hw,h1,Bool.false_eq_true,if_false]at e⊢;exact e
     |true=>simp only[regI,runD,hw,h2 rfl,if_true]at e⊢;exact e
   ·refine .inr ⟨v,H',?_,h3⟩
    cases draw with
    |false=>simp only[regI,runOps,hw,h1,Bool.false_eq_true,if_false]
    |true=>
     simp only[regI,runD,hw,(h2 rfl).1,if_true]
     exact runD_last (h2 rfl).2
  have skip:∀kn s,wantedA o T=some false→actOps draw Q (i+1) kn ops s (setD T o.dst (.tuple [])) H=claims s→Comes cfg A R draw Q i (o::ops) T H:=by
   intro kn s hw h
   rcases actOps_sound h with⟨s2,T2,H2,q,e⟩|⟨v2,H2,e,q⟩
   ·refine .inl ⟨s2,T2,H2,q,?_⟩
    cases draw with
    |false=>simp only[regI,runOps,hw,Bool.false_eq_true,if_false]at e⊢;exact e
    |true=>simp only[regI,runD,hw,if_true]at e⊢;exact e
   ·refine .inr ⟨v2,H2,?_,q⟩
    cases draw with
    |false=>simp only[regI,runOps,hw,Bool.false_eq_true,if_false]at e⊢;exact e
    |true=>simp only[regI,runD,hw,if_true]at e⊢;exact e
  simp only[actOps]at h
  split at h
  ·rename_i hg
   exact key _ s (by unfold wantedA;rw[hg]) h
  ·rename_i g w hg
   have fin:∀b kn s,T g=.bool b→(bif b==w then actOp draw (fun H'=>lastB i ops T H') (fun s T H=>actOps draw Q (i+1) kn ops s T H) s o.dst o.op T H else actOps draw Q (i+1) kn ops s (setD T o.dst (.tuple [])) H)=claims s→
    Comes cfg A R draw Q i (o::ops) T H:=by
    intro b kn s h1 h2
    have hw:wantedA o T=some (b==w):=by unfold wantedA;rw[hg];simp only[h1]
    cases hb:(b==w)with
    |true=>rw[hb]at hw h2;exact key _ _ hw h2
    |false=>rw[hb]at hw h2;exact skip _ _ hw h2
   split at h
   ·rename_i hb
    exact skip kn s (by unfold wantedA;rw[hg];simp only[hb]) h
   ·rename_i p' hb
    cases hkn:kn.contains g with
    |true=>
     rw[hkn]at h
     simp only[cond_true]at h
     exact fin _ _ _ hb h
    |false=>
     rw[hkn]at h
     simp only[cond_false]at h
     split at h
     ·rename_i b p hp s'
      simp only[claims,Chk.av.injEq,AV.bool.injEq]at h
      have h1:T g=.bool b:=by rw[hb,h.1,hp]
      obtain⟨s2,h2⟩:=uns_sound h.2
      rw[upd_self h1]at h2
      exact fin _ _ _ h1 h2
     ·exact absurd h.symm (claims_wantB _)
   ·exact absurd h.symm (claims_stuck _)
theorem acts_sound:∀(n:Nat){k:List AIt}{s:ScrQ cfg A R}{T:Env}{H:Heap},acts n k s T H=claims s→∃r,runL cfg A k T H=some r∧R r:=by
 intro n
 induction n with
 |zero=>intro k s T H h;exact absurd h.symm (claims_stuck s)
 |succ n ih=>
  intro k s T H h
  simp only[acts]at h
  ·split at h
   ·split at h
    ·rename_i r hr
     simp only[claims,Chk.res.injEq]at h
     rw[runL_nil];exact⟨r,h,hr⟩
    ·exact absurd h.symm (claims_stuck _)
   ·rw[runL_blk];exact ih h
   ·split at h
    ·rename_i k' vs H' hc
     simp only[claims,Chk.cut.injEq]at h
     obtain⟨e1,e2,e3⟩:=h
     rw[e1,e3]
     exact hc T (has_of e2)
    ·rw[runL_lp];exact ih h
   ·exact absurd h.symm (claims_stuck _)
   ·split at h
    ·rw[runL_skip];exact ih h
    ·rw[runL_seq];exact ih h
    ·rename_i x a b
     split at h
     ·rename_i t p hp s'
      simp only[claims,Chk.av.injEq]at h
      obtain⟨h1,h2⟩:=h
      obtain⟨s2,h2⟩:=uns_sound h2
      rw[runL_cond,h1,hp]
      cases t<;>exact ih h2
     ·exact absurd h.symm (claims_wantB _)
    ·rw[runL_block];exact ih h
    ·rw[runL_loop];exact ih h
    ·split at h
     ·rename_i k' hk;rw[runL_exit,hk];exact ih h
     ·exact absurd h.symm (claims_stuck _)
    ·split at h
     ·rename_i r hr
      cases hro:A.round with
      |true=>rw[hro]at h;exact absurd h.symm (claims_stuck _)
      |false=>
       rw[hro]at h
       simp only[cond_false,claims,Chk.res.injEq]at h
       rw[runL_ret,hro];exact⟨_,h,hr⟩
     ·exact absurd h.symm (claims_stuck _)
    ·rename_i ops d
     rw[runL_region]
     cases d with
     |false=>
      have hreg:regionA (lim cfg) false ops T H=regI cfg false 0 ops T H:=rfl
      rw[hreg]
      rcases actOps_sound h with⟨s',T',H',q,e⟩|⟨v,H',e,q⟩
      ·rw[e];exact ih q
      ·rw[e];exact⟨_,rfl,q⟩
     |true=>
      have hreg:regionA (lim cfg) true ops T H=regI cfg true 0 (resv H.boxes.length ops) T (roomH H (resvCells ops)):=rfl
      rw[hreg]
      rcases actOps_sound h with⟨s',T',H',q,e⟩|⟨v,H',e,q⟩
      ·rw[e];exact ih q
      ·rw[e];exact⟨_,rfl,q⟩
    ·split at h
     ·rename_i k' vs H' hc
      simp only[claims,Chk.cut.injEq]at h
      obtain⟨e1,e2,e3⟩:=h
      rw[e1,e3]
      exact hc T (has_of e2)
     ·exact absurd h.symm (claims_stuck _)
theorem goQ{T:Env}{k:List AIt}{H:Heap}(n:Nat)(vs:List (Nat×AV))(hT:Has T vs)(s:ScrQ cfg A R)(e:uns s (fun s=>acts n k s (updL T vs) H)=claims s):∃r,runL cfg A k T H=some r∧R r:=by
 rw[updL_self hT]at e
 obtain⟨s',e⟩:=uns_sound e
 exact acts_sound n e
theorem go{r:ARes×Heap}{T:Env}{k:List AIt}{H:Heap}(n:Nat)(vs:List (Nat×AV))(hT:Has T vs)(s:Scr cfg A r)(e:uns s (fun s=>acts n k s (updL T vs) H)=claims s):runL cfg A k T H=some r:=by
 obtain⟨x,h,rfl⟩:=goQ n vs hT s e
 exact h
def ScrQ.done{r:ARes×Heap}:ScrQ cfg A (fun x=>x=r):=.fin r rfl
def ScrQ.cut{r:ARes×Heap}(k:List AIt)(vs:List (Nat×AV))(H:Heap)(h:∀T,Has T vs→runL cfg A k T H=some r):ScrQ cfg A (fun x=>x=r):=.cutQ k vs H fun T hT=>⟨r,h T hT,rfl⟩
class Shut(v:AV)(w:outParam AV):Prop where
 p:shut2 v=w∧data2 w=true
class Dat(x:AV):Prop where
 p:shut2 x=x∧data2 x=true
instance(v:AV) [h:Dat v]:Shut v v:=⟨h.p⟩
instance(t:Nat)(l:List AV):Shut (.sl (.own t) l) (.sl .sh l):=⟨rfl,rfl⟩
instance(l:List AV):Shut (.sl .full l) (.sl .sh l):=⟨rfl,rfl⟩
instance(k:IntKind)(n:Int):Dat (.int k n):=⟨rfl,rfl⟩
instance(b:Bool):Dat (.bool b):=⟨rfl,rfl⟩
instance(s:List UInt8):Dat (.str s):=⟨rfl,rfl⟩
instance(b:Nat):Dat (.flt b):=⟨rfl,rfl⟩
instance:Dat .nan:=⟨rfl,rfl⟩
instance(l:List AV):Dat (.sl .sh l):=⟨rfl,rfl⟩
instance:Dat .nilptr:=⟨rfl,rfl⟩
instance:Dat .nilIface:=⟨rfl,rfl⟩
instance:Dat .nilFunc:=⟨rfl,rfl⟩
class Shuts(xs:List AV)(ys:outParam (List AV)):Prop where
 p:xs.map shut2=ys∧ys.all data2=true
instance:Shuts [] []:=⟨rfl,rfl⟩
instance(x y:AV)(xs ys:List AV) [h:Shut x y] [hs:Shuts xs ys]:Shuts (x::xs) (y::ys):=⟨by
 obtain⟨a,b⟩:=h.p
 obtain⟨c,d⟩:=hs.p
 simp[a,b,c,d]⟩
class Dats(xs:List AV):Prop where
 p:xs.map shut2=xs∧xs.all data2=true
instance:Dats []:=⟨rfl,rfl⟩
instance(x:AV)(xs:List AV) [h:Dat x] [hs:Dats xs]:Dats (x::xs):=⟨by
 obtain⟨a,b⟩:=h.p
 obtain⟨c,d⟩:=hs.p
 simp[a,b,c,d]⟩
class Res(v:AV)(w:outParam AV):Prop where
 p:shutA v=w∧isData w=true
theorem shut_res{v w:AV}(h:shut2 v=w∧data2 w=true):shutA v=w∧isData w=true:=by
 obtain⟨a,b⟩:=h
 have hv:∀cs,w≠.tuple cs:=fun cs e=>by subst e;cases b
 have e1:shutA v=shut2 v:=by
  cases v with
  |tuple cs=>exact absurd a.symm (hv cs)
  |_=>rfl
 refine⟨e1.trans a,?_⟩
 have:isData w=data2 w:=by
  cases w with
  |tuple cs=>exact absurd rfl (hv cs)
  |_=>rfl
 rw[this];exact b
instance(v w:AV) [h:Shut v w]:Res v w:=⟨shut_res h.p⟩
instance(vs ws:List AV) [h:Shuts vs ws]:Res (.tuple vs) (.tuple ws):=⟨by
 obtain⟨a,b⟩:=h.p
 exact⟨by rw[←a];rfl,b⟩⟩
theorem shuts_args{xs ys:List AV}(h:xs.map shut2=ys∧ys.all data2=true):xs.map shutA=ys∧ys.all isData=true:=by
 obtain⟨a,b⟩:=h
 subst a
 rw[List.all_eq_true]at b
 have e:∀x∈xs,shutA x=shut2 x∧isData (shut2 x)=true:=fun x hx=>by
  obtain⟨p,q⟩:=shut_res (v:=x) (w:=shut2 x) ⟨rfl,b _ (List.mem_map_of_mem hx)⟩
  exact⟨p,q⟩
 refine⟨List.map_congr_left fun x hx=>(e x hx).1,List.all_eq_true.2 fun y hy=> ?_⟩
 obtain⟨x,hx,rfl⟩:=List.mem_map.1 hy
 exact(e x hx).2
theorem callD_ret{xs ys:List AV}{g:FuncId}{v w:AV}{H':Heap}(h:lim cfg (.fn g) ys Heap.nil=some (.ret v,H'))(hx:xs.map shut2=ys∧ys.all data2=true)(hv:shutA v=w∧isData w=true)(T:Env)(H:Heap):
 opStepD (lim cfg) (.call (.c (.func g [])) (xs.map fun x=>.c x)) T H=some (.val w H):=by
 obtain⟨a,b⟩:=shuts_args hx
 simp only[opStepD,List.map_map]
 have e:(List.map ((fun x=>shutA (ev T x))∘fun x=>Opd.c x) xs)=ys:=a
 rw[e,show ev T (.c (.func g []))=.func g []from rfl,callD_func]
 simp only[b,List.all_nil,Bool.and_self,cond_true,List.append_nil,h,dataOut_of hv]
theorem callD_pan{xs ys:List AV}{g:FuncId}{v:AV}{H':Heap}(h:lim cfg (.fn g) ys Heap.nil=some (.pan v,H'))(hx:xs.map shut2=ys∧ys.all data2=true)(hv:isData v=true)(H:Heap)(T:Env):
 opStepD (lim cfg) (.call (.c (.func g [])) (xs.map fun x=>.c x)) T H=some (.pan v H):=by
 obtain⟨a,b⟩:=shuts_args hx
 simp only[opStepD,List.map_map]
 have e:(List.map ((fun x=>shutA (ev T x))∘fun x=>Opd.c x) xs)=ys:=a
 rw[e,show ev T (.c (.func g []))=.func g []from rfl,callD_func]
 simp only[b,List.all_nil,Bool.and_self,cond_true,List.append_nil,h,hv]
def ScrQ.call{xs:List AV}{g:FuncId}{v w:AV}{H':Heap}(h:lim cfg (.fn g) xs Heap.nil=some (.ret v,H')) [hx:Dats xs] [hv:Res v w](s:ScrQ cfg A R):ScrQ cfg A R:=.op (.call (.c (.func g [])) (xs.map fun x=>.c x)) w (callD_ret h hx.p hv.p) s
def ScrQ.callW(xs:List AV){ys:List AV}{g:FuncId}{v w:AV}{H':Heap} [hx:Shuts xs ys](h:lim cfg (.fn g) ys Heap.nil=some (.ret v,H')) [hv:Res v w](s:ScrQ cfg A R):ScrQ cfg A R:=.op (.call (.c (.func g [])) (xs.map fun x=>.c x)) w (callD_ret h hx.p hv.p) s
def ScrQ.yes{p:Bool}(h:p=true)(s:ScrQ cfg A R):ScrQ cfg A R:=.dec true p h s
def ScrQ.no{p:Bool}(h:p=false)(s:ScrQ cfg A R):ScrQ cfg A R:=.dec false p h s
def ScrQ.tt(s:ScrQ cfg A R):ScrQ cfg A R:=.dec true true rfl s
def ScrQ.ff(s:ScrQ cfg A R):ScrQ cfg A R:=.dec false false rfl s
theorem pure_step{o:AOp}{v:AV}(hc:∀T,pureOp o T=some v)(h:∀call T H,opStepD call o T H=match pureOp o T with|some v=>some (.val v H)|none=>none)(T:Env)(H:Heap):opStepD (lim cfg) o T H=some (.val v H):=by rw[h,hc]
def ScrQ.idx{es:Nat}{x i v:AV}(h:idxA es x i=some v)(s:ScrQ cfg A R):ScrQ cfg A R:=.op (.idx es (.c x) (.c i)) v (pure_step (fun _=>h) fun _ _ _=>rfl) s
def ScrQ.idxs{x i v:AV}(h:idxsA x i=some v)(s:ScrQ cfg A R):ScrQ cfg A R:=.op (.idxs (.c x) (.c i)) v (pure_step (fun _=>h) fun _ _ _=>rfl) s
def ScrQ.bin{b:BinOp}{x y v:AV}(h:binA b x y=some v)(s:ScrQ cfg A R):ScrQ cfg A R:=.op (.bin b (.c x) (.c y)) v (pure_step (fun _=>h) fun _ _ _=>rfl) s
def ScrQ.len{b:Bool}{x v:AV}(h:lenA b x=some v)(s:ScrQ cfg A R):ScrQ cfg A R:=.op (.len b (.c x)) v (pure_step (fun _=>h) fun _ _ _=>rfl) s
def ScrQ.conv{b:CV}{x v:AV}(h:convA b x=some v)(s:ScrQ cfg A R):ScrQ cfg A R:=.op (.conv b (.c x)) v (pure_step (fun _=>h) fun _ _ _=>rfl) s
def ScrQ.eqnil{b:Bool}{k:NK}{x v:AV}(h:eqnilA b k x=some v)(s:ScrQ cfg A R):ScrQ cfg A R:=.op (.eqnil b k (.c x)) v (pure_step (fun _=>h) fun _ _ _=>rfl) s
def ScrQ.eqst{b:Bool}{ks:List FK}{x y v:AV}(h:eqstA b ks x y=some v)(s:ScrQ cfg A R):ScrQ cfg A R:=.op (.eqst b ks (.c x) (.c y)) v (pure_step (fun _=>h) fun _ _ _=>rfl) s
def ScrQ.slice{es:Nat}{x v:AV}{lo hi mx:Option AV}(h:sliceA es x lo hi mx=some v)(s:ScrQ cfg A R):ScrQ cfg A R:=.op (.slice es (.c x) (lo.map .c) (hi.map .c) (mx.map .c)) v
 (pure_step (fun T=>by simp only[pureOp,ev,Option.map_map,Function.comp_def];simpa using h) fun _ _ _=>rfl) s
theorem append_step{es b:Nat}{H H':Heap}{x y v:AV}(h:appendA es b H x y=some (v,H'))(T:Env):opStep (lim cfg) (.append es b (.c x) (.c y)) T H=some (.val v H'):=by
 simp only[opStep,ev,h]
def ScrQ.append{es b:Nat}{H H':Heap}{x y v:AV}(h:appendA es b H x y=some (v,H'))(s:ScrQ cfg A R):ScrQ cfg A R:=.eff (.append es b (.c x) (.c y)) H v H' (append_step h) s
theorem load_step{agg:Bool}{n:Nat}{H:Heap}{x v:AV}(h:loadA agg n H x=some v)(T:Env):opStep (lim cfg) (.load agg n (.c x)) T H=some (.val v H):=by
 simp only[opStep,ev,h]
def ScrQ.load{agg:Bool}{n:Nat}{H:Heap}{x v:AV}(h:loadA agg n H x=some v)(s:ScrQ cfg A R):ScrQ cfg A R:=.eff (.load agg n (.c x)) H v H (load_step h) s
theorem store_step{n:Nat}{H H':Heap}{x v:AV}(h:storeA n H x v=some H')(T:Env):opStep (lim cfg) (.store n (.c x) (.c v)) T H=some (.val .undef H'):=by
 simp only[opStep,ev,h]
def ScrQ.store{n:Nat}{H H':Heap}{x v:AV}(h:storeA n H x v=some H')(s:ScrQ cfg A R):ScrQ cfg A R:=.eff (.store n (.c x) (.c v)) H .undef H' (store_step h) s
variable{k:IntKind}{a b:Int}
theorem lssT(h:a<b):binA .lss (.int k a) (.int k b)=some (.bool true):=by simp[binA,intBin,h]
theorem lssF(h:b≤a):binA .lss (.int k a) (.int k b)=some (.bool false):=by simp[binA,intBin,h]
theorem neqT(h:a≠b):binA .neq (.int k a) (.int k b)=some (.bool true):=by simp[binA,intBin,h]
theorem wrap_i64{x:Int}(h1: -9223372036854775808≤x)(h2:x<9223372036854775808):IntKind.i64.wrap x=x:=by
 have e:(x%18446744073709551616)=if 0≤x then x else x+18446744073709551616:=by split<;>omega
 simp only[IntKind.wrap,IntKind.bits,IntKind.signed,Bool.true_and,show(2:Int)^64=18446744073709551616 from rfl,show(2:Int)^(64-1)=9223372036854775808 from rfl,e,decide_eq_true_eq]
 split<;>split<;>omega
theorem addI(h1: -9223372036854775808≤a+b)(h2:a+b<9223372036854775808):binA .add (.int .i64 a) (.int .i64 b)=some (.int .i64 (a+b)):=by
 simp[binA,intBin,wrap_i64 h1 h2]
theorem subI(h1: -9223372036854775808≤a-b)(h2:a-b<9223372036854775808):binA .sub (.int .i64 a) (.int .i64 b)=some (.int .i64 (a-b)):=by
 simp[binA,intBin,wrap_i64 h1 h2]
theorem mulI(h1: -9223372036854775808≤a*b)(h2:a*b<9223372036854775808):binA .mul (.int .i64 a) (.int .i64 b)=some (.int .i64 (a*b)):=by
 simp[binA,intBin,wrap_i64 h1 h2]
def ScrQ.add(h: -9223372036854775808≤a+b∧a+b<9223372036854775808)(s:ScrQ cfg A R):ScrQ cfg A R:=.bin (addI h.1 h.2) s
def ScrQ.sub(h: -9223372036854775808≤a-b∧a-b<9223372036854775808)(s:ScrQ cfg A R):ScrQ cfg A R:=.bin (subI h.1 h.2) s
def ScrQ.mul(h: -9223372036854775808≤a*b∧a*b<9223372036854775808)(s:ScrQ cfg A R):ScrQ cfg A R:=.bin (mulI h.1 h.2) s
def ScrQ.inc(i:Nat)(h:i<9223372036854775807)(s:ScrQ cfg A R):ScrQ cfg A R:=.bin (show binA .add (.int .i64 (i:Int)) (.int .i64 1)=some (.int .i64 ((i+1:Nat):Int))from by
 rw[addI (by omega) (by omega)];rfl) s
theorem idx_at{es i:Nat}{k:SK}{q:IntKind}{l:List AV}{x:AV}(h:l[i]?=some x)(hc:cellsN es x=true):idxA es (.sl k l) (.int q (i:Int))=some (.ref x.cells):=by
 simp[idxA,h,hc]
theorem bslice_step{es:Nat}{xs:List AV}(h1:xs.map shut2=xs)(h2:lenOk es xs=true)(h3:dataOk xs=true)(T:Env)(H:Heap):opStepD (lim cfg) (.bslice es (xs.map .c)) T H=some (.val (.sl .full xs) H):=by
 simp only[opStepD,opStep,pureOp,List.map_map]
 have e:(List.map ((fun x=>shut2 (ev T x))∘Opd.c) xs)=xs:=h1
 rw[e,if_pos ⟨h2,h3⟩]
def ScrQ.bslice{es:Nat}{xs:List AV}(h1:xs.map shut2=xs)(h2:lenOk es xs=true)(h3:dataOk xs=true)(s:ScrQ cfg A R):ScrQ cfg A R:=.op (.bslice es (xs.map .c)) (.sl .full xs) (bslice_step h1 h2 h3) s
def rowS(H:Heap):List AV→AV
 |[]=>.sl .full []
 |y::ys=>.sl (.own H.toks.length) (y::ys)
def rowH(H:Heap):List AV→Heap
 |[]=>H
 |y::ys=>{H with toks:=H.toks++[(y::ys).length]}
instance(H:Heap)(ys:List AV):Shut (rowS H ys) (.sl .sh ys):=⟨by cases ys<;>exact⟨rfl,rfl⟩⟩
theorem row_append{es bytes:Nat}{H:Heap}{ys:List AV}{v:AV}(h:(ys.length+1)*bytes≤140737488355328)(hl:lenOk es ys=true)(hv:cellsN es v=true)(hd:dataOk [v]=true):
 appendA es bytes (rowH H ys) (rowS H ys) (.sl .full [v])=some (rowS H (ys++[v]),rowH H (ys++[v])):=by
 have hv':lenOk es [v]=true:=by simp[lenOk,hv]
 cases ys with
 |nil=>
  have h':bytes≤140737488355328:=by simpa using h
  have e:(([]:List AV).length+([v]:List AV).length)*bytes≤140737488355328:=by simpa using h'
  have e2:lenOk es ([]:List AV)=true:=rfl
  simp only[appendA,rowS,rowH,hv',hd,e2,List.nil_append]
  rw[if_pos ⟨e,trivial,trivial,trivial⟩]
  rfl
 |cons y ys=>
  simp only[appendA,rowS,rowH,hl,hv',hd,List.length_cons,List.length_nil,List.cons_append]at h⊢
  simp[h]
theorem callH_step{xs caps:List AV}{g:FuncId}{v:AV}{H H2:Heap}(h:lim cfg (.fn g) (xs++caps) H=some (.ret v,H2))(hx:xs.map shutA=xs)(hd:(xs.all isData&&caps.all data0)=false)(T:Env):
 opStep (lim cfg) (.call (.c (.func g caps)) (xs.map .c)) T H=some (.val (shutA v) (trunc H.boxes.length H.toks.length (shutA v) H2)):=by
 have e:(xs.map Opd.c).map (fun x=>shutA (ev T x))=xs:=by rw[List.map_map];exact hx
 simp only[opStep,e]
 rw[show ev T (.c (.func g caps))=.func g caps from rfl,callV_func,hd]
 simp only[cond_false,callE,h]
theorem strEqT{a b:List UInt8}(h:a=b):binA .eql (.str a) (.str b)=some (.bool true):=by simp[binA,strBin,h]
theorem strEqF{a b:List UInt8}(h:a≠b):binA .eql (.str a) (.str b)=some (.bool false):=by simp[binA,strBin,h]
theorem strNeT{a b:List UInt8}(h:a≠b):binA .neq (.str a) (.str b)=some (.bool true):=by simp[binA,strBin,h]
theorem strNeF{a b:List UInt8}(h:a=b):binA .neq (.str a) (.str b)=some (.bool false):=by simp[binA,strBin,h]
def IsRet(v:AV)(r:ARes×Heap):Prop:=r.1=.ret v
def Gives(cfg:Cfg)(g:FuncId)(xs:List AV)(v:AV):Prop:=∃r,lim cfg (.fn g) xs Heap.nil=some r∧IsRet v r
def Goes(cfg:Cfg)(A:AFunc)(k:List AIt)(T:Env)(H:Heap)(R:ARes×Heap→Prop):Prop:=∃r,runL cfg A k T H=some r∧R r
theorem Gives.ret{g:FuncId}{xs:List AV}{v:AV}(h:Gives cfg g xs v):∃H',lim cfg (.fn g) xs Heap.nil=some (.ret v,H'):=by
 obtain⟨⟨a,H'⟩,h,e⟩:=h
 simp only[IsRet]at e
 subst e
 exact⟨H',h⟩
theorem Gives.of{g:FuncId}{xs:List AV}{v:AV}{H':Heap}(h:lim cfg (.fn g) xs Heap.nil=some (.ret v,H')):Gives cfg g xs v:=⟨_,h,rfl⟩
theorem Gives.to{g:FuncId}{xs:List AV}{v w:AV}(h:Gives cfg g xs v)(e:v=w):Gives cfg g xs w:=e▸h
theorem Gives.run{g:FuncId}{xs:List AV}{v:AV}{k:List AIt}{T:Env}(e:lim cfg (.fn g) xs Heap.nil=runL cfg A k T Heap.nil)(h:Goes cfg A k T Heap.nil (IsRet v)):Gives cfg g xs v:=by
 unfold Gives;rw[e];exact h
theorem givesD{xs ys:List AV}{g:FuncId}{v w:AV}(h:Gives cfg g ys v)(hx:xs.map shut2=ys∧ys.all data2=true)(hv:shutA v=w∧isData w=true)(T:Env)(H:Heap):
 opStepD (lim cfg) (.call (.c (.func g [])) (xs.map fun x=>.c x)) T H=some (.val w H):=by
 obtain⟨H',h⟩:=h.ret
 exact callD_ret h hx hv T H
def ScrQ.callG(xs:List AV){ys:List AV}{g:FuncId}{v:AV}(w:AV)(h:Gives cfg g ys v)(hx:xs.map shut2=ys∧ys.all data2=true)(hv:shutA v=w∧isData w=true)(s:ScrQ cfg A R):ScrQ cfg A R:=.op (.call (.c (.func g [])) (xs.map fun x=>.c x)) w (givesD h hx hv) s
theorem Goes.to{k:List AIt}{T:Env}{H:Heap}{v w:AV}(h:Goes cfg A k T H (IsRet v))(e:v=w):Goes cfg A k T H (IsRet w):=e▸h
class D0(x:AV):Prop where
 p:shut1 x=x∧data0 x=true
instance(k:IntKind)(n:Int):D0 (.int k n):=⟨rfl,rfl⟩
instance(b:Bool):D0 (.bool b):=⟨rfl,rfl⟩
instance(s:List UInt8):D0 (.str s):=⟨rfl,rfl⟩
instance(b:Nat):D0 (.flt b):=⟨rfl,rfl⟩
instance:D0 .nan:=⟨rfl,rfl⟩
instance(l:List AV):D0 (.sl .sh l):=⟨rfl,rfl⟩
end
end Go.Aa
set_option linter.unusedVariables false
set_option linter.unusedSimpArgs false
namespace Go.Aa
theorem goG{cfg:Cfg}{A:AFunc}{R:ARes×Heap→Prop}{T:Env}{k:List AIt}{H:Heap}(n:Nat)(vs:List (Nat×AV))(hT:Has T vs)(s:ScrQ cfg A R)(e:uns s (fun s=>acts n k s (updL T vs) H)=claims s):Goes cfg A k T H R:=goQ n vs hT s e
class D0s(xs:List AV):Prop where
 p:xs.map shut1=xs∧xs.all data0=true
instance:D0s []:=⟨rfl,rfl⟩
instance(x:AV)(xs:List AV) [h:D0 x] [hs:D0s xs]:D0s (x::xs):=⟨by
 obtain⟨a,b⟩:=h.p
 obtain⟨c,d⟩:=hs.p
 simp[a,b,c,d]⟩
instance(xs:List AV) [h:D0s xs]:Dat (.agg xs):=⟨by
 obtain⟨a,b⟩:=h.p
 exact⟨by simp[shut2,a],b⟩⟩
variable{α:Type}{f:α→AV}{l:List α}{x:α}{post:List α}{i:Nat}
theorem drop_lt(h:l.drop i=x::post):i<l.length:=by
 have:0<(l.drop i).length:=by rw[h];simp
 simp at this;omega
theorem drop_ge(h:l.drop i=[]):l.length≤i:=by simpa using h
theorem drop_next(h:l.drop i=x::post):l.drop (i+1)=post:=by
 rw[←List.tail_drop,h];rfl
theorem drop_at(h:l.drop i=x::post):l[i]?=some x:=by
 have:=congrArg List.head? h
 simpa[List.head?_drop]using this
theorem drop_take(h:l.drop i=x::post):l.take (i+1)=l.take i++[x]:=by
 rw[List.take_add_one,drop_at h];rfl
theorem drop_mem(h:l.drop i=x::post):x∈l:=by
 have:x∈l.drop i:=by rw[h];simp
 exact List.mem_of_mem_drop this
theorem len_map(k:SK):lenA false (.sl k (l.map f))=some (.int .i64 l.length):=by simp[lenA]
theorem len_sl(k:SK)(l:List AV):lenA false (.sl k l)=some (.int .i64 l.length):=rfl
theorem len_str(s:List UInt8):lenA true (.str s)=some (.int .i64 s.length):=rfl
theorem idx_row{es:Nat}{k:SK}{q:IntKind}(h:l.drop i=x::post)(hc:cellsN es (f x)=true):idxA es (.sl k (l.map f)) (.int q (i:Int))=some (.ref (f x).cells):=
 idx_at (by simp[drop_at h]) hc
theorem idx_get{es:Nat}{k:SK}{q:IntKind}(h:l[i]?=some x)(hc:cellsN es (f x)=true):idxA es (.sl k (l.map f)) (.int q (i:Int))=some (.ref (f x).cells):=
 idx_at (by simp[h]) hc
theorem idx_str{q:IntKind}{s post:List UInt8}{c:UInt8}(h:s.drop i=c::post):idxsA (.str s) (.int q (i:Int))=some (.int .u8 c.toNat):=by
 simp[idxsA,drop_at h]
theorem inc_i(h:i<9223372036854775807):binA .add (.int .i64 (i:Int)) (.int .i64 1)=some (.int .i64 ((i+1:Nat):Int)):=by
 rw[addI (by omega) (by omega)];rfl
theorem load_box{agg:Bool}{n k off:Nat}{H:Heap}{cs:List AV}{v:AV}(h:H.boxes[k]?=some cs)(e:loadA agg n ⟨[cs],[],[]⟩ (.ptr 0 off)=some v):loadA agg n H (.ptr k off)=some v:=by
 simp only[loadA,h,List.getElem?_cons_zero]at e⊢
 exact e
theorem store_box{n k off:Nat}{H:Heap}{cs cs':List AV}{v:AV}(h:H.boxes[k]?=some cs)(e:storeA n ⟨[cs],[],[]⟩ (.ptr 0 off) v=some ⟨[cs'],[],[]⟩):storeA n H (.ptr k off) v=some {H with boxes:=H.boxes.set k cs'}:=by
 simp only[storeA,h,List.getElem?_cons_zero]at e⊢
 split at e
 ·rename_i hc
  simp only[Option.some.injEq,Heap.mk.injEq,List.set_cons_zero,List.cons.injEq]at e
  rw[if_pos hc,e.1.1]
 ·cases e
@[simp]theorem rowH_boxes(H:Heap)(ys:List AV):(rowH H ys).boxes=H.boxes:=by cases ys<;>rfl
@[simp]theorem rowH_loops(H:Heap)(ys:List AV):(rowH H ys).loops=H.loops:=by cases ys<;>rfl
theorem row_append_map{es bytes:Nat}{H:Heap}{ys:List α}(h:((ys.map f).length+1)*bytes≤140737488355328)(hl:lenOk es (ys.map f)=true)(hv:cellsN es (f x)=true)(hd:dataOk [f x]=true):
 appendA es bytes (rowH H (ys.map f)) (rowS H (ys.map f)) (.sl .full [f x])=some (rowS H ((ys++[x]).map f),rowH H ((ys++[x]).map f)):=by
 rw[row_append h hl hv hd,List.map_append];rfl
theorem lenOk_snoc{n:Nat}{l:List AV}{x:AV}(h:lenOk n l=true)(hx:cellsN n x=true):lenOk n (l++[x])=true:=by
 simp only[lenOk,List.all_append,List.all_cons,List.all_nil,Bool.and_true,Bool.and_eq_true]at h⊢
 exact⟨h,hx⟩
theorem lenOk_map{n:Nat}(h:∀x,cellsN n (f x)=true):lenOk n (l.map f)=true:=by
 simp only[lenOk,List.all_eq_true,List.mem_map]
 rintro _⟨x,-,rfl⟩
 exact h x
theorem conv_i64{k:IntKind}{n:Int}(h: -9223372036854775808≤n∧n<9223372036854775808):convA (.int .i64) (.int k n)=some (.int .i64 n):=by
 simp[convA,wrap_i64 h.1 h.2]
theorem store_box2{n k off:Nat}{H:Heap}{cs cs':List AV}{bs':List (List AV)}{v:AV}(h:H.boxes[k]?=some cs)(e:storeA n ⟨[cs],[],[]⟩ (.ptr 0 off) v=some ⟨[cs'],[],[]⟩)(hs:H.boxes.set k cs'=bs'):storeA n H (.ptr k off) v=some {H with boxes:=bs'}:=by
 rw[←hs];exact store_box h e
end Go.Aa
set_option linter.unusedVariables false
set_option linter.unusedSimpArgs false
namespace Go.Aa
section
variable{cfg:Cfg}
theorem lim_try{f:FuncId}(ht:cfg.tryF f=true)(g:FuncId)(caps:List AV)(H:Heap):lim cfg (.fn f) [.func g caps] H=tryA (lim cfg (.fn g) caps H) cfg.stopT:=by
 refine opt_ext fun r=> ?_
 rw[lim_iff]
 constructor
 ·rintro⟨n,h⟩
  cases n with
  |zero=>simp[callN]at h
  |succ n=>
   rw[callN]at h
   simp only[ht,if_true]at h
   cases hc:callN cfg n (.fn g) caps H with
   |none=>rw[hc]at h;simp[tryA]at h
   |some x=>rw[hc]at h;rw[lim_of hc];exact h
 ·intro h
  cases hc:lim cfg (.fn g) caps H with
  |none=>rw[hc]at h;simp[tryA]at h
  |some x=>
   rw[hc]at h
   obtain⟨n,hn⟩:=lim_iff.1 hc
   refine⟨n+1,?_⟩
   rw[callN]
   simp only[ht,if_true,hn]
   exact h
variable{A:AFunc}{k:List AIt}{T:Env}{H:Heap}
theorem callN_step{xs:List AV}{g:FuncId}{v v0:AV}{H H2 H0:Heap}(h0:lim cfg (.fn g) xs Heap.nil=some (.ret v0,H0))(hn:dataOut H0 v0=none)(h:lim cfg (.fn g) xs H=some (.ret v,H2))(hx:xs.map shutA=xs)(hd:xs.all isData=true)(T:Env):
 opStep (lim cfg) (.call (.c (.func g [])) (xs.map .c)) T H=some (.val (shutA v) (trunc H.boxes.length H.toks.length (shutA v) H2)):=by
 have e:(xs.map Opd.c).map (fun x=>shutA (ev T x))=xs:=by rw[List.map_map];exact hx
 simp only[opStep,e]
 rw[show ev T (.c (.func g []))=.func g []from rfl]
 unfold callV
 simp only[hd,List.all_nil,Bool.and_self,if_true,List.append_nil,h0,hn,Bool.false_eq_true,if_false,callE,h]
def ScrQ.callN{R:ARes×Heap→Prop}{xs:List AV}{g:FuncId}{v v0:AV}{H H2 H0:Heap}(h0:lim cfg (.fn g) xs Heap.nil=some (.ret v0,H0))(hn:dataOut H0 v0=none)(h:lim cfg (.fn g) xs H=some (.ret v,H2))(hx:xs.map shutA=xs)(hd:xs.all isData=true)(s:ScrQ cfg A R):ScrQ cfg A R:=
 .eff (.call (.c (.func g [])) (xs.map .c)) H (shutA v) (trunc H.boxes.length H.toks.length (shutA v) H2) (callN_step h0 hn h hx hd) s
def Pans(cfg:Cfg)(g:FuncId)(xs:List AV)(v:AV):Prop:=∃r,lim cfg (.fn g) xs Heap.nil=some r∧r.1=.pan v
def IsPan(v:AV)(r:ARes×Heap):Prop:=r.1=.pan v
theorem Pans.pan{g:FuncId}{xs:List AV}{v:AV}(h:Pans cfg g xs v):∃H',lim cfg (.fn g) xs Heap.nil=some (.pan v,H'):=by
 obtain⟨⟨a,H'⟩,h,e⟩:=h
 simp only at e
 subst e
 exact⟨H',h⟩
theorem Pans.run{g:FuncId}{xs:List AV}{v:AV}(e:lim cfg (.fn g) xs Heap.nil=runL cfg A k T Heap.nil)(h:Goes cfg A k T Heap.nil (IsPan v)):Pans cfg g xs v:=by
 unfold Pans;rw[e];exact h
theorem pansD{xs ys:List AV}{g:FuncId}{v:AV}(h:Pans cfg g ys v)(hx:xs.map shut2=ys∧ys.all data2=true)(hv:isData v=true)(H:Heap)(T:Env):
 opStepD (lim cfg) (.call (.c (.func g [])) (xs.map fun x=>.c x)) T H=some (.pan v H):=by
 obtain⟨H',h⟩:=h.pan
 exact callD_pan h hx hv H T
def ScrQ.callP{R:ARes×Heap→Prop}(xs:List AV){ys:List AV}{g:FuncId}{v:AV}(H:Heap)(h:Pans cfg g ys v)(hx:xs.map shut2=ys∧ys.all data2=true)(hv:isData v=true)(hq:R (.pan v,H)):ScrQ cfg A R:=
 .pan (.call (.c (.func g [])) (xs.map fun x=>.c x)) H v H (pansD h hx hv H) hq
theorem panic_step{t:TypeId}{v:AV}(H:Heap)(T:Env):opStepD (lim cfg) (.panic (.c (.iface t v))) T H=some (.pan (.iface t v) H):=rfl
def ScrQ.panicI{R:ARes×Heap→Prop}(t:TypeId)(v:AV)(H:Heap)(hq:R (.pan (.iface t v),H)):ScrQ cfg A R:=.pan (.panic (.c (.iface t v))) H (.iface t v) H (panic_step H) hq
def Does(cfg:Cfg)(o:AOp)(H:Heap)(v:AV)(H':Heap):Prop:=∀T,opStep (lim cfg) o T H=some (.val v H')
def ScrQ.effY{R:ARes×Heap→Prop}{o:AOp}{H H':Heap}{v:AV}(h:Does cfg o H v H')(s:ScrQ cfg A R):ScrQ cfg A R:=.eff o H v H' h s
theorem does_callN{xs:List AV}{g:FuncId}{v v0:AV}{H H2 H0:Heap}(h0:lim cfg (.fn g) xs Heap.nil=some (.ret v0,H0))(hn:dataOut H0 v0=none)(h:lim cfg (.fn g) xs H=some (.ret v,H2))(hx:xs.map shutA=xs)(hd:xs.all isData=true):
 Does cfg (.call (.c (.func g [])) (xs.map .c)) H (shutA v) (trunc H.boxes.length H.toks.length (shutA v) H2):=callN_step h0 hn h hx hd
theorem does_callE{xs caps:List AV}{g:FuncId}{v:AV}{H H2:Heap}(h:lim cfg (.fn g) (xs++caps) H=some (.ret v,H2))(hx:xs.map shutA=xs)(hd:(xs.all isData&&caps.all data0)=false):
 Does cfg (.call (.c (.func g caps)) (xs.map .c)) H (shutA v) (trunc H.boxes.length H.toks.length (shutA v) H2):=callH_step h hx hd
end
end Go.Aa
set_option linter.unusedVariables false
set_option linter.unusedSimpArgs false
namespace Go.Aa
section
variable{cfg:Cfg}
def GivesF(cfg:Cfg)(g:FuncId)(xs:List AV)(u:AV):Prop:=∃v H,lim cfg (.fn g) xs Heap.nil=some (.ret v,H)∧dataOut H v=some u
theorem does_callF{xs:List AV}{g:FuncId}{u:AV}(h:GivesF cfg g xs u)(hx:xs.map shutA=xs)(hd:xs.all isData=true)(H:Heap):Does cfg (.call (.c (.func g [])) (xs.map .c)) H u H:=by
 obtain⟨v,H1,h1,h2⟩:=h
 intro T
 have e:(xs.map Opd.c).map (fun x=>shutA (ev T x))=xs:=by rw[List.map_map];exact hx
 simp only[opStep,e]
 rw[show ev T (.c (.func g []))=.func g []from rfl]
 simp only[callV,hd,List.all_nil,Bool.and_self,if_true,List.append_nil,h1,h2]
theorem Gives.f{g:FuncId}{xs:List AV}{v:AV}(h:Gives cfg g xs v)(hd:shutA v=v)(h2:isData v=true):GivesF cfg g xs v:=by
 obtain⟨H,h⟩:=h.ret
 exact⟨v,H,h,dataOut_of ⟨hd,h2⟩⟩
def IsOut(u:AV)(r:ARes×Heap):Prop:=∃v,r.1=.ret v∧dataOut r.2 v=some u
theorem GivesF.run{A:AFunc}{g:FuncId}{xs:List AV}{u:AV}{k:List AIt}{T:Env}(e:lim cfg (.fn g) xs Heap.nil=runL cfg A k T Heap.nil)(h:Goes cfg A k T Heap.nil (IsOut u)):GivesF cfg g xs u:=by
 obtain⟨⟨r,H⟩,h1,v,h2,h3⟩:=h
 simp only at h2 h3
 subst h2
 exact⟨v,H,e.trans h1,h3⟩
theorem idx_msl{k off n es:Nat}{q:IntKind}{i:Nat}(h:i<n):idxA es (.msl k off n es) (.int q (i:Nat))=some (.ptr k (off+i*es)):=by
 simp only[idxA]
 rw[if_pos ⟨⟨Int.natCast_nonneg i,by exact_mod_cast h⟩,trivial⟩];simp
theorem paste_spec:∀(vs cells:List AV)(off:Nat),off+vs.length≤cells.length→paste cells off vs=cells.take off++vs++cells.drop (off+vs.length)
 |[],cells,off,h=>by simp[paste]
 |v::vs,cells,off,h=>by
  simp only[List.length_cons]at h
  rw[paste,paste_spec vs (cells.set off v) (off+1) (by simp;omega)]
  have h1:(cells.set off v).take (off+1)=cells.take off++[v]:=by
   rw[List.take_add_one,List.getElem?_set_self (by omega)]
   simp[List.take_set_of_le]
  have h2:(cells.set off v).drop (off+1+vs.length)=cells.drop (off+(v::vs).length):=by
   rw[List.drop_set_of_lt (by omega)]
   congr 1
   simp only[List.length_cons];omega
  rw[h1,h2];simp
theorem does_callM{xs:List AV}{g:FuncId}{v:AV}{H H2:Heap}(h:lim cfg (.fn g) xs H=some (.ret v,H2))(hx:xs.map shutA=xs)(hd:xs.all isData=false):
 Does cfg (.callM (.c (.func g [])) (xs.map .c)) H (shutA v) (trunc H.boxes.length H.toks.length (shutA v) H2):=fun T=>by
 have e:(xs.map Opd.c).map (fun x=>shutA (ev T x))=xs:=by rw[List.map_map];exact hx
 simp only[opStep,e]
 rw[show ev T (.c (.func g []))=.func g []from rfl]
 simp only[callW,hd,Bool.false_and,Bool.false_eq_true,if_false,List.append_nil,callE,h]
end
end Go.Aa
