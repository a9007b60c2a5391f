import Derived.Test.YthlhlfiklmmenaaGreatDoorYsand
set_option linter.unusedVariables false
set_option linter.unusedSimpArgs false
namespace Go.Aa
open Go.RowKit
open Classical in
noncomputable def uK{α:Type}(p:Nat→Option α):Option α:=if h:∃r n,p n=some r then some (Classical.choose h)else none
theorem qC{α:Type}{p:Nat→Option α}(hm:∀n m r,n≤m→p n=some r→p m=some r){r:α}:uK p=some r↔∃n,p n=some r:=by
 unfold uK
 constructor
 ·intro h
  split at h
  ·rename_i hex
   simp only[Option.some.injEq]at h
   rw[←h]
   exact Classical.choose_spec hex
  ·cases h
 ·rintro⟨n,h⟩
  have hex:∃r n,p n=some r:=⟨r,n,h⟩
  rw[dif_pos hex]
  obtain⟨m,hs⟩:=Classical.choose_spec hex
  have h1:=hm n (max n m) _ (Nat.le_max_left _ _) h
  have h2:=hm m (max n m) _ (Nat.le_max_right _ _) hs
  rw[h1]at h2
  exact h2.symm
noncomputable def lim(cfg:mj):bL:=fun k xs H=>uK fun n=>cK cfg n k xs H
theorem dL{cfg:mj}{k:Key}{xs:List AV}{H:Heap}{r:cZ×Heap}:lim cfg k xs H=some r↔∃n,cK cfg n k xs H=some r:=
 qC fun n m r hnm h=>dy cfg hnm _ _ _ _ h
theorem MV(cfg:mj)(n:Nat):Le (cK cfg n) (lim cfg):=fun k xs H r h=>dL.2 ⟨n,h⟩
noncomputable def bp(cfg:mj)(A:aO)(k:List c7)(T:Env)(H:Heap):Option (cZ×Heap):=uK fun n=>run (lim cfg) A n k T H
theorem nw{cfg:mj}{A:aO}{k:List c7}{T:Env}{H:Heap}{r:cZ×Heap}:bp cfg A k T H=some r↔∃n,run (lim cfg) A n k T H=some r:=
 qC fun n m r hnm h=>gQ (.refl _) A n m k T H r hnm h
section
variable{cfg:mj}
theorem iP{g:FuncId}{xs:List AV}{H:Heap}{out:Out}(h:eD (lim cfg) g xs H=some out):∃n,eD (cK cfg n) g xs H=some out:=by
 unfold eD at h
 split at h
 ·rename_i v H' hc;obtain⟨n,hn⟩:=dL.1 hc;exact⟨n,by unfold eD;rw[hn];exact h⟩
 ·rename_i v H' hc;obtain⟨n,hn⟩:=dL.1 hc;exact⟨n,by unfold eD;rw[hn];exact h⟩
 ·cases h
theorem ot{fv:AV}{xs:List AV}{H:Heap}{out:Out}(h:en (lim cfg) fv xs H=some out):∃n,en (cK cfg n) fv xs H=some out:=by
 unfold en at h
 split at h
 ·rename_i g caps
  split at h
  ·rename_i hd
   split at h
   ·rename_i v _ hc
    obtain⟨n,hn⟩:=dL.1 hc
    split at h
    ·rename_i oO;exact⟨n,by unfold en;simp only[hd,if_true,hn,oO];exact h⟩
    ·rename_i oO
     obtain⟨m,hm⟩:=iP h
     refine⟨max n m,?_⟩
     unfold en
     simp only[hd,if_true,dy cfg (Nat.le_max_left n m) _ _ _ _ hn]
     rw[oO]
     exact eZ (dy cfg (Nat.le_max_right n m)) hm
   ·rename_i v _ hc
    obtain⟨n,hn⟩:=dL.1 hc
    exact⟨n,by unfold en;simp only[hd,if_true,hn];exact h⟩
   ·cases h
  ·rename_i hd
   obtain⟨m,hm⟩:=iP h
   exact⟨m,by unfold en;simp only[hd,if_false];exact hm⟩
 ·split at h
  ·rename_i v H' hc;obtain⟨n,hn⟩:=dL.1 hc;exact⟨n,by unfold en;simp only[hn];exact h⟩
  ·rename_i v H' hc;obtain⟨n,hn⟩:=dL.1 hc;exact⟨n,by unfold en;simp only[hn];exact h⟩
  ·cases h
 ·cases h
theorem Cm{fv:AV}{xs:List AV}{H:Heap}{out:Out}(h:gv (lim cfg) fv xs H=some out):∃n,gv (cK cfg n) fv xs H=some out:=by
 unfold gv at h
 split at h
 ·rename_i g caps
  split at h
  ·rename_i hd
   split at h
   ·rename_i v _ hc
    obtain⟨n,hn⟩:=dL.1 hc
    split at h
    ·rename_i oO;exact⟨n,by unfold gv;simp only[hd,if_true,hn,oO];exact h⟩
    ·rename_i oO
     obtain⟨m,hm⟩:=iP h
     refine⟨max n m,?_⟩
     unfold gv
     simp only[hd,if_true,dy cfg (Nat.le_max_left n m) _ _ _ _ hn]
     rw[if_neg oO]
     exact eZ (dy cfg (Nat.le_max_right n m)) hm
   ·rename_i v _ hc
    obtain⟨n,hn⟩:=dL.1 hc
    exact⟨n,by unfold gv;simp only[hd,if_true,hn];exact h⟩
   ·cases h
  ·rename_i hd
   obtain⟨m,hm⟩:=iP h
   exact⟨m,by unfold gv;simp only[hd,if_false];exact hm⟩
 ·cases h
theorem qD{op:gy}{T:Env}{H:Heap}{out:Out}(h:aR (lim cfg) op T H=some out):∃n,aR (cK cfg n) op T H=some out:=by
 cases op with
 |call f xs=>exact ot h
 |c6 f xs=>exact Cm h
 |_=>exact⟨0,h⟩
theorem mM:∀{ops:List aK}{T:Env}{H:Heap}{out:kX},dx (lim cfg) ops T H=some out→∃n,dx (cK cfg n) ops T H=some out
 |[],T,H,out,h=>⟨0,h⟩
 |o::ops,T,H,out,h=>by
  simp only[dx]at h
  split at h
  ·rename_i hw
   split at h
   ·rename_i v H' ho
    obtain⟨n,hn⟩:=qD ho
    obtain⟨m,hm⟩:=mM h
    refine⟨max n m,?_⟩
    simp only[dx,hw,jt (dy cfg (Nat.le_max_left n m)) hn]
    exact ju (dy cfg (Nat.le_max_right n m)) hm
   ·rename_i v H' ho
    obtain⟨n,hn⟩:=qD ho
    exact⟨n,by simp only[dx,hw,hn];exact h⟩
   ·cases h
  ·rename_i hw
   obtain⟨m,hm⟩:=mM h
   exact⟨m,by simp only[dx,hw];exact hm⟩
  ·cases h
theorem Cn{fv:AV}{xs:List AV}{H:Heap}{out:Out}(h:js (lim cfg) fv xs H=some out):∃n,js (cK cfg n) fv xs H=some out:=by
 unfold js at h
 split at h
 ·split at h
  ·rename_i hd
   split at h
   ·rename_i v _ hc;obtain⟨n,hn⟩:=dL.1 hc;exact⟨n,by unfold js;simp only[hd,if_true,hn];exact h⟩
   ·rename_i v _ hc;obtain⟨n,hn⟩:=dL.1 hc;exact⟨n,by unfold js;simp only[hd,if_true,hn];exact h⟩
   ·cases h
  ·rename_i hd
   obtain⟨v,h1,rfl⟩:=fO h
   obtain⟨n,hn⟩:=iP h1
   exact⟨n,by unfold js;simp only[hd,if_false,hn];exact jL⟩
 ·cases h
theorem zb{fv:AV}{xs:List AV}{H:Heap}{out:Out}(h:ia (lim cfg) fv xs H=some out):∃n,ia (cK cfg n) fv xs H=some out:=by
 unfold ia at h
 split at h
 ·split at h
  ·rename_i hd
   split at h
   ·rename_i v _ hc;obtain⟨n,hn⟩:=dL.1 hc;exact⟨n,by unfold ia;simp only[hd,if_true,hn];exact h⟩
   ·rename_i v _ hc;obtain⟨n,hn⟩:=dL.1 hc;exact⟨n,by unfold ia;simp only[hd,if_true,hn];exact h⟩
   ·cases h
  ·rename_i hd
   obtain⟨v,h1,rfl⟩:=fO h
   obtain⟨n,hn⟩:=iP h1
   exact⟨n,by unfold ia;simp only[hd,if_false,hn];exact jL⟩
 ·cases h
theorem lC{op:gy}{T:Env}{H:Heap}{out:Out}(h:aM (lim cfg) op T H=some out):∃n,aM (cK cfg n) op T H=some out:=by
 cases op with
 |call f xs=>exact Cn h
 |c6 f xs=>exact zb h
 |_=>exact⟨0,h⟩
theorem jb:∀{ops:List aK}{i:Nat}{p:Option (Nat×AV)}{T:Env}{H:Heap}{out:kX},dJ (lim cfg) i ops p T H=some out→∃n,dJ (cK cfg n) i ops p T H=some out
 |[],i,none,T,H,out,h=>⟨0,h⟩
 |[],i,some _,T,H,out,h=>⟨0,h⟩
 |o::ops,i,none,T,H,out,h=>by
  simp only[dJ]at h
  split at h
  ·rename_i hw
   split at h
   ·rename_i v H' ho
    obtain⟨n,hn⟩:=lC ho
    obtain⟨m,hm⟩:=jb h
    refine⟨max n m,?_⟩
    simp only[dJ,hw,fh (dy cfg (Nat.le_max_left n m)) hn]
    exact eO (dy cfg (Nat.le_max_right n m)) hm
   ·rename_i v H' ho
    obtain⟨n,hn⟩:=lC ho
    obtain⟨m,hm⟩:=jb h
    refine⟨max n m,?_⟩
    simp only[dJ,hw,fh (dy cfg (Nat.le_max_left n m)) hn]
    exact eO (dy cfg (Nat.le_max_right n m)) hm
   ·cases h
  ·rename_i hw
   obtain⟨m,hm⟩:=jb h
   exact⟨m,by simp only[dJ,hw];exact hm⟩
  ·cases h
 |o::ops,i,some (p,x),T,H,out,h=>by
  simp only[dJ]at h
  split at h
  ·rename_i hd
   obtain⟨m,hm⟩:=jb h
   exact⟨m,by simp only[dJ,hd,if_true];exact hm⟩
  ·rename_i hd
   split at h
   ·rename_i hw
    split at h
    ·rename_i v H' ho
     obtain⟨n,hn⟩:=lC ho
     obtain⟨m,hm⟩:=jb h
     refine⟨max n m,?_⟩
     simp only[dJ,hd,if_false,hw,fh (dy cfg (Nat.le_max_left n m)) hn]
     exact eO (dy cfg (Nat.le_max_right n m)) hm
    ·cases h
   ·rename_i hw
    obtain⟨m,hm⟩:=jb h
    exact⟨m,by simp only[dJ,hd,if_false,hw];exact hm⟩
   ·cases h
theorem o5{d:Bool}{ops:List aK}{T:Env}{H:Heap}{out:kX}(h:dK (lim cfg) d ops T H=some out):∃n,dK (cK cfg n) d ops T H=some out:=by
 cases d with
 |true=>exact jb h
 |false=>exact mM h
theorem qE{fv A T ps a b H r}(h:gz (lim cfg) fv A T ps a b H=some r):∃n,gz (cK cfg n) fv A T ps a b H=some r:=by
 obtain⟨g,caps,rfl,⟨v,H3,H4,h1,h2,rfl⟩|⟨v,H3,H4,h1,h2,h3,rfl⟩⟩:=jY h
 ·obtain⟨n,hn⟩:=ot h1;exact⟨n,p8 hn h2⟩
 ·obtain⟨n,hn⟩:=ot h1;exact⟨n,p9 hn h2 h3⟩
theorem Jm{A:aO}:∀(n:Nat)(k:List c7)(T:Env)(H:Heap)(r:cZ×Heap),run (lim cfg) A n k T H=some r→∃m,run (cK cfg m) A m k T H=some r:=by
 intro n
 induction n with
 |zero=>intro k T H r e;cases k<;>simp[run]at e
 |succ n ih=>
  intro k T H r e
  have step:∀k' T' H',run (lim cfg) A n k' T' H'=some r→(∀m,run (cK cfg m) A m k' T' H'=some r→∃j,m≤j∧run (cK cfg j) A (j+1) k T H=some r)→∃m,run (cK cfg m) A m k T H=some r:=by
   intro k' T' H' h1 h2
   obtain⟨m,hm⟩:=ih _ _ _ _ h1
   obtain⟨j,_,hj⟩:=h2 m hm
   exact⟨j+1,gQ (jZ cfg j) A _ _ _ _ _ _ (Nat.le_refl _) hj⟩
  cases k with
  |nil=>exact⟨1,e⟩
  |cons it k=>
   cases it with
   |blk id=>exact step _ _ _ e fun m hm=>⟨m,Nat.le_refl _,hm⟩
   |lp b=>exact step _ _ _ e fun m hm=>⟨m,Nat.le_refl _,hm⟩
   |BS l=>
    simp only[run]at e
    split at e
    ·rename_i r0 Ii
     split at e
     ·cases e
     ·rename_i hb
      exact step _ _ _ e fun m hm=>⟨m,Nat.le_refl _,by simp only[run,Ii,hb,Bool.false_eq_true,if_false];exact hm⟩
    ·cases e
   |c c0=>
    cases c0 with
    |skip=>exact step _ _ _ e fun m hm=>⟨m,Nat.le_refl _,hm⟩
    |seq a b=>exact step _ _ _ e fun m hm=>⟨m,Nat.le_refl _,hm⟩
    |cond x a b=>
     simp only[run]at e
     split at e
     ·rename_i t ht
      exact step _ _ _ e fun m hm=>⟨m,Nat.le_refl _,by simp only[run,ht];exact hm⟩
     ·cases e
    |block id b=>exact step _ _ _ e fun m hm=>⟨m,Nat.le_refl _,hm⟩
    |loop b=>exact step _ _ _ e fun m hm=>⟨m,Nat.le_refl _,hm⟩
    |exit id=>
     simp only[run]at e
     split at e
     ·rename_i k' hk'
      exact step _ _ _ e fun m hm=>⟨m,Nat.le_refl _,by simp only[run,hk'];exact hm⟩
     ·cases e
    |ret=>exact⟨1,e⟩
    |region ops d=>
     simp only[run]at e
     split at e
     ·rename_i T' H' hr
      obtain⟨q,hq⟩:=o5 hr
      refine step _ _ _ e fun m hm=>⟨max m q,Nat.le_max_left _ _,?_⟩
      simp only[run,iE (dy cfg (Nat.le_max_right m q)) hq]
      exact gQ (dy cfg (Nat.le_max_left m q)) A _ _ _ _ _ _ (Nat.le_max_left m q) hm
     ·rename_i v H' hr
      obtain⟨q,hq⟩:=o5 hr
      refine⟨q+1,?_⟩
      simp only[run,iE (jZ cfg q) hq]
      exact e
     ·cases e
    |range f ps a b=>
     simp only[run]at e
     split at e
     ·cases e
     ·rename_i hro
      split at e
      ·rename_i H' hr
       obtain⟨q,hq⟩:=qE hr
       refine step _ _ _ e fun m hm=>⟨max m q,Nat.le_max_left _ _,?_⟩
       simp only[run,hro,jv (dy cfg (Nat.le_max_right m q)) hq]
       exact gQ (dy cfg (Nat.le_max_left m q)) A _ _ _ _ _ _ (Nat.le_max_left m q) hm
      ·rename_i v H' hr
       obtain⟨q,hq⟩:=qE hr
       refine⟨q+1,?_⟩
       simp only[run,hro,jv (jZ cfg q) hq]
       exact e
      ·cases e
theorem nA{α:Type}{x y:Option α}(h:∀r,x=some r↔y=some r):x=y:=by
 cases x with
 |some a=>exact((h a).1 rfl).symm
 |none=>
  cases y with
  |none=>rfl
  |some b=>exact(h b).2 rfl
theorem aN{f:FuncId}{A:aO}(ht:cfg.vJ f=false)(hx:cfg.ext f=none)(hA:cfg.F f=some A)(xs:List AV)(H:Heap):lim cfg (.fn f) xs H=bp cfg A [.c A.body] (ay xs) H:=by
 refine nA fun r=> ?_
 rw[dL,nw]
 constructor
 ·rintro⟨n,h⟩
  cases n with
  |zero=>simp[cK]at h
  |succ n=>
   rw[cK]at h
   simp only[ht,Bool.false_eq_true,if_false,hx,hA]at h
   exact⟨n,gQ (MV cfg n) A _ _ _ _ _ _ (Nat.le_refl _) h⟩
 ·rintro⟨n,h⟩
  obtain⟨m,hm⟩:=Jm _ _ _ _ _ h
  refine⟨m+1,?_⟩
  rw[cK]
  simp only[ht,Bool.false_eq_true,if_false,hx,hA]
  exact hm
theorem nB{f:FuncId}{g:List AV→Heap→Option (AV×Heap)}(ht:cfg.vJ f=false)(hx:cfg.ext f=some g)(xs:List AV)(H:Heap):lim cfg (.fn f) xs H=(g xs H).map fun r=>(.ret r.1,r.2):=by
 refine nA fun r=> ?_
 rw[dL]
 constructor
 ·rintro⟨n,h⟩
  cases n with
  |zero=>simp[cK]at h
  |succ n=>
   rw[cK]at h
   simp only[ht,Bool.false_eq_true,if_false,hx]at h
   cases hg:g xs H with
   |none=>rw[hg]at h;cases h
   |some x=>rw[hg]at h;simpa using h
 ·intro h
  refine⟨1,?_⟩
  rw[cK]
  simp only[ht,Bool.false_eq_true,if_false,hx]
  cases hg:g xs H with
  |none=>rw[hg]at h;cases h
  |some x=>rw[hg]at h;simpa using h
theorem FD{n:Nat}{k:Key}{xs:List AV}{H:Heap}{r:cZ×Heap}(h:cK cfg n k xs H=some r):lim cfg k xs H=some r:=dL.2 ⟨n,h⟩
variable{A:aO}{k:List c7}{T:Env}{H:Heap}
theorem fm{it:c7}{k':List c7}{T':Env}{H':Heap}(h:∀n,run (lim cfg) A (n+1) (it::k) T H=run (lim cfg) A n k' T' H'):bp cfg A (it::k) T H=bp cfg A k' T' H':=by
 refine nA fun r=> ?_
 rw[nw,nw]
 constructor
 ·rintro⟨n,e⟩
  cases n with
  |zero=>simp[run]at e
  |succ n=>exact⟨n,by rw[←h];exact e⟩
 ·rintro⟨n,e⟩
  exact⟨n+1,by rw[h];exact e⟩
theorem jO{ks:List c7}{x:Option (cZ×Heap)}(h:∀n,run (lim cfg) A (n+1) ks T H=x):bp cfg A ks T H=x:=by
 refine nA fun r=> ?_
 rw[nw]
 constructor
 ·rintro⟨n,e⟩
  cases n with
  |zero=>cases ks<;>simp[run]at e
  |succ n=>rw[h]at e;exact e
 ·intro e;exact⟨1,by rw[h];exact e⟩
theorem FE:bp cfg A [] T H=p7 A T H:=jO fun n=>rfl
theorem FF{id:Nat}:bp cfg A (.blk id::k) T H=bp cfg A k T H:=fm fun n=>rfl
theorem AZ{b:aD}:bp cfg A (.lp b::k) T H=bp cfg A (.c b::.lp b::k) T H:=fm fun n=>rfl
theorem Co:bp cfg A (.c .skip::k) T H=bp cfg A k T H:=fm fun n=>rfl
theorem wT{a b:aD}:bp cfg A (.c (.seq a b)::k) T H=bp cfg A (.c a::.c b::k) T H:=fm fun n=>rfl
theorem zc{id:Nat}{b:aD}:bp cfg A (.c (.block id b)::k) T H=bp cfg A (.c b::.blk id::k) T H:=fm fun n=>rfl
theorem Cp{b:aD}:bp cfg A (.c (.loop b)::k) T H=bp cfg A (.lp b::k) T H:=by
 rw[AZ];exact fm fun n=>rfl
theorem FG:bp cfg A (.c .ret::k) T H=if A.round then none else p7 A T H:=jO fun n=>rfl
theorem Cq{x:dX}{a b:aD}:bp cfg A (.c (.cond x a b)::k) T H=match ev T x with|.bool t=>bp cfg A (.c (if t then a else b)::k) T H|_=>none:=by
 cases hx:ev T x with
 |bool t=>exact fm fun n=>by simp only[run,hx]
 |_=>exact jO fun n=>by simp only[run,hx]
theorem Cr{id:Nat}:bp cfg A (.c (.exit id)::k) T H=match kJ id k with|some k'=>bp cfg A k' T H|none=>none:=by
 cases hx:kJ id k with
 |some k'=>exact fm fun n=>by simp only[run,hx]
 |none=>exact jO fun n=>by simp only[run,hx]
theorem o6{ops:List aK}{d:Bool}:bp cfg A (.c (.region ops d)::k) T H=match dK (lim cfg) d ops T H with|some (.env T' H')=>bp cfg A k T' H'|some (.cS v H')=>some (.cS v,H')|none=>none:=by
 cases hx:dK (lim cfg) d ops T H with
 |none=>exact jO fun n=>by simp only[run,hx]
 |some o=>
  cases o with
  |env T' H'=>exact fm fun n=>by simp only[run,hx]
  |cS v H'=>exact jO fun n=>by simp only[run,hx]
end
theorem zd{call:bL}{g:FuncId}{caps args:List AV}{H:Heap}:en call (.func g caps) args H=bif(args.all bK&&caps.all bI)then(match call (.fn g) (args++caps) Heap.nil with
 |some (.ret v,H1)=>match dR H1 v with
  |some u=>some (.val u H)
  |none=>eD call g (args++caps) H
 |some (.cS v,_)=>bif bK v then some (.cS v H)else none
 |none=>none)else eD call g (args++caps) H:=by
 simp only[en]
 cases(args.all bK&&caps.all bI)with
 |false=>rfl
 |true=>
  simp only[if_true,cond_true]
  cases call (.fn g) (args++caps) Heap.nil with
  |none=>rfl
  |some r=>
   obtain⟨r1,r2⟩:=r
   cases r1 with
   |ret v=>rfl
   |cS v=>simp only;cases bK v<;>rfl
theorem qF{call:bL}{g:FuncId}{caps args:List AV}{H:Heap}:js call (.func g caps) args H=bif(args.all bK&&caps.all bI)then(match call (.fn g) (args++caps) Heap.nil with
 |some (.ret v,H1)=>match dR H1 v with
  |some u=>some (.val u H)
  |none=>none
 |some (.cS v,_)=>bif bK v then some (.cS v H)else none
 |none=>none)else calm H (eD call g (args++caps) H):=by
 simp only[js]
 cases(args.all bK&&caps.all bI)with
 |false=>rfl
 |true=>
  simp only[if_true,cond_true]
  cases call (.fn g) (args++caps) Heap.nil with
  |none=>rfl
  |some r=>
   obtain⟨r1,r2⟩:=r
   cases r1 with
   |ret v=>rfl
   |cS v=>simp only;cases bK v<;>rfl
theorem qG{H:Heap}{v w:AV}(h:bz v=w∧bK w=true):dR H v=some w:=by
 unfold dR
 rw[h.1,if_pos h.2]
end Go.Aa
namespace Go.Aa
def NN(b:Nat):Prop:=(FloatKind.f64.format.read b).isNaN=false
def cI(b:Nat):Int:=if b/9223372036854775808%2=1 then-(b%9223372036854775808:Nat)else(b%9223372036854775808:Nat)
def cr(r:Nat):Nat:=if r<4503599627370496 then r else(4503599627370496+r%4503599627370496)*2^(r/4503599627370496-1)
theorem jc{r s:Nat}(h:r<s):cr r<cr s:=by
 unfold cr
 by_cases hr:r<4503599627370496
 ·rw[if_pos hr]
  by_cases hs:s<4503599627370496
  ·rw[if_pos hs];exact h
  ·rw[if_neg hs]
   have h1:0<2^(s/4503599627370496-1):=Nat.two_pow_pos _
   have h2:=Nat.mul_le_mul (Nat.le_refl (4503599627370496+s%4503599627370496)) (show 1≤2^(s/4503599627370496-1)from h1)
   omega
 ·rw[if_neg hr,if_neg (show¬s<4503599627370496 by omega)]
  have hq:r/4503599627370496≤s/4503599627370496:=Nat.div_le_div_right (by omega)
  have Sh:1≤r/4503599627370496:=by omega
  rcases Nat.lt_or_ge (r/4503599627370496) (s/4503599627370496)with hlt|hge
  ·have e1:(4503599627370496+r%4503599627370496)*2^(r/4503599627370496-1)<9007199254740992*2^(r/4503599627370496-1):=
    Nat.mul_lt_mul_of_pos_right (by omega) (Nat.two_pow_pos _)
   have e2:9007199254740992*2^(r/4503599627370496-1)=4503599627370496*2^(r/4503599627370496):=by
    obtain⟨q,yS⟩:∃q,r/4503599627370496=q+1:=⟨r/4503599627370496-1,by omega⟩
    rw[yS,Nat.add_sub_cancel,Nat.pow_succ]
    omega
   have e3:2^(r/4503599627370496)≤2^(s/4503599627370496-1):=Nat.pow_le_pow_right (by omega) (by omega)
   have e4:4503599627370496*2^(r/4503599627370496)≤(4503599627370496+s%4503599627370496)*2^(s/4503599627370496-1):=Nat.mul_le_mul (by omega) e3
   omega
  ·have he:s/4503599627370496=r/4503599627370496:=by omega
   rw[he]
   exact Nat.mul_lt_mul_of_pos_right (by omega) (Nat.two_pow_pos _)
theorem si(s t:Bool)(a b:Nat):compare (if s then-(cr a:Int)else cr a) (if t then-(cr b:Int)else cr b)=compare (if s then-(a:Int)else a) (if t then-(b:Int)else b):=by
 have w0:cr 0=0:=rfl
 have wp:∀x,0<x→0<cr x:=fun x hx=>by have:=jc hx;rw[w0]at this;exact this
 have key:∀x y u v:Int,(x<y↔u<v)→(y<x↔v<u)→compare x y=compare u v:=by
  intro x y u v h1 h2
  simp only[compare,compareOfLessAndEq]
  by_cases hxy:x<y
  ·rw[if_pos hxy,if_pos (h1.1 hxy)]
  ·rw[if_neg hxy,if_neg (fun h=>hxy (h1.2 h))]
   by_cases he:x=y
   ·rw[if_pos he,if_pos (by
     have a1:¬u<v:=fun h=>hxy (h1.2 h)
     have a2:¬v<u:=fun h=>by have:=h2.2 h;omega
     omega)]
   ·rw[if_neg he,if_neg (fun h=>by
     have a1:y<x:=by omega
     have:=h2.1 a1
     omega)]
 rcases Nat.lt_trichotomy a b with h|h|h
 ·have hw:=jc h
  rcases Nat.eq_zero_or_pos a with ha|ha
  ·subst ha
   have:=wp b h
   rw[w0]at hw⊢
   cases s<;>cases t<;>refine key _ _ _ _ ?_ ?_<;>simp<;>omega
  ·have h1:=wp a ha
   cases s<;>cases t<;>refine key _ _ _ _ ?_ ?_<;>simp<;>omega
 ·subst h
  rcases Nat.eq_zero_or_pos a with ha|ha
  ·subst ha;rw[w0]
  ·have h1:=wp a ha
   cases s<;>cases t<;>refine key _ _ _ _ ?_ ?_<;>simp<;>omega
 ·have hw:=jc h
  rcases Nat.eq_zero_or_pos b with hb|hb
  ·subst hb
   have:=wp a h
   rw[w0]at hw⊢
   cases s<;>cases t<;>refine key _ _ _ _ ?_ ?_<;>simp<;>omega
  ·have h1:=wp b hb
   cases s<;>cases t<;>refine key _ _ _ _ ?_ ?_<;>simp<;>omega
theorem tD(s:Bool)(m k:Nat):Ieee.signed s m k=if s then-((m*2^k:Nat):Int)else((m*2^k:Nat):Int):=by
 unfold Ieee.signed
 rw[Nat.shiftLeft_eq]
theorem sj(x y:Int)(k:Nat):compare (x*2^k) (y*2^k)=compare x y:=by
 have hp:(0:Int)<2^k:=by exact_mod_cast Nat.two_pow_pos k
 simp only[compare,compareOfLessAndEq]
 have h1:x*2^k<y*2^k↔x<y:=Int.mul_lt_mul_right hp
 have h2:x*2^k=y*2^k↔x=y:=⟨fun h=>Int.eq_of_mul_eq_mul_right (by omega) h,fun h=>by rw[h]⟩
 simp only[h1,h2]
theorem qH(s t:Bool)(m n i j:Nat):compare (Ieee.signed s m (i-min i j)) (Ieee.signed t n (j-min i j))=
 compare (if s then-((m*2^i:Nat):Int)else((m*2^i:Nat):Int)) (if t then-((n*2^j:Nat):Int)else((n*2^j:Nat):Int)):=by
 rw[←sj _ _ (min i j),tD,tD]
 have e1:((m*2^(i-min i j):Nat):Int)*2^(min i j)=((m*2^i:Nat):Int):=by
  have:m*2^(i-min i j)*2^(min i j)=m*2^i:=by
   rw[Nat.mul_assoc,←Nat.pow_add,Nat.sub_add_cancel (Nat.min_le_left _ _)]
  rw[←this];push_cast;rfl
 have e2:((n*2^(j-min i j):Nat):Int)*2^(min i j)=((n*2^j:Nat):Int):=by
  have:n*2^(j-min i j)*2^(min i j)=n*2^j:=by
   rw[Nat.mul_assoc,←Nat.pow_add,Nat.sub_add_cancel (Nat.min_le_right _ _)]
  rw[←this];push_cast;rfl
 congr 1
 ·cases s
  ·simp only[Bool.false_eq_true,if_false];exact e1
  ·simp only[if_true];rw[Int.neg_mul,e1]
 ·cases t
  ·simp only[Bool.false_eq_true,if_false];exact e2
  ·simp only[if_true];rw[Int.neg_mul,e2]
inductive Reads(b:Nat):Prop
 |number(m k:Nat)(h:FloatKind.f64.format.read b=.number (decide (b/9223372036854775808%2=1)) m (-1074+(k:Int)))(hw:m*2^k=cr (b%9223372036854775808))(hlt:b%9223372036854775808<9218868437227405312)
 |inf(h:FloatKind.f64.format.read b=.infinity (decide (b/9223372036854775808%2=1)))(he:b%9223372036854775808=9218868437227405312)
 |nan(s:Bool)(x:Nat)(h:FloatKind.f64.format.read b=.nan s x)(hgt:9218868437227405312<b%9223372036854775808)
theorem reads(b:Nat):Reads b:=by
 have e1:FloatKind.f64.format.signWeight=9223372036854775808:=rfl
 have e2:FloatKind.f64.format.binade=4503599627370496:=rfl
 have e3:FloatKind.f64.format.infRung=9218868437227405312:=rfl
 have e4:FloatKind.f64.format.leastPlace= -1074:=rfl
 have es:(b/9223372036854775808%2==1)=decide (b/9223372036854775808%2=1):=by
  by_cases h:b/9223372036854775808%2=1<;>simp[h]
 by_cases h1:b%9223372036854775808<4503599627370496
 ·refine .number (b%9223372036854775808) 0 ?_ ?_ (by omega)
  ·unfold Ieee.Format.read
   simp only[e1,e2,e3,e4,es]
   rw[if_pos h1]
   simp
  ·unfold cr;rw[if_pos h1];simp
 ·by_cases h2:b%9223372036854775808<9218868437227405312
  ·refine .number (4503599627370496+b%9223372036854775808%4503599627370496) (b%9223372036854775808/4503599627370496-1) ?_ ?_ h2
   ·unfold Ieee.Format.read
    simp only[e1,e2,e3,e4,es]
    rw[if_neg h1,if_pos h2]
   ·unfold cr;rw[if_neg h1]
  ·by_cases h3:b%9223372036854775808=9218868437227405312
   ·refine .inf ?_ h3
    unfold Ieee.Format.read
    simp only[e1,e2,e3,e4,es]
    rw[if_neg h1,if_neg h2,if_pos h3]
   ·refine .nan (decide (b/9223372036854775808%2=1)) (b%9223372036854775808-9218868437227405312) ?_ (by omega)
    unfold Ieee.Format.read
    simp only[e1,e2,e3,e4,es]
    rw[if_neg h1,if_neg h2,if_neg h3]
theorem ou(b:Nat):NN b↔b%9223372036854775808≤9218868437227405312:=by
 unfold NN
 rcases reads b with⟨m,k,h,hw,hlt⟩|⟨h,he⟩|⟨s,x,h,hgt⟩
 ·rw[h];simp[Ieee.Datum.isNaN];omega
 ·rw[h];simp[Ieee.Datum.isNaN];omega
 ·rw[h];simp[Ieee.Datum.isNaN];omega
theorem jz(b:Nat):cI b=if decide (b/9223372036854775808%2=1)then-((b%9223372036854775808:Nat):Int)else((b%9223372036854775808:Nat):Int):=by
 unfold cI
 by_cases h:b/9223372036854775808%2=1<;>simp[h]
theorem qI{a b:Nat}(ha:NN a)(hb:NN b):bP (some a) (some b)=some (compare (cI a) (cI b)):=by
 rw[ou]at ha hb
 unfold bP Ieee.Format.order
 simp only
 have cl:∀x y:Int,x<y→compare x y=.lt:=fun x y h=>by simp[compare,compareOfLessAndEq,h]
 have cg:∀x y:Int,y<x→compare x y=.gt:=fun x y h=>by
  have h1:¬x<y:=by omega
  have h2:¬x=y:=by omega
  simp[compare,compareOfLessAndEq,h1,h2]
 rcases reads a with⟨m,i,h,hw,hlt⟩|⟨h,he⟩|⟨s,x,h,hgt⟩
 ·rcases reads b with⟨n,j,h',hw',hlt'⟩|⟨h',he'⟩|⟨s',x',h',TC⟩
  ·rw[h,h']
   simp only[Ieee.Datum.order]
   have e1:((-1074+(i:Int))-min (-1074+(i:Int)) (-1074+(j:Int))).toNat=i-min i j:=by omega
   have e2:((-1074+(j:Int))-min (-1074+(i:Int)) (-1074+(j:Int))).toNat=j-min i j:=by omega
   rw[e1,e2,qH,hw,hw',si,jz,jz]
  ·rw[h,h',jz,jz,he']
   simp only[Ieee.Datum.order]
   by_cases ht:b/9223372036854775808%2=1
   ·simp only[ht,decide_true,if_true]
    rw[cg]
    split<;>omega
   ·simp only[ht,decide_false,Bool.false_eq_true,if_false]
    rw[cl]
    split<;>omega
  ·omega
 ·rcases reads b with⟨n,j,h',hw',hlt'⟩|⟨h',he'⟩|⟨s',x',h',TC⟩
  ·rw[h,h',jz,jz,he]
   simp only[Ieee.Datum.order]
   by_cases ht:a/9223372036854775808%2=1
   ·simp only[ht,decide_true,if_true]
    rw[cl]
    split<;>omega
   ·simp only[ht,decide_false,Bool.false_eq_true,if_false]
    rw[cg]
    split<;>omega
  ·rw[h,h',jz,jz,he,he']
   simp only[Ieee.Datum.order]
   by_cases hs:a/9223372036854775808%2=1<;>by_cases ht:b/9223372036854775808%2=1<;>simp[hs,ht,compare,compareOfLessAndEq]
  ·omega
 ·omega
theorem MW(x y:Int):(compare x y==Ordering.lt)=decide (x<y):=by
 simp only[compare,compareOfLessAndEq]
 by_cases h:x<y
 ·simp[h]
 ·by_cases h2:x=y<;>simp[h,h2]
theorem MX(x y:Int):(compare x y==Ordering.gt)=decide (y<x):=by
 simp only[compare,compareOfLessAndEq]
 by_cases h:x<y
 ·have:¬y<x:=by omega
  simp[h,this]
 ·by_cases h2:x=y
  ·subst h2;simp
  ·have:y<x:=by omega
   simp[h,h2,this]
theorem cmp_eq(x y:Int):(compare x y==Ordering.eq)=decide (x=y):=by
 simp only[compare,compareOfLessAndEq]
 by_cases h:x<y
 ·have:¬x=y:=by omega
  simp[h,this]
 ·by_cases h2:x=y<;>simp[h,h2]
theorem Cs{b:Nat}(h:b<18446744073709551616):(IntKind.i64.wrap (b:Int)<0)↔b/9223372036854775808%2=1:=by
 have:IntKind.i64.wrap (b:Int)=if b<9223372036854775808 then(b:Int)else(b:Int)-18446744073709551616:=by
  have e:((b:Int)%18446744073709551616)=b:=Int.emod_eq_of_lt (by omega) (by omega)
  simp only[IntKind.wrap,IntKind.bits,IntKind.signed,Bool.true_and,show(2:Int)^64=18446744073709551616 from rfl,show(2:Int)^(64-1)=9223372036854775808 from rfl,e,decide_eq_true_eq]
  split<;>split<;>omega
 rw[this]
 split<;>omega
theorem A2(b:Nat):Op.negFloat .f64 b%9223372036854775808=b%9223372036854775808:=by
 have e:Op.negFloat .f64 b=b^^^2^63:=rfl
 rw[e]
 have h:=Nat.xor_mod_two_pow (a:=b) (b:=2^63) (n:=63)
 rw[Nat.mod_self,Nat.xor_zero]at h
 exact h
theorem Jn(b:Nat):Op.negFloat .f64 b/9223372036854775808%2=1-b/9223372036854775808%2:=by
 have e:Op.negFloat .f64 b=b^^^2^63:=rfl
 rw[e]
 have h:(b^^^2^63)/2^63=(b/2^63)^^^1:=by
  rw[←Nat.shiftRight_eq_div_pow,←Nat.shiftRight_eq_div_pow,Nat.shiftRight_xor_distrib]
  rfl
 have h2:(b^^^2^63)/9223372036854775808=(b/9223372036854775808)^^^1:=h
 rw[h2]
 generalize b/9223372036854775808=q
 have h3:=Nat.xor_mod_two_pow (a:=q) (b:=1) (n:=1)
 simp only[Nat.pow_one]at h3
 rw[h3]
 have:q%2=0∨q%2=1:=by omega
 rcases this with h|h<;>rw[h]<;>rfl
theorem FH(b:Nat):cI (Op.negFloat .f64 b)= -cI b:=by
 unfold cI
 rw[A2,Jn]
 have:b/9223372036854775808%2=0∨b/9223372036854775808%2=1:=by omega
 rcases this with h|h<;>rw[h]<;>simp
theorem MY{b:Nat}(h:NN b):NN (Op.negFloat .f64 b):=by
 rw[ou]at h⊢
 rw[A2];exact h
end Go.Aa
namespace Go.Aa
inductive Sc where
 |ret(v:AV)
 |dec(b:Bool)
 |op(v:AV)(H:Heap)
 |cut
theorem wU{T:Env}{g:Nat}{v:AV}(h:T g=v):DM T g v=T:=by
 funext i
 rw[hO]
 split
 ·rename_i e;rw[e,h]
 ·rfl
end Go.Aa
namespace Go.Aa
def cl(T:Env)(x:dX):dX:=.c (ev T x)
def ic(T:Env):gy→gy
 |.aE x=>.aE (cl T x)
 |.pick c a b=>.pick (cl T c) (cl T a) (cl T b)
 |.box x=>.box (cl T x)
 |.build z ps=>.build z (ps.map fun p=>(p.1,p.2.1,cl T p.2.2))
 |.bO es xs=>.bO es (xs.map (cl T))
 |.eT es xs=>.eT es (xs.map (cl T))
 |.kI es b z x=>.kI es b z (cl T x)
 |.fE z x=>.fE z (cl T x)
 |.c6 f az=>.c6 (cl T f) (az.map (cl T))
 |.dZ es b x y=>.dZ es b (cl T x) (cl T y)
 |.load a n x=>.load a n (cl T x)
 |.store n x v=>.store n (cl T x) (cl T v)
 |.mz x=>.mz (cl T x)
 |.bin o x y=>.bin o (cl T x) (cl T y)
 |.rY g ks x y=>.rY g ks (cl T x) (cl T y)
 |.Io g x y=>.Io g (cl T x) (cl T y)
 |.mh g k x=>.mh g k (cl T x)
 |.un o x=>.un o (cl T x)
 |.conv c x=>.conv c (cl T x)
 |.iD t x=>.iD t (cl T x)
 |.cV f caps=>.cV f (caps.map (cl T))
 |.slice es x lo hi mx=>.slice es (cl T x) (lo.map (cl T)) (hi.map (cl T)) (mx.map (cl T))
 |.bn a b x=>.bn a b (cl T x)
 |.yD g a b x=>.yD g a b (cl T x)
 |.idx es x i=>.idx es (cl T x) (cl T i)
 |.idxs x i=>.idxs (cl T x) (cl T i)
 |.extract x i=>.extract (cl T x) i
 |.call f az=>.call (cl T f) (az.map (cl T))
 |.len s x=>.len s (cl T x)
 |.append es b x y=>.append es b (cl T x) (cl T y)
 |.mm m x y=>.mm m (cl T x) (cl T y)
 |.panic x=>.panic (cl T x)
theorem qJ(T T':Env)(x:dX):ev T' (cl T x)=ev T x:=rfl
theorem MZ(T T':Env)(xs:List dX):(xs.map (cl T)).map (ev T')=xs.map (ev T):=by
 rw[List.map_map];exact List.map_congr_left fun a _=>rfl
theorem M0(T T':Env)(x:Option dX):(x.map (cl T)).map (ev T')=x.map (ev T):=by cases x<;>rfl
theorem pP(T T':Env)(op:gy):cj (ic T op) T'=cj op T:=by
 cases op with
 |build z ps=>simp only[ic,cj,List.map_map,Function.comp_def,qJ]
 |bO es xs=>simp only[ic,cj,List.map_map,Function.comp_def,qJ]
 |cV f caps=>simp only[ic,cj,MZ]
 |slice es x lo hi mx=>simp only[ic,cj,M0,qJ]
 |_=>rfl
theorem gN(call:bL)(T T':Env)(op:gy)(H:Heap):aR call (ic T op) T' H=aR call op T H:=by
 cases op with
 |build z ps=>exact congrArg (fun x=>match x with|some v=>some (Out.val v H)|none=>none) (pP T T' (.build z ps))
 |bO es xs=>exact congrArg (fun x=>match x with|some v=>some (Out.val v H)|none=>none) (pP T T' (.bO es xs))
 |cV f caps=>exact congrArg (fun x=>match x with|some v=>some (Out.val v H)|none=>none) (pP T T' (.cV f caps))
 |slice es x lo hi mx=>exact congrArg (fun x=>match x with|some v=>some (Out.val v H)|none=>none) (pP T T' (.slice es x lo hi mx))
 |call f az=>
  simp only[ic,aR,qJ,List.map_map]
  congr 1
 |c6 f az=>
  simp only[ic,aR,qJ,List.map_map]
  congr 1
 |eT es xs=>
  simp only[ic,aR,List.map_map]
  rfl
 |_=>rfl
theorem nC(call:bL)(T T':Env)(op:gy)(H:Heap):aM call (ic T op) T' H=aM call op T H:=by
 cases op with
 |call f az=>
  simp only[ic,aM,qJ,List.map_map]
  congr 1
 |c6 f az=>
  simp only[ic,aM,qJ,List.map_map]
  congr 1
 |eT es xs=>exact gN call T T' (.eT es xs) H
 |aE x=>exact gN call T T' (.aE x) H
 |pick a b c=>exact gN call T T' (.pick a b c) H
 |box x=>exact gN call T T' (.box x) H
 |build z ps=>exact gN call T T' (.build z ps) H
 |bO es xs=>exact gN call T T' (.bO es xs) H
 |cV f caps=>exact gN call T T' (.cV f caps) H
 |slice es x lo hi mx=>exact gN call T T' (.slice es x lo hi mx) H
 |_=>rfl
def Qw:BinOp→Nat
 |.add=>1|.sub=>2|.mul=>3|.quo=>4|.rem=>5|.eql=>6|.neq=>7|.lss=>8|.leq=>9|.gtr=>10|.geq=>11|_=>12
def tag:gy→Nat
 |.aE _=>1|.pick .. =>2|.box _=>3|.build .. =>4|.bO .. =>5|.load .. =>6|.store .. =>7|.mz _=>8|.rY .. =>9|.Io .. =>10|.mh .. =>11
 |.un .. =>12|.conv .. =>13|.iD .. =>14|.cV .. =>15|.slice .. =>16|.bn .. =>17|.yD .. =>18|.idx .. =>19|.idxs .. =>20|.extract .. =>21
 |.call .. =>22|.len .. =>23|.append .. =>24|.mm .. =>25|.panic _=>26
 |.eT .. =>27|.dZ .. =>28|.kI .. =>29|.fE .. =>30|.c6 .. =>31
 |.bin o _ _=>100+Qw o
def FI(o:gy):Bool:=match o with
 |.call .. |.idx .. |.idxs .. |.slice .. |.append .. |.panic _|.dZ .. |.kI .. |.fE .. |.c6 .. =>true
 |_=>false
def ze(o:gy):Bool:=match o with
 |.call .. =>true
 |.c6 .. =>true
 |_=>false
theorem FJ{call:bL}{o:gy}(h:ze o=false)(T:Env)(H:Heap):aM call o T H=aR call o T H:=by
 cases o<;>first|rfl|cases h
def Has(T:Env):List (Nat×AV)→Prop
 |[]=>True
 |(i,v)::r=>T i=v∧Has T r
def bJ(T:Env):List (Nat×AV)→Env
 |[]=>T
 |(i,v)::r=>DM (bJ T r) i v
theorem tE{T:Env}:∀{vs:List (Nat×AV)},Has T vs→bJ T vs=T
 |[],_=>rfl
 |(i,v)::r,h=>by rw[bJ,tE h.2];exact wU h.1
theorem zf{T:Env}:∀{vs:List (Nat×AV)},vs.map (fun p=>T p.1)=vs.map (fun p=>p.2)→Has T vs
 |[],_=>trivial
 |(i,v)::r,h=>by
  simp only[List.map_cons,List.cons.injEq]at h
  exact⟨h.1,zf h.2⟩
inductive bN(cfg:mj)(A:aO)(R:cZ×Heap→Prop)where
 |fin(r:cZ×Heap)(h:R r)
 |dec(b p:Bool)(h:p=b)(s:bN cfg A R)
 |op(o:gy)(v:AV)(h:∀T H,aM (lim cfg) o T H=some (.val v H))(s:bN cfg A R)
 |yB(o:gy)(H:Heap)(v:AV)(H':Heap)(h:∀T,aR (lim cfg) o T H=some (.val v H'))(s:bN cfg A R)
 |cS(o:gy)(H:Heap)(v:AV)(H':Heap)(h:∀T,aM (lim cfg) o T H=some (.cS v H'))(hq:R (.cS v,H'))
 |Jo(o:gy)(H:Heap)(v:AV)(H':Heap)(h:∀T,aR (lim cfg) o T H=some (.cS v H'))(hq:R (.cS v,H'))
 |aT(k:List c7)(vs:List (Nat×AV))(H:Heap)(h:∀T,Has T vs→∃r,bp cfg A k T H=some r∧R r)
 |split(p:Prop)(s1:p→bN cfg A R)(s2:¬p→bN cfg A R)
 |Jp(o:gy)(H:Heap)(v:AV)(h:∀T,aM (lim cfg) o T H=some (.val v H))(s:bN cfg A R)
abbrev XF(cfg:mj)(A:aO)(r:cZ×Heap):=bN cfg A (fun x=>x=r)
inductive me where
 |av(x:AV)(c:me)
 |op(o:gy)(c:me)
 |yB(o:gy)(H:Heap)(c:me)
 |cS(o:gy)(H:Heap)
 |cut(k:List c7)(vs:List AV)(H:Heap)
 |res(r:Option (cZ×Heap))
 |want(o:gy)(H:Heap)
 |FL(x:AV)
 |stuck
 |split(p:Prop)(f:p→me)(g:¬p→me)
section
variable{cfg:mj}{A:aO}{R:cZ×Heap→Prop}
def cD:bN cfg A R→me
 |.fin r h=>.res (some r)
 |.dec b p h s=>.av (.bool p) (cD s)
 |.op o v h s=>.op o (cD s)
 |.yB o H v H' h s=>.yB o H (cD s)
 |.Jp o H v h s=>.yB o H (cD s)
 |.cS o H v H' h hq=>.cS o H
 |.Jo o H v H' h hq=>.cS o H
 |.aT k vs H h=>.cut k (vs.map fun p=>p.2) H
 |.split p s1 s2=>.split p (fun h=>cD (s1 h)) (fun h=>cD (s2 h))
theorem o7(s:bN cfg A R){o:gy}{H:Heap}:cD s≠.want o H:=by cases s<;>simp[cD]
theorem nD(s:bN cfg A R){x:AV}:cD s≠.FL x:=by cases s<;>simp[cD]
theorem c9(s:bN cfg A R):cD s≠.stuck:=by cases s<;>simp[cD]
def Ct:bN cfg A R→(bN cfg A R→me)→me
 |.split p s1 s2,K=>.split p (fun h=>Ct (s1 h) K) (fun h=>Ct (s2 h) K)
 |.fin r h,K=>K (.fin r h)
 |.dec b p h s,K=>K (.dec b p h s)
 |.op o v h s,K=>K (.op o v h s)
 |.yB o H v H' h s,K=>K (.yB o H v H' h s)
 |.Jp o H v h s,K=>K (.Jp o H v h s)
 |.cS o H v H' h hq,K=>K (.cS o H v H' h hq)
 |.Jo o H v H' h hq,K=>K (.Jo o H v H' h hq)
 |.aT k vs H h,K=>K (.aT k vs H h)
theorem iQ{K:bN cfg A R→me}:∀{s:bN cfg A R},Ct s K=cD s→∃s',K s'=cD s':=by
 intro s
 induction s with
 |split p s1 s2 h1 h2=>
  intro h
  simp only[Ct,cD,me.split.injEq,heq_eq_eq,true_and]at h
  by_cases hp:p
  ·exact h1 hp (congrFun h.1 hp)
  ·exact h2 hp (congrFun h.2 hp)
 |_=>exact fun h=>⟨_,h⟩
noncomputable def auto(cfg:mj)(K:Env→Heap→me)(d:Option Nat)(o:gy)(T:Env)(H:Heap):me:=
 bif FI o then .want (ic T o) H else match aM (lim cfg) o T H with
 |some (.val v H')=>K (aU T d v) H'
 |_=>.want (ic T o) H
noncomputable def qK(draw:Bool)(last:Heap→Bool)(K:bN cfg A R→Env→Heap→me)(s:bN cfg A R)(d:Option Nat)(o:gy)(T:Env)(H:Heap):me:=
 match s with
 |.op o' v h s'=>bif tag o'==tag o then .op (ic T o) (Ct s' fun s'=>K s' (aU T d v) H)else auto cfg (K s) d o T H
 |.yB o' H0 v H' h s'=>bif tag o'==tag o then(bif draw&&ze o then .stuck else .yB (ic T o) H (Ct s' fun s'=>K s' (aU T d v) H'))else auto cfg (K s) d o T H
 |.Jp o' H0 v h s'=>bif tag o'==tag o then .yB (ic T o) H (Ct s' fun s'=>K s' (aU T d v) H)else auto cfg (K s) d o T H
 |.cS o' H0 v H' h hq=>bif tag o'==tag o then(bif draw&& !last H' then .stuck else .cS (ic T o) H)else auto cfg (K s) d o T H
 |.Jo o' H0 v H' h hq=>bif tag o'==tag o then(bif draw then .stuck else .cS (ic T o) H)else auto cfg (K s) d o T H
 |s=>auto cfg (K s) d o T H
def qL(o:gy)(T:Env)(H:Heap):Option AV:=match o with
 |.aE x=>some (ev T x)
 |.idx es x i=>cc es (ev T x) (ev T i)
 |.idxs x i=>jK (ev T x) (ev T i)
 |.bn a b x=>BR a b (ev T x)
 |.len s x=>dA s (ev T x)
 |.bin b x y=>cG b (ev T x) (ev T y)
 |.load a n x=>ak a n H (ev T x)
 |_=>none
theorem zg{o:gy}{T:Env}{H:Heap}{v:AV}(h:qL o T H=some v)(call:bL):aM call o T H=some (.val v H):=by
 cases o<;>simp only[qL,reduceCtorEq]at h<;>simp only[aM,aR,cj,h]
def quiet(p:Nat):List aK→Env→Heap→Bool
 |[],_,_=>true
 |o::r,T,H=>bif o.deps.contains p then quiet p r T H else match o.guard with
  |some _=>false
  |none=>match qL o.op T H with
   |some v=>quiet p r (aU T o.dst v) H
   |none=>false
theorem mN{call:bL}{p:Nat}{v:AV}:∀{ops:List aK}(i:Nat){T:Env}{H:Heap},quiet p ops T H=true→dJ call i ops (some (p,v)) T H=some (.cS v H)
 |[],_,_,_,_=>rfl
 |o::ops,i,T,H,h=>by
  unfold quiet at h
  cases hd:o.deps.contains p with
  |true=>
   rw[hd]at h
   simp only[dJ,hd,if_true]
   exact mN _ h
  |false=>
   rw[hd]at h
   simp only[cond_false]at h
   split at h
   ·cases h
   ·rename_i hg
    split at h
    ·rename_i u hu
     have hw:cJ o T=some true:=by unfold cJ;rw[hg]
     simp only[dJ,hd,hw,zg hu,Bool.false_eq_true,if_false]
     exact mN _ h
    ·cases h
def qM(i:Nat)(ops:List aK)(T:Env)(H:Heap):Bool:=(ops.all fun o=>o.deps.contains i)||quiet i ops T H
noncomputable def fY(draw:Bool)(Q:bN cfg A R→Env→Heap→me):Nat→List Nat→List aK→bN cfg A R→Env→Heap→me
 |_,_,[],s,T,H=>Q s T H
 |i,kn,o::ops,s,T,H=>
  match o.guard with
  |none=>qK draw (fun H'=>qM i ops T H') (fun s T H=>fY draw Q (i+1) kn ops s T H) s o.dst o.op T H
  |some (g,w)=>
   match T g with
   |.tuple []=>fY draw Q (i+1) kn ops s (aU T o.dst (.tuple [])) H
   |.bool p'=>
    bif kn.contains g then bif p'==w then qK draw (fun H'=>qM i ops T H') (fun s T H=>fY draw Q (i+1) kn ops s T H) s o.dst o.op T H else fY draw Q (i+1) kn ops s (aU T o.dst (.tuple [])) H
    else
    match s with
    |.dec b p h s=>.av (.bool p') (Ct s fun s=>bif b==w then qK draw (fun H'=>qM i ops T H') (fun s T H=>fY draw Q (i+1) (g::kn) ops s T H) s o.dst o.op (DM T g (.bool b)) H
      else fY draw Q (i+1) (g::kn) ops s (aU (DM T g (.bool b)) o.dst (.tuple [])) H)
    |_=>.FL (.bool p')
   |_=>.stuck
noncomputable def mg:Nat→List c7→bN cfg A R→Env→Heap→me
 |0,_,_,_,_=>.stuck
 |n+1,k,s,T,H=>
  match k with
  |[]=>match s with
   |.fin _ _=>.res (p7 A T H)
   |_=>.stuck
  |.blk _::k=>mg n k s T H
  |.lp b::k=>match s with
   |.aT k' vs H' h=>.cut (.lp b::k) (vs.map fun p=>T p.1) H
   |s=>mg n (.c b::.lp b::k) s T H
  |.BS _::k=>.stuck
  |.c c::k=>
   match c with
   |.skip=>mg n k s T H
   |.seq a b=>mg n (.c a::.c b::k) s T H
   |.cond x a b=>match s with
    |.dec t p h s=>.av (ev T x) (Ct s fun s=>mg n (.c (bif t then a else b)::k) s T H)
    |_=>.FL (ev T x)
   |.block id b=>mg n (.c b::.blk id::k) s T H
   |.loop b=>mg n (.lp b::k) s T H
   |.exit id=>match kJ id k with
    |some k'=>mg n k' s T H
    |none=>.stuck
   |.ret=>match s with
    |.fin _ _=>bif A.round then .stuck else .res (p7 A T H)
    |_=>.stuck
   |.region ops draw=>bif draw then fY true (fun s T H=>mg n k s T H) 0 [] (fU H.boxes.length ops) s T (iw H (cx ops))else fY false (fun s T H=>mg n k s T H) 0 [] ops s T H
   |.range f ps a b=>match s with
    |.aT k' vs H' h=>.cut (.c (.range f ps a b)::k) (vs.map fun p=>T p.1) H
    |_=>.stuck
theorem zh{K:Env→Heap→me}{s:bN cfg A R}{d:Option Nat}{o:gy}{T:Env}{H:Heap}(h:auto cfg K d o T H=cD s):∃v H',aM (lim cfg) o T H=some (.val v H')∧K (aU T d v) H'=cD s:=by
 unfold auto at h
 cases hm:FI o with
 |true=>rw[hm]at h;exact absurd h.symm (o7 s)
 |false=>
  rw[hm]at h
  simp only[cond_false]at h
  split at h
  ·rename_i v H' ho;exact⟨v,H',ho,h⟩
  ·exact absurd h.symm (o7 s)
def Qx(cfg:mj)(A:aO)(R:cZ×Heap→Prop)(draw:Bool)(last:Heap→Bool)(K:bN cfg A R→Env→Heap→me)(d:Option Nat)(o:gy)(T:Env)(H:Heap):Prop:=
 (∃v H' s',aR (lim cfg) o T H=some (.val v H')∧(draw=true→aM (lim cfg) o T H=some (.val v H'))∧K s' (aU T d v) H'=cD s')∨
 (∃v H',aR (lim cfg) o T H=some (.cS v H')∧(draw=true→aM (lim cfg) o T H=some (.cS v H')∧last H'=true)∧R (.cS v,H'))
theorem wV{draw:Bool}{last:Heap→Bool}{K:bN cfg A R→Env→Heap→me}{s:bN cfg A R}{d:Option Nat}{o:gy}{T:Env}{H:Heap}(h:qK draw last K s d o T H=cD s):Qx cfg A R draw last K d o T H:=by
 have au:auto cfg (K s) d o T H=cD s→Qx cfg A R draw last K d o T H:=fun h=>by
  obtain⟨v,H',h1,h2⟩:=zh h
  exact .inl ⟨v,H',s,iX h1,fun _=>h1,h2⟩
 unfold qK at h
 split at h
 ·rename_i o' v hp s'
  cases ht:tag o'==tag o with
  |false=>rw[ht]at h;exact au h
  |true=>
   rw[ht]at h
   simp only[cond_true,cD,me.op.injEq]at h
   have e:aM (lim cfg) o T H=some (.val v H):=by
    have hh:=hp T H
    rw[←hh,←h.1,nC]
   obtain⟨s2,h2⟩:=iQ h.2
   exact .inl ⟨v,H,s2,iX e,fun _=>e,h2⟩
 ·rename_i o' H0 v H' hp s'
  cases ht:tag o'==tag o with
  |false=>rw[ht]at h;exact au h
  |true=>
   rw[ht]at h
   simp only[cond_true]at h
   cases hd:draw&&ze o with
   |true=>rw[hd]at h;exact absurd h.symm (c9 _)
   |false=>
    rw[hd]at h
    simp only[cond_false,cD,me.yB.injEq]at h
    have e:aR (lim cfg) o T H=some (.val v H'):=by
     have hh:=hp T
     rw[←hh,←h.1,h.2.1,gN]
    obtain⟨s2,h2⟩:=iQ h.2.2
    refine .inl ⟨v,H',s2,e,fun gU=> ?_,h2⟩
    rw[gU,Bool.true_and]at hd
    rw[FJ hd];exact e
 ·rename_i o' H0 v hp s'
  cases ht:tag o'==tag o with
  |false=>rw[ht]at h;exact au h
  |true=>
   rw[ht]at h
   simp only[cond_true,cD,me.yB.injEq]at h
   have e:aM (lim cfg) o T H=some (.val v H):=by
    have hh:=hp T
    rw[←h.1,←h.2.1,nC]at hh
    exact hh
   obtain⟨s2,h2⟩:=iQ h.2.2
   exact .inl ⟨v,H,s2,iX e,fun _=>e,h2⟩
 ·rename_i o' H0 v H' hp hq
  cases ht:tag o'==tag o with
  |false=>rw[ht]at h;exact au h
  |true=>
   rw[ht]at h
   simp only[cond_true]at h
   cases hd:draw&& !last H' with
   |true=>rw[hd]at h;exact absurd h.symm (c9 _)
   |false=>
    rw[hd]at h
    simp only[cond_false,cD,me.cS.injEq]at h
    obtain⟨hc,qy⟩:=h
    have e:aM (lim cfg) o T H=some (.cS v H'):=by
     have hh:=hp T
     rw[←hh,←hc,qy,nC]
    refine .inr ⟨v,H',iX e,fun gU=>⟨e,?_⟩,hq⟩
    rw[gU]at hd;simpa using hd
 ·rename_i o' H0 v H' hp hq
  cases ht:tag o'==tag o with
  |false=>rw[ht]at h;exact au h
  |true=>
   rw[ht]at h
   simp only[cond_true]at h
   cases draw with
   |true=>exact absurd h.symm (c9 _)
   |false=>
    simp only[cond_false,cD,me.cS.injEq]at h
    obtain⟨hc,qy⟩:=h
    have e:aR (lim cfg) o T H=some (.cS v H'):=by
     have hh:=hp T
     rw[←hh,←hc,qy,gN]
    exact .inr ⟨v,H',e,(fun gU=>by cases gU),hq⟩
 ·exact au h
noncomputable def nE(cfg:mj)(draw:Bool)(i:Nat)(ops:List aK)(T:Env)(H:Heap):Option kX:=if draw then dJ (lim cfg) i ops none T H else dx (lim cfg) ops T H
def Comes(cfg:mj)(A:aO)(R:cZ×Heap→Prop)(draw:Bool)(Q:bN cfg A R→Env→Heap→me)(i:Nat)(ops:List aK)(T:Env)(H:Heap):Prop:=
 (∃s' T' H',Q s' T' H'=cD s'∧nE cfg draw i ops T H=some (.env T' H'))∨(∃v H',nE cfg draw i ops T H=some (.cS v H')∧R (.cS v,H'))
theorem qN{call:bL}{p:Nat}{v:AV}:∀{ops:List aK}(i:Nat){T:Env}{H:Heap},(ops.all fun o=>o.deps.contains p)=true→dJ call i ops (some (p,v)) T H=some (.cS v H)
 |[],_,_,_,_=>rfl
 |o::ops,i,T,H,h=>by
  rw[List.all_cons,Bool.and_eq_true]at h
  simp only[dJ,h.1,if_true]
  exact qN _ h.2
theorem Cu{call:bL}{i:Nat}{v:AV}{ops:List aK}{T:Env}{H:Heap}(h:qM i ops T H=true):dJ call (i+1) ops (some (i,v)) T H=some (.cS v H):=by
 unfold qM at h
 rw[Bool.or_eq_true]at h
 rcases h with h|h
 ·exact qN _ h
 ·exact mN _ h
theorem iF{draw:Bool}{Q:bN cfg A R→Env→Heap→me}:∀{ops:List aK}{i:Nat}{kn:List Nat}{s:bN cfg A R}{T:Env}{H:Heap},fY draw Q i kn ops s T H=cD s→Comes cfg A R draw Q i ops T H
 |[],i,kn,s,T,H,h=>.inl ⟨s,T,H,h,by cases draw<;>rfl⟩
 |o::ops,i,kn,s,T,H,h=>by
  have key:∀kn s,cJ o T=some true→qK draw (fun H'=>qM i ops T H') (fun s T H=>fY draw Q (i+1) kn ops s T H) s o.dst o.op T H=cD s→Comes cfg A R draw Q i (o::ops) T H:=by
   intro kn s hw h
   rcases wV h with⟨v,H',s',h1,h2,h3⟩|⟨v,H',h1,h2,h3⟩
   ·rcases iF h3 with⟨s2,T2,H2,q,e⟩|⟨v2,H2,e,q⟩
    ·refine .inl ⟨s2,T2,H2,q,?_⟩
     cases draw with
     |false=>simp only[nE,dx,hw,h1,Bool.false_eq_true,if_false]at e⊢;exact e
     |true=>simp only[nE,dJ,hw,h2 rfl,if_true]at e⊢;exact e
    ·refine .inr ⟨v2,H2,?_,q⟩
     cases draw with
     |false=>simp only[nE,dx,hw,h1,Bool.false_eq_true,if_false]at e⊢;exact e
     |true=>simp only[nE,dJ,hw,h2 rfl,if_true]at e⊢;exact e
   ·refine .inr ⟨v,H',?_,h3⟩
    cases draw with
    |false=>simp only[nE,dx,hw,h1,Bool.false_eq_true,if_false]
    |true=>
     simp only[nE,dJ,hw,(h2 rfl).1,if_true]
     exact Cu (h2 rfl).2
  have skip:∀kn s,cJ o T=some false→fY draw Q (i+1) kn ops s (aU T o.dst (.tuple [])) H=cD s→Comes cfg A R draw Q i (o::ops) T H:=by
   intro kn s hw h
   rcases iF h with⟨s2,T2,H2,q,e⟩|⟨v2,H2,e,q⟩
   ·refine .inl ⟨s2,T2,H2,q,?_⟩
    cases draw with
    |false=>simp only[nE,dx,hw,Bool.false_eq_true,if_false]at e⊢;exact e
    |true=>simp only[nE,dJ,hw,if_true]at e⊢;exact e
   ·refine .inr ⟨v2,H2,?_,q⟩
    cases draw with
    |false=>simp only[nE,dx,hw,Bool.false_eq_true,if_false]at e⊢;exact e
    |true=>simp only[nE,dJ,hw,if_true]at e⊢;exact e
  simp only[fY]at h
  split at h
  ·rename_i hg
   exact key _ s (by unfold cJ;rw[hg]) h
  ·rename_i g w hg
   have fin:∀b kn s,T g=.bool b→(bif b==w then qK draw (fun H'=>qM i ops T H') (fun s T H=>fY draw Q (i+1) kn ops s T H) s o.dst o.op T H else fY draw Q (i+1) kn ops s (aU T o.dst (.tuple [])) H)=cD s→
    Comes cfg A R draw Q i (o::ops) T H:=by
    intro b kn s h1 h2
    have hw:cJ o T=some (b==w):=by unfold cJ;rw[hg];simp only[h1]
    cases hb:(b==w)with
    |true=>rw[hb]at hw h2;exact key _ _ hw h2
    |false=>rw[hb]at hw h2;exact skip _ _ hw h2
   split at h
   ·rename_i hb
    exact skip kn s (by unfold cJ;rw[hg];simp only[hb]) h
   ·rename_i p' hb
    cases hkn:kn.contains g with
    |true=>
     rw[hkn]at h
     simp only[cond_true]at h
     exact fin _ _ _ hb h
    |false=>
     rw[hkn]at h
     simp only[cond_false]at h
     split at h
     ·rename_i b p hp s'
      simp only[cD,me.av.injEq,AV.bool.injEq]at h
      have h1:T g=.bool b:=by rw[hb,h.1,hp]
      obtain⟨s2,h2⟩:=iQ h.2
      rw[wU h1]at h2
      exact fin _ _ _ h1 h2
     ·exact absurd h.symm (nD _)
   ·exact absurd h.symm (c9 _)
theorem zi:∀(n:Nat){k:List c7}{s:bN cfg A R}{T:Env}{H:Heap},mg n k s T H=cD s→∃r,bp cfg A k T H=some r∧R r:=by
 intro n
 induction n with
 |zero=>intro k s T H h;exact absurd h.symm (c9 s)
 |succ n ih=>
  intro k s T H h
  simp only[mg]at h
  ·split at h
   ·split at h
    ·rename_i r hr
     simp only[cD,me.res.injEq]at h
     rw[FE];exact⟨r,h,hr⟩
    ·exact absurd h.symm (c9 _)
   ·rw[FF];exact ih h
   ·split at h
    ·rename_i k' vs H' hc
     simp only[cD,me.cut.injEq]at h
     obtain⟨e1,e2,e3⟩:=h
     rw[e1,e3]
     exact hc T (zf e2)
    ·rw[AZ];exact ih h
   ·exact absurd h.symm (c9 _)
   ·split at h
    ·rw[Co];exact ih h
    ·rw[wT];exact ih h
    ·rename_i x a b
     split at h
     ·rename_i t p hp s'
      simp only[cD,me.av.injEq]at h
      obtain⟨h1,h2⟩:=h
      obtain⟨s2,h2⟩:=iQ h2
      rw[Cq,h1,hp]
      cases t<;>exact ih h2
     ·exact absurd h.symm (nD _)
    ·rw[zc];exact ih h
    ·rw[Cp];exact ih h
    ·split at h
     ·rename_i k' hk;rw[Cr,hk];exact ih h
     ·exact absurd h.symm (c9 _)
    ·split at h
     ·rename_i r hr
      cases hro:A.round with
      |true=>rw[hro]at h;exact absurd h.symm (c9 _)
      |false=>
       rw[hro]at h
       simp only[cond_false,cD,me.res.injEq]at h
       rw[FG,hro];exact⟨_,h,hr⟩
     ·exact absurd h.symm (c9 _)
    ·rename_i ops d
     rw[o6]
     cases d with
     |false=>
      have M1:dK (lim cfg) false ops T H=nE cfg false 0 ops T H:=rfl
      rw[M1]
      rcases iF h with⟨s',T',H',q,e⟩|⟨v,H',e,q⟩
      ·rw[e];exact ih q
      ·rw[e];exact⟨_,rfl,q⟩
     |true=>
      have M1:dK (lim cfg) true ops T H=nE cfg true 0 (fU H.boxes.length ops) T (iw H (cx ops)):=rfl
      rw[M1]
      rcases iF h with⟨s',T',H',q,e⟩|⟨v,H',e,q⟩
      ·rw[e];exact ih q
      ·rw[e];exact⟨_,rfl,q⟩
    ·split at h
     ·rename_i k' vs H' hc
      simp only[cD,me.cut.injEq]at h
      obtain⟨e1,e2,e3⟩:=h
      rw[e1,e3]
      exact hc T (zf e2)
     ·exact absurd h.symm (c9 _)
theorem WB{T:Env}{k:List c7}{H:Heap}(n:Nat)(vs:List (Nat×AV))(hT:Has T vs)(s:bN cfg A R)(e:Ct s (fun s=>mg n k s (bJ T vs) H)=cD s):∃r,bp cfg A k T H=some r∧R r:=by
 rw[tE hT]at e
 obtain⟨s',e⟩:=iQ e
 exact zi n e
theorem go{r:cZ×Heap}{T:Env}{k:List c7}{H:Heap}(n:Nat)(vs:List (Nat×AV))(hT:Has T vs)(s:XF cfg A r)(e:Ct s (fun s=>mg n k s (bJ T vs) H)=cD s):bp cfg A k T H=some r:=by
 obtain⟨x,h,rfl⟩:=WB n vs hT s e
 exact h
def bN.done{r:cZ×Heap}:bN cfg A (fun x=>x=r):=.fin r rfl
def bN.cut{r:cZ×Heap}(k:List c7)(vs:List (Nat×AV))(H:Heap)(h:∀T,Has T vs→bp cfg A k T H=some r):bN cfg A (fun x=>x=r):=.aT k vs H fun T hT=>⟨r,h T hT,rfl⟩
class mO(v:AV)(w:outParam AV):Prop where
 p:cC v=w∧fH w=true
class qO(x:AV):Prop where
 p:cC x=x∧fH x=true
instance(v:AV) [h:qO v]:mO v v:=⟨h.p⟩
instance(t:Nat)(l:List AV):mO (.sl (.own t) l) (.sl .sh l):=⟨rfl,rfl⟩
instance(l:List AV):mO (.sl .full l) (.sl .sh l):=⟨rfl,rfl⟩
instance(k:IntKind)(n:Int):qO (.int k n):=⟨rfl,rfl⟩
instance(b:Bool):qO (.bool b):=⟨rfl,rfl⟩
instance(s:List UInt8):qO (.str s):=⟨rfl,rfl⟩
instance(b:Nat):qO (.bQ b):=⟨rfl,rfl⟩
instance:qO .nan:=⟨rfl,rfl⟩
instance(l:List AV):qO (.sl .sh l):=⟨rfl,rfl⟩
instance:qO .dO:=⟨rfl,rfl⟩
instance:qO .nilIface:=⟨rfl,rfl⟩
instance:qO .nilFunc:=⟨rfl,rfl⟩
class cA(xs:List AV)(ys:outParam (List AV)):Prop where
 p:xs.map cC=ys∧ys.all fH=true
instance:cA [] []:=⟨rfl,rfl⟩
instance(x y:AV)(xs ys:List AV) [h:mO x y] [hs:cA xs ys]:cA (x::xs) (y::ys):=⟨by
 obtain⟨a,b⟩:=h.p
 obtain⟨c,d⟩:=hs.p
 simp[a,b,c,d]⟩
class Jq(xs:List AV):Prop where
 p:xs.map cC=xs∧xs.all fH=true
instance:Jq []:=⟨rfl,rfl⟩
instance(x:AV)(xs:List AV) [h:qO x] [hs:Jq xs]:Jq (x::xs):=⟨by
 obtain⟨a,b⟩:=h.p
 obtain⟨c,d⟩:=hs.p
 simp[a,b,c,d]⟩
class fe(v:AV)(w:outParam AV):Prop where
 p:bz v=w∧bK w=true
theorem wW{v w:AV}(h:cC v=w∧fH w=true):bz v=w∧bK w=true:=by
 obtain⟨a,b⟩:=h
 have hv:∀cs,w≠.tuple cs:=fun cs e=>by subst e;cases b
 have e1:bz v=cC v:=by
  cases v with
  |tuple cs=>exact absurd a.symm (hv cs)
  |_=>rfl
 refine⟨e1.trans a,?_⟩
 have:bK w=fH w:=by
  cases w with
  |tuple cs=>exact absurd rfl (hv cs)
  |_=>rfl
 rw[this];exact b
instance(v w:AV) [h:mO v w]:fe v w:=⟨wW h.p⟩
instance(vs ws:List AV) [h:cA vs ws]:fe (.tuple vs) (.tuple ws):=⟨by
 obtain⟨a,b⟩:=h.p
 exact⟨by rw[←a];rfl,b⟩⟩
theorem qP{xs ys:List AV}(h:xs.map cC=ys∧ys.all fH=true):xs.map bz=ys∧ys.all bK=true:=by
 obtain⟨a,b⟩:=h
 subst a
 rw[List.all_eq_true]at b
 have e:∀x∈xs,bz x=cC x∧bK (cC x)=true:=fun x hx=>by
  obtain⟨p,q⟩:=wW (v:=x) (w:=cC x) ⟨rfl,b _ (List.mem_map_of_mem hx)⟩
  exact⟨p,q⟩
 refine⟨List.map_congr_left fun x hx=>(e x hx).1,List.all_eq_true.2 fun y hy=> ?_⟩
 obtain⟨x,hx,rfl⟩:=List.mem_map.1 hy
 exact(e x hx).2
theorem ov{xs ys:List AV}{g:FuncId}{v w:AV}{H':Heap}(h:lim cfg (.fn g) ys Heap.nil=some (.ret v,H'))(hx:xs.map cC=ys∧ys.all fH=true)(hv:bz v=w∧bK w=true)(T:Env)(H:Heap):
 aM (lim cfg) (.call (.c (.func g [])) (xs.map fun x=>.c x)) T H=some (.val w H):=by
 obtain⟨a,b⟩:=qP hx
 simp only[aM,List.map_map]
 have e:(List.map ((fun x=>bz (ev T x))∘fun x=>dX.c x) xs)=ys:=a
 rw[e,show ev T (.c (.func g []))=.func g []from rfl,qF]
 simp only[b,List.all_nil,Bool.and_self,cond_true,List.append_nil,h,qG hv]
theorem Cv{xs ys:List AV}{g:FuncId}{v:AV}{H':Heap}(h:lim cfg (.fn g) ys Heap.nil=some (.cS v,H'))(hx:xs.map cC=ys∧ys.all fH=true)(hv:bK v=true)(H:Heap)(T:Env):
 aM (lim cfg) (.call (.c (.func g [])) (xs.map fun x=>.c x)) T H=some (.cS v H):=by
 obtain⟨a,b⟩:=qP hx
 simp only[aM,List.map_map]
 have e:(List.map ((fun x=>bz (ev T x))∘fun x=>dX.c x) xs)=ys:=a
 rw[e,show ev T (.c (.func g []))=.func g []from rfl,qF]
 simp only[b,List.all_nil,Bool.and_self,cond_true,List.append_nil,h,hv]
def bN.call{xs:List AV}{g:FuncId}{v w:AV}{H':Heap}(h:lim cfg (.fn g) xs Heap.nil=some (.ret v,H')) [hx:Jq xs] [hv:fe v w](s:bN cfg A R):bN cfg A R:=.op (.call (.c (.func g [])) (xs.map fun x=>.c x)) w (ov h hx.p hv.p) s
def bN.gv(xs:List AV){ys:List AV}{g:FuncId}{v w:AV}{H':Heap} [hx:cA xs ys](h:lim cfg (.fn g) ys Heap.nil=some (.ret v,H')) [hv:fe v w](s:bN cfg A R):bN cfg A R:=.op (.call (.c (.func g [])) (xs.map fun x=>.c x)) w (ov h hx.p hv.p) s
def bN.yes{p:Bool}(h:p=true)(s:bN cfg A R):bN cfg A R:=.dec true p h s
def bN.no{p:Bool}(h:p=false)(s:bN cfg A R):bN cfg A R:=.dec false p h s
def bN.tt(s:bN cfg A R):bN cfg A R:=.dec true true rfl s
def bN.ff(s:bN cfg A R):bN cfg A R:=.dec false false rfl s
theorem fq{o:gy}{v:AV}(hc:∀T,cj o T=some v)(h:∀call T H,aM call o T H=match cj o T with|some v=>some (.val v H)|none=>none)(T:Env)(H:Heap):aM (lim cfg) o T H=some (.val v H):=by rw[h,hc]
def bN.idx{es:Nat}{x i v:AV}(h:cc es x i=some v)(s:bN cfg A R):bN cfg A R:=.op (.idx es (.c x) (.c i)) v (fq (fun _=>h) fun _ _ _=>rfl) s
def bN.idxs{x i v:AV}(h:jK x i=some v)(s:bN cfg A R):bN cfg A R:=.op (.idxs (.c x) (.c i)) v (fq (fun _=>h) fun _ _ _=>rfl) s
def bN.bin{b:BinOp}{x y v:AV}(h:cG b x y=some v)(s:bN cfg A R):bN cfg A R:=.op (.bin b (.c x) (.c y)) v (fq (fun _=>h) fun _ _ _=>rfl) s
def bN.len{b:Bool}{x v:AV}(h:dA b x=some v)(s:bN cfg A R):bN cfg A R:=.op (.len b (.c x)) v (fq (fun _=>h) fun _ _ _=>rfl) s
def bN.conv{b:CV}{x v:AV}(h:eX b x=some v)(s:bN cfg A R):bN cfg A R:=.op (.conv b (.c x)) v (fq (fun _=>h) fun _ _ _=>rfl) s
def bN.mh{b:Bool}{k:NK}{x v:AV}(h:fF b k x=some v)(s:bN cfg A R):bN cfg A R:=.op (.mh b k (.c x)) v (fq (fun _=>h) fun _ _ _=>rfl) s
def bN.rY{b:Bool}{ks:List FK}{x y v:AV}(h:AG b ks x y=some v)(s:bN cfg A R):bN cfg A R:=.op (.rY b ks (.c x) (.c y)) v (fq (fun _=>h) fun _ _ _=>rfl) s
def bN.slice{es:Nat}{x v:AV}{lo hi mx:Option AV}(h:eR es x lo hi mx=some v)(s:bN cfg A R):bN cfg A R:=.op (.slice es (.c x) (lo.map .c) (hi.map .c) (mx.map .c)) v
 (fq (fun T=>by simp only[cj,ev,Option.map_map,Function.comp_def];simpa using h) fun _ _ _=>rfl) s
theorem wX{es b:Nat}{H H':Heap}{x y v:AV}(h:bw es b H x y=some (v,H'))(T:Env):aR (lim cfg) (.append es b (.c x) (.c y)) T H=some (.val v H'):=by
 simp only[aR,ev,h]
def bN.append{es b:Nat}{H H':Heap}{x y v:AV}(h:bw es b H x y=some (v,H'))(s:bN cfg A R):bN cfg A R:=.yB (.append es b (.c x) (.c y)) H v H' (wX h) s
theorem Cw{agg:Bool}{n:Nat}{H:Heap}{x v:AV}(h:ak agg n H x=some v)(T:Env):aR (lim cfg) (.load agg n (.c x)) T H=some (.val v H):=by
 simp only[aR,ev,h]
def bN.load{agg:Bool}{n:Nat}{H:Heap}{x v:AV}(h:ak agg n H x=some v)(s:bN cfg A R):bN cfg A R:=.yB (.load agg n (.c x)) H v H (Cw h) s
theorem zj{n:Nat}{H H':Heap}{x v:AV}(h:aW n H x v=some H')(T:Env):aR (lim cfg) (.store n (.c x) (.c v)) T H=some (.val .undef H'):=by
 simp only[aR,ev,h]
def bN.store{n:Nat}{H H':Heap}{x v:AV}(h:aW n H x v=some H')(s:bN cfg A R):bN cfg A R:=.yB (.store n (.c x) (.c v)) H .undef H' (zj h) s
variable{k:IntKind}{a b:Int}
theorem Qy(h:a<b):cG .lss (.int k a) (.int k b)=some (.bool true):=by simp[cG,jD,h]
theorem Qz(h:b≤a):cG .lss (.int k a) (.int k b)=some (.bool false):=by simp[cG,jD,h]
theorem TD(h:a≠b):cG .neq (.int k a) (.int k b)=some (.bool true):=by simp[cG,jD,h]
theorem wrap_i64{x:Int}(h1: -9223372036854775808≤x)(h2:x<9223372036854775808):IntKind.i64.wrap x=x:=by
 have e:(x%18446744073709551616)=if 0≤x then x else x+18446744073709551616:=by split<;>omega
 simp only[IntKind.wrap,IntKind.bits,IntKind.signed,Bool.true_and,show(2:Int)^64=18446744073709551616 from rfl,show(2:Int)^(64-1)=9223372036854775808 from rfl,e,decide_eq_true_eq]
 split<;>split<;>omega
theorem Cx(h1: -9223372036854775808≤a+b)(h2:a+b<9223372036854775808):cG .add (.int .i64 a) (.int .i64 b)=some (.int .i64 (a+b)):=by
 simp[cG,jD,wrap_i64 h1 h2]
theorem FM(h1: -9223372036854775808≤a-b)(h2:a-b<9223372036854775808):cG .sub (.int .i64 a) (.int .i64 b)=some (.int .i64 (a-b)):=by
 simp[cG,jD,wrap_i64 h1 h2]
theorem TE(h1: -9223372036854775808≤a*b)(h2:a*b<9223372036854775808):cG .mul (.int .i64 a) (.int .i64 b)=some (.int .i64 (a*b)):=by
 simp[cG,jD,wrap_i64 h1 h2]
def bN.add(h: -9223372036854775808≤a+b∧a+b<9223372036854775808)(s:bN cfg A R):bN cfg A R:=.bin (Cx h.1 h.2) s
def bN.sub(h: -9223372036854775808≤a-b∧a-b<9223372036854775808)(s:bN cfg A R):bN cfg A R:=.bin (FM h.1 h.2) s
def bN.mul(h: -9223372036854775808≤a*b∧a*b<9223372036854775808)(s:bN cfg A R):bN cfg A R:=.bin (TE h.1 h.2) s
def bN.inc(i:Nat)(h:i<9223372036854775807)(s:bN cfg A R):bN cfg A R:=.bin (show cG .add (.int .i64 (i:Int)) (.int .i64 1)=some (.int .i64 ((i+1:Nat):Int))from by
 rw[Cx (by omega) (by omega)];rfl) s
theorem zk{es i:Nat}{k:SK}{q:IntKind}{l:List AV}{x:AV}(h:l[i]?=some x)(hc:cF es x=true):cc es (.sl k l) (.int q (i:Int))=some (.ref x.cells):=by
 simp[cc,h,hc]
theorem wY{es:Nat}{xs:List AV}(h1:xs.map cC=xs)(h2:cE es xs=true)(h3:dH xs=true)(T:Env)(H:Heap):aM (lim cfg) (.bO es (xs.map .c)) T H=some (.val (.sl .full xs) H):=by
 simp only[aM,aR,cj,List.map_map]
 have e:(List.map ((fun x=>cC (ev T x))∘dX.c) xs)=xs:=h1
 rw[e,if_pos ⟨h2,h3⟩]
def bN.bO{es:Nat}{xs:List AV}(h1:xs.map cC=xs)(h2:cE es xs=true)(h3:dH xs=true)(s:bN cfg A R):bN cfg A R:=.op (.bO es (xs.map .c)) (.sl .full xs) (wY h1 h2 h3) s
def aZ(H:Heap):List AV→AV
 |[]=>.sl .full []
 |y::ys=>.sl (.own H.toks.length) (y::ys)
def cu(H:Heap):List AV→Heap
 |[]=>H
 |y::ys=>{H with toks:=H.toks++[(y::ys).length]}
instance(H:Heap)(ys:List AV):mO (aZ H ys) (.sl .sh ys):=⟨by cases ys<;>exact⟨rfl,rfl⟩⟩
theorem eF{es bytes:Nat}{H:Heap}{ys:List AV}{v:AV}(h:(ys.length+1)*bytes≤140737488355328)(hl:cE es ys=true)(hv:cF es v=true)(hd:dH [v]=true):
 bw es bytes (cu H ys) (aZ H ys) (.sl .full [v])=some (aZ H (ys++[v]),cu H (ys++[v])):=by
 have Oq:cE es [v]=true:=by simp[cE,hv]
 cases ys with
 |nil=>
  have h':bytes≤140737488355328:=by simpa using h
  have e:(([]:List AV).length+([v]:List AV).length)*bytes≤140737488355328:=by simpa using h'
  have e2:cE es ([]:List AV)=true:=rfl
  simp only[bw,aZ,cu,Oq,hd,e2,List.nil_append]
  rw[if_pos ⟨e,trivial,trivial,trivial⟩]
  rfl
 |cons y ys=>
  simp only[bw,aZ,cu,hl,Oq,hd,List.length_cons,List.length_nil,List.cons_append]at h⊢
  simp[h]
theorem zl{xs caps:List AV}{g:FuncId}{v:AV}{H H2:Heap}(h:lim cfg (.fn g) (xs++caps) H=some (.ret v,H2))(hx:xs.map bz=xs)(hd:(xs.all bK&&caps.all bI)=false)(T:Env):
 aR (lim cfg) (.call (.c (.func g caps)) (xs.map .c)) T H=some (.val (bz v) (de H.boxes.length H.toks.length (bz v) H2)):=by
 have e:(xs.map dX.c).map (fun x=>bz (ev T x))=xs:=by rw[List.map_map];exact hx
 simp only[aR,e]
 rw[show ev T (.c (.func g caps))=.func g caps from rfl,zd,hd]
 simp only[cond_false,eD,h]
theorem M3{a b:List UInt8}(h:a=b):cG .eql (.str a) (.str b)=some (.bool true):=by simp[cG,mB,h]
theorem M4{a b:List UInt8}(h:a≠b):cG .eql (.str a) (.str b)=some (.bool false):=by simp[cG,mB,h]
theorem M5{a b:List UInt8}(h:a≠b):cG .neq (.str a) (.str b)=some (.bool true):=by simp[cG,mB,h]
theorem M6{a b:List UInt8}(h:a=b):cG .neq (.str a) (.str b)=some (.bool false):=by simp[cG,mB,h]
def aJ(v:AV)(r:cZ×Heap):Prop:=r.1=.ret v
def aq(cfg:mj)(g:FuncId)(xs:List AV)(v:AV):Prop:=∃r,lim cfg (.fn g) xs Heap.nil=some r∧aJ v r
def bA(cfg:mj)(A:aO)(k:List c7)(T:Env)(H:Heap)(R:cZ×Heap→Prop):Prop:=∃r,bp cfg A k T H=some r∧R r
theorem aq.ret{g:FuncId}{xs:List AV}{v:AV}(h:aq cfg g xs v):∃H',lim cfg (.fn g) xs Heap.nil=some (.ret v,H'):=by
 obtain⟨⟨a,H'⟩,h,e⟩:=h
 simp only[aJ]at e
 subst e
 exact⟨H',h⟩
theorem aq.of{g:FuncId}{xs:List AV}{v:AV}{H':Heap}(h:lim cfg (.fn g) xs Heap.nil=some (.ret v,H')):aq cfg g xs v:=⟨_,h,rfl⟩
theorem aq.to{g:FuncId}{xs:List AV}{v w:AV}(h:aq cfg g xs v)(e:v=w):aq cfg g xs w:=e▸h
theorem aq.run{g:FuncId}{xs:List AV}{v:AV}{k:List c7}{T:Env}(e:lim cfg (.fn g) xs Heap.nil=bp cfg A k T Heap.nil)(h:bA cfg A k T Heap.nil (aJ v)):aq cfg g xs v:=by
 unfold aq;rw[e];exact h
theorem M7{xs ys:List AV}{g:FuncId}{v w:AV}(h:aq cfg g ys v)(hx:xs.map cC=ys∧ys.all fH=true)(hv:bz v=w∧bK w=true)(T:Env)(H:Heap):
 aM (lim cfg) (.call (.c (.func g [])) (xs.map fun x=>.c x)) T H=some (.val w H):=by
 obtain⟨H',h⟩:=h.ret
 exact ov h hx hv T H
def bN.bE(xs:List AV){ys:List AV}{g:FuncId}{v:AV}(w:AV)(h:aq cfg g ys v)(hx:xs.map cC=ys∧ys.all fH=true)(hv:bz v=w∧bK w=true)(s:bN cfg A R):bN cfg A R:=.op (.call (.c (.func g [])) (xs.map fun x=>.c x)) w (M7 h hx hv) s
theorem bA.to{k:List c7}{T:Env}{H:Heap}{v w:AV}(h:bA cfg A k T H (aJ v))(e:v=w):bA cfg A k T H (aJ w):=e▸h
class D0(x:AV):Prop where
 p:eW x=x∧bI x=true
instance(k:IntKind)(n:Int):D0 (.int k n):=⟨rfl,rfl⟩
instance(b:Bool):D0 (.bool b):=⟨rfl,rfl⟩
instance(s:List UInt8):D0 (.str s):=⟨rfl,rfl⟩
instance(b:Nat):D0 (.bQ b):=⟨rfl,rfl⟩
instance:D0 .nan:=⟨rfl,rfl⟩
instance(l:List AV):D0 (.sl .sh l):=⟨rfl,rfl⟩
end
end Go.Aa
namespace Go.Aa
theorem XG{cfg:mj}{A:aO}{R:cZ×Heap→Prop}{T:Env}{k:List c7}{H:Heap}(n:Nat)(vs:List (Nat×AV))(hT:Has T vs)(s:bN cfg A R)(e:Ct s (fun s=>mg n k s (bJ T vs) H)=cD s):bA cfg A k T H R:=WB n vs hT s e
class SC(xs:List AV):Prop where
 p:xs.map eW=xs∧xs.all bI=true
instance:SC []:=⟨rfl,rfl⟩
instance(x:AV)(xs:List AV) [h:D0 x] [hs:SC xs]:SC (x::xs):=⟨by
 obtain⟨a,b⟩:=h.p
 obtain⟨c,d⟩:=hs.p
 simp[a,b,c,d]⟩
instance(xs:List AV) [h:SC xs]:qO (.agg xs):=⟨by
 obtain⟨a,b⟩:=h.p
 exact⟨by simp[cC,a],b⟩⟩
variable{α:Type}{f:α→AV}{l:List α}{x:α}{post:List α}{i:Nat}
theorem bg(h:l.drop i=x::post):i<l.length:=by
 have:0<(l.drop i).length:=by rw[h];simp
 simp at this;omega
theorem bf(h:l.drop i=[]):l.length≤i:=by simpa using h
theorem aL(h:l.drop i=x::post):l.drop (i+1)=post:=by
 rw[←List.tail_drop,h];rfl
theorem drop_at(h:l.drop i=x::post):l[i]?=some x:=by
 have:=congrArg List.head? h
 simpa[List.head?_drop]using this
theorem drop_take(h:l.drop i=x::post):l.take (i+1)=l.take i++[x]:=by
 rw[List.take_add_one,drop_at h];rfl
theorem eo(h:l.drop i=x::post):x∈l:=by
 have:x∈l.drop i:=by rw[h];simp
 exact List.mem_of_mem_drop this
theorem Jr(k:SK):dA false (.sl k (l.map f))=some (.int .i64 l.length):=by simp[dA]
theorem gH(k:SK)(l:List AV):dA false (.sl k l)=some (.int .i64 l.length):=rfl
theorem dw(s:List UInt8):dA true (.str s)=some (.int .i64 s.length):=rfl
theorem bx{es:Nat}{k:SK}{q:IntKind}(h:l.drop i=x::post)(hc:cF es (f x)=true):cc es (.sl k (l.map f)) (.int q (i:Int))=some (.ref (f x).cells):=
 zk (by simp[drop_at h]) hc
theorem fN{es:Nat}{k:SK}{q:IntKind}(h:l[i]?=some x)(hc:cF es (f x)=true):cc es (.sl k (l.map f)) (.int q (i:Int))=some (.ref (f x).cells):=
 zk (by simp[h]) hc
theorem lW{q:IntKind}{s post:List UInt8}{c:UInt8}(h:s.drop i=c::post):jK (.str s) (.int q (i:Int))=some (.int .u8 c.toNat):=by
 simp[jK,drop_at h]
theorem fK(h:i<9223372036854775807):cG .add (.int .i64 (i:Int)) (.int .i64 1)=some (.int .i64 ((i+1:Nat):Int)):=by
 rw[Cx (by omega) (by omega)];rfl
theorem ah{agg:Bool}{n k off:Nat}{H:Heap}{cs:List AV}{v:AV}(h:H.boxes[k]?=some cs)(e:ak agg n ⟨[cs],[],[]⟩ (.ptr 0 off)=some v):ak agg n H (.ptr k off)=some v:=by
 simp only[ak,h,List.getElem?_cons_zero]at e⊢
 exact e
theorem Cy{n k off:Nat}{H:Heap}{cs cs':List AV}{v:AV}(h:H.boxes[k]?=some cs)(e:aW n ⟨[cs],[],[]⟩ (.ptr 0 off) v=some ⟨[cs'],[],[]⟩):aW n H (.ptr k off) v=some {H with boxes:=H.boxes.set k cs'}:=by
 simp only[aW,h,List.getElem?_cons_zero]at e⊢
 split at e
 ·rename_i hc
  simp only[Option.some.injEq,Heap.mk.injEq,List.set_cons_zero,List.cons.injEq]at e
  rw[if_pos hc,e.1.1]
 ·cases e
theorem tF{m n d:Nat}{q:IntKind}(h:n≤m):eP m (some (.int q (n:Int))) d=some n:=by simp[eP,h]
theorem qQ{m d:Nat}:eP m none d=some d:=rfl
theorem wZ{es h k:Nat}{xs:List AV}(hk:k≤h)(hh:h≤xs.length)(hc:∀x∈xs,cF es x=true):(match xs[k]? with
 |none=>some (AV.sl .sh [])
 |some e=>if cF es e=true then some (.sl .sh ((xs.take h).drop k))else none)=some (.sl .sh ((xs.take h).drop k)):=by
 cases he:xs[k]? with
 |none=>
  have:(xs.take h).drop k=[]:=by
   have:xs.length≤k:=by simpa using he
   simp;omega
  simp[this]
 |some e=>
  have:=hc e (List.mem_of_getElem? he)
  simp[this]
theorem qR{es k:Nat}{q:IntKind}{sk:SK}(hk:k≤l.length)(he:(es==0)=false)(hc:∀x,cF es (f x)=true):eR es (.sl sk (l.map f)) (some (.int q (k:Int))) none none=some (.sl .sh ((l.drop k).map f)):=by
 have he':es≠0:=by simpa using he
 simp only[eR,if_neg he',pN,qQ,List.length_map,tF hk]
 have:=wZ (es:=es) (h:=l.length) (k:=k) (xs:=l.map f) hk (by simp) (by intro x hx;obtain⟨y,-,rfl⟩:=List.mem_map.1 hx;exact hc y)
 refine Eq.trans this ?_
 rw[←List.map_take,←List.map_drop]
 simp
theorem qS{es k:Nat}{q:IntKind}{sk:SK}(hk:k≤l.length)(he:(es==0)=false)(hc:∀x,cF es (f x)=true):eR es (.sl sk (l.map f)) none (some (.int q (k:Int))) none=some (.sl .sh ((l.take k).map f)):=by
 have he':es≠0:=by simpa using he
 simp only[eR,if_neg he',pN,qQ,List.length_map,tF hk]
 have:=wZ (es:=es) (h:=k) (k:=0) (xs:=l.map f) (by omega) (by simpa using hk) (by intro x hx;obtain⟨y,-,rfl⟩:=List.mem_map.1 hx;exact hc y)
 refine Eq.trans this ?_
 rw[←List.map_take]
 simp
@[simp]theorem M8(H:Heap)(ys:List AV):(cu H ys).boxes=H.boxes:=by cases ys<;>rfl
@[simp]theorem M9(H:Heap)(ys:List AV):(cu H ys).loops=H.loops:=by cases ys<;>rfl
theorem w8{es bytes:Nat}{H:Heap}{sk:SK}{ys:List AV}(h:ys.length*bytes≤140737488355328)(hl:cE es ys=true)(hd:dH ys=true):
 bw es bytes H (.sl .full []) (.sl sk ys)=some (aZ H ys,cu H ys):=by
 cases ys with
 |nil=>rfl
 |cons y ys=>
  have e0:cE es ([]:List AV)=true:=rfl
  simp only[bw,aZ,cu,List.nil_append,List.length_nil,Nat.zero_add,hl,hd,e0]at h⊢
  rw[if_pos ⟨h,trivial,trivial,trivial⟩]
theorem Js{es bytes t:Nat}{H:Heap}{sk:SK}{xs ys:List AV}(ht:H.toks[t]?=some xs.length)(h:(xs.length+ys.length)*bytes≤140737488355328)(hx:cE es xs=true)(hl:cE es ys=true)(hd:dH ys=true):
 bw es bytes H (.sl (.own t) xs) (.sl sk ys)=some (.sl (.own t) (xs++ys),{H with toks:=H.toks.set t (xs.length+ys.length)}):=by
 cases ys with
 |nil=>
  have:H.toks.set t xs.length=H.toks:=by
   apply List.ext_getElem?
   intro i
   rw[List.getElem?_set]
   split
   ·rename_i e;subst e
    split
    ·exact ht.symm
    ·rename_i hh;rw[List.getElem?_eq_none (by omega)]
   ·rfl
  simp[bw,this]
 |cons y ys=>
  simp only[bw,hx,hl,hd]at h⊢
  rw[if_pos ⟨h,trivial,trivial,trivial⟩]
  simp[ht]
theorem jd{es bytes:Nat}{H:Heap}{ys:List α}(h:((ys.map f).length+1)*bytes≤140737488355328)(hl:cE es (ys.map f)=true)(hv:cF es (f x)=true)(hd:dH [f x]=true):
 bw es bytes (cu H (ys.map f)) (aZ H (ys.map f)) (.sl .full [f x])=some (aZ H ((ys++[x]).map f),cu H ((ys++[x]).map f)):=by
 rw[eF h hl hv hd,List.map_append];rfl
theorem e9{n:Nat}{l:List AV}{x:AV}(h:cE n l=true)(hx:cF n x=true):cE n (l++[x])=true:=by
 simp only[cE,List.all_append,List.all_cons,List.all_nil,Bool.and_true,Bool.and_eq_true]at h⊢
 exact⟨h,hx⟩
theorem dY{n:Nat}(h:∀x,cF n (f x)=true):cE n (l.map f)=true:=by
 simp only[cE,List.all_eq_true,List.mem_map]
 rintro _⟨x,-,rfl⟩
 exact h x
theorem qT(h:∀x,(f x).cells.all bI=true):dH (l.map f)=true:=by
 simp only[dH,List.all_eq_true,List.mem_map]
 rintro _⟨x,-,rfl⟩
 exact List.all_eq_true.1 (h x)
theorem FN{k:IntKind}{n:Int}(h: -9223372036854775808≤n∧n<9223372036854775808):eX (.int .i64) (.int k n)=some (.int .i64 n):=by
 simp[eX,wrap_i64 h.1 h.2]
theorem aC{n k off:Nat}{H:Heap}{cs cs':List AV}{bs':List (List AV)}{v:AV}(h:H.boxes[k]?=some cs)(e:aW n ⟨[cs],[],[]⟩ (.ptr 0 off) v=some ⟨[cs'],[],[]⟩)(hs:H.boxes.set k cs'=bs'):aW n H (.ptr k off) v=some {H with boxes:=bs'}:=by
 rw[←hs];exact Cy h e
end Go.Aa
namespace Go.Aa
section
variable{cfg:mj}
theorem ke{f:FuncId}(ht:cfg.vJ f=true)(g:FuncId)(caps:List AV)(H:Heap):lim cfg (.fn f) [.func g caps] H=ug (lim cfg (.fn g) caps H) cfg.vK:=by
 refine nA fun r=> ?_
 rw[dL]
 constructor
 ·rintro⟨n,h⟩
  cases n with
  |zero=>simp[cK]at h
  |succ n=>
   rw[cK]at h
   simp only[ht,if_true]at h
   cases hc:cK cfg n (.fn g) caps H with
   |none=>rw[hc]at h;simp[ug]at h
   |some x=>rw[hc]at h;rw[FD hc];exact h
 ·intro h
  cases hc:lim cfg (.fn g) caps H with
  |none=>rw[hc]at h;simp[ug]at h
  |some x=>
   rw[hc]at h
   obtain⟨n,hn⟩:=dL.1 hc
   refine⟨n+1,?_⟩
   rw[cK]
   simp only[ht,if_true,hn]
   exact h
variable{A:aO}{k:List c7}{T:Env}{H:Heap}
theorem qU{xs:List AV}{g:FuncId}{v v0:AV}{H H2 H0:Heap}(h0:lim cfg (.fn g) xs Heap.nil=some (.ret v0,H0))(hn:dR H0 v0=none)(h:lim cfg (.fn g) xs H=some (.ret v,H2))(hx:xs.map bz=xs)(hd:xs.all bK=true)(T:Env):
 aR (lim cfg) (.call (.c (.func g [])) (xs.map .c)) T H=some (.val (bz v) (de H.boxes.length H.toks.length (bz v) H2)):=by
 have e:(xs.map dX.c).map (fun x=>bz (ev T x))=xs:=by rw[List.map_map];exact hx
 simp only[aR,e]
 rw[show ev T (.c (.func g []))=.func g []from rfl]
 unfold en
 simp only[hd,List.all_nil,Bool.and_self,if_true,List.append_nil,h0,hn,Bool.false_eq_true,if_false,eD,h]
def bN.cK{R:cZ×Heap→Prop}{xs:List AV}{g:FuncId}{v v0:AV}{H H2 H0:Heap}(h0:lim cfg (.fn g) xs Heap.nil=some (.ret v0,H0))(hn:dR H0 v0=none)(h:lim cfg (.fn g) xs H=some (.ret v,H2))(hx:xs.map bz=xs)(hd:xs.all bK=true)(s:bN cfg A R):bN cfg A R:=
 .yB (.call (.c (.func g [])) (xs.map .c)) H (bz v) (de H.boxes.length H.toks.length (bz v) H2) (qU h0 hn h hx hd) s
def kf(cfg:mj)(g:FuncId)(xs:List AV)(v:AV):Prop:=∃r,lim cfg (.fn g) xs Heap.nil=some r∧r.1=.cS v
def QA(v:AV)(r:cZ×Heap):Prop:=r.1=.cS v
theorem kf.cS{g:FuncId}{xs:List AV}{v:AV}(h:kf cfg g xs v):∃H',lim cfg (.fn g) xs Heap.nil=some (.cS v,H'):=by
 obtain⟨⟨a,H'⟩,h,e⟩:=h
 simp only at e
 subst e
 exact⟨H',h⟩
theorem kf.run{g:FuncId}{xs:List AV}{v:AV}(e:lim cfg (.fn g) xs Heap.nil=bp cfg A k T Heap.nil)(h:bA cfg A k T Heap.nil (QA v)):kf cfg g xs v:=by
 unfold kf;rw[e];exact h
theorem Lg{xs ys:List AV}{g:FuncId}{v:AV}(h:kf cfg g ys v)(hx:xs.map cC=ys∧ys.all fH=true)(hv:bK v=true)(H:Heap)(T:Env):
 aM (lim cfg) (.call (.c (.func g [])) (xs.map fun x=>.c x)) T H=some (.cS v H):=by
 obtain⟨H',h⟩:=h.cS
 exact Cv h hx hv H T
def bN.jP{R:cZ×Heap→Prop}(xs:List AV){ys:List AV}{g:FuncId}{v:AV}(H:Heap)(h:kf cfg g ys v)(hx:xs.map cC=ys∧ys.all fH=true)(hv:bK v=true)(hq:R (.cS v,H)):bN cfg A R:=
 .cS (.call (.c (.func g [])) (xs.map fun x=>.c x)) H v H (Lg h hx hv H) hq
theorem zm{t:TypeId}{v:AV}(H:Heap)(T:Env):aM (lim cfg) (.panic (.c (.iface t v))) T H=some (.cS (.iface t v) H):=rfl
def bN.Na{R:cZ×Heap→Prop}(t:TypeId)(v:AV)(H:Heap)(hq:R (.cS (.iface t v),H)):bN cfg A R:=.cS (.panic (.c (.iface t v))) H (.iface t v) H (zm H) hq
def cv(cfg:mj)(o:gy)(H:Heap)(v:AV)(H':Heap):Prop:=∀T,aR (lim cfg) o T H=some (.val v H')
def bN.cw{R:cZ×Heap→Prop}{o:gy}{H H':Heap}{v:AV}(h:cv cfg o H v H')(s:bN cfg A R):bN cfg A R:=.yB o H v H' h s
theorem qV{xs:List AV}{g:FuncId}{v v0:AV}{H H2 H0:Heap}(h0:lim cfg (.fn g) xs Heap.nil=some (.ret v0,H0))(hn:dR H0 v0=none)(h:lim cfg (.fn g) xs H=some (.ret v,H2))(hx:xs.map bz=xs)(hd:xs.all bK=true):
 cv cfg (.call (.c (.func g [])) (xs.map .c)) H (bz v) (de H.boxes.length H.toks.length (bz v) H2):=qU h0 hn h hx hd
theorem bU{xs caps:List AV}{g:FuncId}{v:AV}{H H2:Heap}(h:lim cfg (.fn g) (xs++caps) H=some (.ret v,H2))(hx:xs.map bz=xs)(hd:(xs.all bK&&caps.all bI)=false):
 cv cfg (.call (.c (.func g caps)) (xs.map .c)) H (bz v) (de H.boxes.length H.toks.length (bz v) H2):=zl h hx hd
end
end Go.Aa
namespace Go.Aa
section
variable{cfg:mj}
def kg(cfg:mj)(g:FuncId)(xs:List AV)(u:AV):Prop:=∃v H,lim cfg (.fn g) xs Heap.nil=some (.ret v,H)∧dR H v=some u
theorem qW{xs:List AV}{g:FuncId}{u:AV}(h:kg cfg g xs u)(hx:xs.map bz=xs)(hd:xs.all bK=true)(H:Heap):cv cfg (.call (.c (.func g [])) (xs.map .c)) H u H:=by
 obtain⟨v,H1,h1,h2⟩:=h
 intro T
 have e:(xs.map dX.c).map (fun x=>bz (ev T x))=xs:=by rw[List.map_map];exact hx
 simp only[aR,e]
 rw[show ev T (.c (.func g []))=.func g []from rfl]
 simp only[en,hd,List.all_nil,Bool.and_self,if_true,List.append_nil,h1,h2]
theorem aq.f{g:FuncId}{xs:List AV}{v:AV}(h:aq cfg g xs v)(hd:bz v=v)(h2:bK v=true):kg cfg g xs v:=by
 obtain⟨H,h⟩:=h.ret
 exact⟨v,H,h,qG ⟨hd,h2⟩⟩
def Lh(u:AV)(r:cZ×Heap):Prop:=∃v,r.1=.ret v∧dR r.2 v=some u
theorem kg.run{A:aO}{g:FuncId}{xs:List AV}{u:AV}{k:List c7}{T:Env}(e:lim cfg (.fn g) xs Heap.nil=bp cfg A k T Heap.nil)(h:bA cfg A k T Heap.nil (Lh u)):kg cfg g xs u:=by
 obtain⟨⟨r,H⟩,h1,v,h2,h3⟩:=h
 simp only at h2 h3
 subst h2
 exact⟨v,H,e.trans h1,h3⟩
theorem nF{k off n es:Nat}{q:IntKind}{i:Nat}(h:i<n):cc es (.cY k off n es) (.int q (i:Nat))=some (.ptr k (off+i*es)):=by
 simp only[cc]
 rw[if_pos ⟨⟨Int.natCast_nonneg i,by exact_mod_cast h⟩,trivial⟩];simp
theorem mP:∀(vs cells:List AV)(off:Nat),off+vs.length≤cells.length→dU cells off vs=cells.take off++vs++cells.drop (off+vs.length)
 |[],cells,off,h=>by simp[dU]
 |v::vs,cells,off,h=>by
  simp only[List.length_cons]at h
  rw[dU,mP vs (cells.set off v) (off+1) (by simp;omega)]
  have h1:(cells.set off v).take (off+1)=cells.take off++[v]:=by
   rw[List.take_add_one,List.getElem?_set_self (by omega)]
   simp[List.take_set_of_le]
  have h2:(cells.set off v).drop (off+1+vs.length)=cells.drop (off+(v::vs).length):=by
   rw[List.drop_set_of_lt (by omega)]
   congr 1
   simp only[List.length_cons];omega
  rw[h1,h2];simp
theorem qX{xs:List AV}{g:FuncId}{v:AV}{H H2:Heap}(h:lim cfg (.fn g) xs H=some (.ret v,H2))(hx:xs.map bz=xs)(hd:xs.all bK=false):
 cv cfg (.c6 (.c (.func g [])) (xs.map .c)) H (bz v) (de H.boxes.length H.toks.length (bz v) H2):=fun T=>by
 have e:(xs.map dX.c).map (fun x=>bz (ev T x))=xs:=by rw[List.map_map];exact hx
 simp only[aR,e]
 rw[show ev T (.c (.func g []))=.func g []from rfl]
 simp only[gv,hd,Bool.false_and,Bool.false_eq_true,if_false,List.append_nil,eD,h]
end
end Go.Aa

