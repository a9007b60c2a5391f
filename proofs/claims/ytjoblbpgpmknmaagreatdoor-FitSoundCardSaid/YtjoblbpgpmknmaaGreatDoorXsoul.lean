/-
  WHAT THE LAW LEANS ON, part 12 of 14: a machine of values and its soundness; the functions of the law upon it; what they come to.
-/
import Derived.Test.YtjoblbpgpmknmaaGreatDoorXsouk
set_option linter.unusedVariables false
set_option linter.unusedSimpArgs false
set_option maxRecDepth 100000
namespace Go.Aa.T
open Go.Aa Go.Proofs
def domS(s:St)(nm key:List UInt8):Option (List UInt8):=match findG Node.name s.nodes nm with
 |none=>none
 |some n=>getP n.labels key
theorem dom_some(s:St)(nm key v:List UInt8)(hs:s.nodes.length<9223372036854775807)(hl:∀n∈s.nodes,n.labels.length<9223372036854775807)(h:domS s nm key=some v):Gives cfg 155 [encSt s,.str nm,.str key] (.str v):=by
 refine Gives.run (l155 _ _) ?_
 have f:=findN_any s.nodes nm hs
 unfold domS at h
 cases hf:findG Node.name s.nodes nm with
 |none=>rw[hf]at h;cases h
 |some n=>
  rw[hf]at f h
  have g:=get_any n.labels key (hl n (findG_mem hf))
  simp only at h
  rw[h]at g
  have g:Gives cfg 200 [.sl .sh (n.labels.map encP),.str key] (.tuple [.str v,.bool true]):=g
  exact let ζ1:List AV:=[.str n.name,.sl .sh (n.cap.map encA),.sl .sh (n.labels.map encP),.sl .sh (n.taints.map encT),.bool n.cordon];let ζ2:List AV:=[.sl .sh (n.labels.map encP),.str key];let ζ3:List AV:=[.sl .sh (s.nodes.map encN),.str nm];gG 90 [] trivial (.callK (ζ3) (.tuple [.agg ζ1,.bool true]) f<|.callK (ζ2) (.tuple [.str v,.bool true]) g<|.ff<|.fin ((.ret (.str v),{boxes:=[[.sl .sh (s.nodes.map encN),.sl .sh (s.pods.map encPd),.sl .sh (s.buds.map encB)],ζ1],toks:=[],loops:=[]:Heap})) rfl)
theorem dom_none(s:St)(nm key:List UInt8)(hs:s.nodes.length<9223372036854775807)(hl:∀n∈s.nodes,n.labels.length<9223372036854775807)(h:domS s nm key=none):Pans cfg 155 [encSt s,.str nm,.str key] (stopV 10):=by
 refine Pans.run (l155 _ _) ?_
 have f:=findN_any s.nodes nm hs
 have m10:Pans cfg 101 [.int .i64 10] (stopV 10):=stop_pan (by decide)
 unfold domS at h
 cases hf:findG Node.name s.nodes nm with
 |none=>
  rw[hf]at f
  have g:Gives cfg 200 [.sl .sh [],.str key] (.tuple [.str [],.bool false]):=get_any [] key (by simp)
  exact let ζ1:List AV:=[.str [],.sl .sh [],.sl .sh [],.sl .sh [],.bool false];let ζ2:List AV:=[.sl .sh (s.nodes.map encN),.str nm];gG 90 [] trivial (.callK (ζ2) (.tuple [.agg ζ1,.bool false]) f<|.callI g<|.tt<|.callP ([.int .i64 10]) ({boxes:=[[.sl .sh (s.nodes.map encN),.sl .sh (s.pods.map encPd),.sl .sh (s.buds.map encB)],ζ1],toks:=[],loops:=[]:Heap}) m10 ⟨rfl,rfl⟩ rfl rfl)
 |some n=>
  rw[hf]at f h
  have g:=get_any n.labels key (hl n (findG_mem hf))
  simp only at h
  rw[h]at g
  have g:Gives cfg 200 [.sl .sh (n.labels.map encP),.str key] (.tuple [.str [],.bool false]):=g
  exact let ζ1:List AV:=[.str n.name,.sl .sh (n.cap.map encA),.sl .sh (n.labels.map encP),.sl .sh (n.taints.map encT),.bool n.cordon];let ζ2:List AV:=[.sl .sh (n.labels.map encP),.str key];let ζ3:List AV:=[.sl .sh (s.nodes.map encN),.str nm];gG 90 [] trivial (.callK (ζ3) (.tuple [.agg ζ1,.bool true]) f<|.callK (ζ2) (.tuple [.str [],.bool false]) g<|.tt<|.callP ([.int .i64 10]) ({boxes:=[[.sl .sh (s.nodes.map encN),.sl .sh (s.pods.map encPd),.sl .sh (s.buds.map encB)],ζ1],toks:=[],loops:=[]:Heap}) m10 ⟨rfl,rfl⟩ rfl rfl)
def ChkH(e:Int)(H:Heap)(r:ARes×Heap):Prop:=(e=0∧r=(.ret (.tuple []),H))∨(e≠0∧r=(.pan (stopV e),H))
theorem cnt_yes(s:St)(p x:Pod)(d v:List UInt8)(ex:List (List AV))(hs:s.nodes.length<9223372036854775807)(hl:∀n∈s.nodes,n.labels.length<9223372036854775807)(h:domS s x.node p.key=some v):
 Goes cfg a203 [.c c203] (initEnv [.ptr 0 0,.ptr (ex.length+3) 0,.ptr 1 0,.ptr 2 0]) ⟨(encSt s).cells::(encPd p).cells::[.str d]::(ex++[(encPd x).cells]),[],[]⟩ (ChkH (if v=d then 0 else 10) ⟨(encSt s).cells::(encPd p).cells::[.str d]::(ex++[(encPd x).cells]),[],[]⟩):=by
 have hd:=dom_some s x.node p.key v hs hl h
 have m10:Pans cfg 101 [.int .i64 10] (stopV 10):=stop_pan (by decide)
 by_cases hv:v=d
 ·subst hv
  rw[if_pos rfl]
  exact let ζ2:List AV:=[.sl .sh (s.nodes.map encN),.sl .sh (s.pods.map encPd),.sl .sh (s.buds.map encB)];let ζ1:Heap:={boxes:=ζ2::[.str p.name,.str p.owner,.int .i64 p.prio,.sl .sh (p.need.map encA),.sl .sh (p.labels.map encP),.sl .sh (p.sel.map encM),.sl .sh (p.tols.map encL),.str p.key,.int .i64 p.most,.str p.node,.bool p.hold]::[.str v]::(ex++[[AV.str x.name,.str x.owner,.int .i64 x.prio,.sl .sh (x.need.map encA),.sl .sh (x.labels.map encP),.sl .sh (x.sel.map encM),.sl .sh (x.tols.map encL),.str x.key,.int .i64 x.most,.str x.node,.bool x.hold]]),toks:=[],loops:=[]:Heap};gG 90 [] trivial (.load (lB true 3 ζ1 0 0 (.agg ζ2) ζ2)<|.load (lB false 1 ζ1 (ex.length+3) 9 (.str x.node) [.str x.name,.str x.owner,.int .i64 x.prio,.sl .sh (x.need.map encA),.sl .sh (x.labels.map encP),.sl .sh (x.sel.map encM),.sl .sh (x.tols.map encL),.str x.key,.int .i64 x.most,.str x.node,.bool x.hold])<|.load (lB false 1 ζ1 1 7 (.str p.key) [.str p.name,.str p.owner,.int .i64 p.prio,.sl .sh (p.need.map encA),.sl .sh (p.labels.map encP),.sl .sh (p.sel.map encM),.sl .sh (p.tols.map encL),.str p.key,.int .i64 p.most,.str p.node,.bool p.hold])<|.callI hd<|.load (lB false 1 ζ1 2 0 (.str v) [.str v])<|.no (show(!v==v)=false from by have hh:(v==v)=true:=(by simp+zetaDelta);simp[hh])<|.fin ((.ret (.tuple []),ζ1)) (by exact .inl ⟨rfl,rfl⟩))
 ·rw[if_neg hv]
  exact let ζ2:List AV:=[.sl .sh (s.nodes.map encN),.sl .sh (s.pods.map encPd),.sl .sh (s.buds.map encB)];let ζ1:Heap:={boxes:=ζ2::[.str p.name,.str p.owner,.int .i64 p.prio,.sl .sh (p.need.map encA),.sl .sh (p.labels.map encP),.sl .sh (p.sel.map encM),.sl .sh (p.tols.map encL),.str p.key,.int .i64 p.most,.str p.node,.bool p.hold]::[.str d]::(ex++[[AV.str x.name,.str x.owner,.int .i64 x.prio,.sl .sh (x.need.map encA),.sl .sh (x.labels.map encP),.sl .sh (x.sel.map encM),.sl .sh (x.tols.map encL),.str x.key,.int .i64 x.most,.str x.node,.bool x.hold]]),toks:=[],loops:=[]:Heap};gG 90 [] trivial (.load (lB true 3 ζ1 0 0 (.agg ζ2) ζ2)<|.load (lB false 1 ζ1 (ex.length+3) 9 (.str x.node) [.str x.name,.str x.owner,.int .i64 x.prio,.sl .sh (x.need.map encA),.sl .sh (x.labels.map encP),.sl .sh (x.sel.map encM),.sl .sh (x.tols.map encL),.str x.key,.int .i64 x.most,.str x.node,.bool x.hold])<|.load (lB false 1 ζ1 1 7 (.str p.key) [.str p.name,.str p.owner,.int .i64 p.prio,.sl .sh (p.need.map encA),.sl .sh (p.labels.map encP),.sl .sh (p.sel.map encM),.sl .sh (p.tols.map encL),.str p.key,.int .i64 p.most,.str p.node,.bool p.hold])<|.callI hd<|.load (lB false 1 ζ1 2 0 (.str d) [.str d])<|.yes (show(!v==d)=true from by have hh:¬((v==d)=true):=(by simpa using hv);simp[hh])<|.callP ([.int .i64 10]) (ζ1) m10 ⟨rfl,rfl⟩ rfl (by exact .inr ⟨by decide,rfl⟩))
def ops203:List AOper:=[⟨some 4,.load true 3 (.t 0),none,[]⟩,⟨some 5,.fld 9 1 (.t 1),none,[]⟩,⟨some 6,.load false 1 (.t 5),none,[1]⟩,⟨some 7,.fld 7 1 (.t 2),none,[]⟩,⟨some 8,.load false 1 (.t 7),none,[3]⟩,⟨some 9,.call (.c (.func 155 [])) [(.t 4),(.t 6),(.t 8)],none,[3,4,1,2,0]⟩,⟨some 10,.load false 1 (.t 3),none,[]⟩,⟨some 11,.bin .neq (.t 9) (.t 10),none,[6,0,2,1,4,3,5]⟩]
theorem cnt_reg(s:St)(p x:Pod)(d:List UInt8)(ex:List (List AV))(hs:s.nodes.length<9223372036854775807)(hl:∀n∈s.nodes,n.labels.length<9223372036854775807)(h:domS s x.node p.key=none)(T:Env)(t0:T 0=.ptr 0 0)(t1:T 1=.ptr (ex.length+3) 0)(t2:T 2=.ptr 1 0)(t3:T 3=.ptr 2 0):
 regionA (lim cfg) true ops203 T ⟨(encSt s).cells::(encPd p).cells::[.str d]::(ex++[(encPd x).cells]),[],[]⟩=
 some (.pan (stopV 10) ⟨(encSt s).cells::(encPd p).cells::[.str d]::(ex++[(encPd x).cells]),[],[]⟩):=by
 have hb:(⟨(encSt s).cells::(encPd p).cells::[.str d]::(ex++[(encPd x).cells]),[],[]⟩:Heap).boxes[ex.length+3]?=some (encPd x).cells:=by
  show((encSt s).cells::(encPd p).cells::[.str d]::(ex++[(encPd x).cells]))[ex.length+3]?=_
  rw[List.getElem?_cons_succ,List.getElem?_cons_succ,List.getElem?_cons_succ,List.getElem?_append_right (Nat.le_refl _),Nat.sub_self];rfl
 have hp:=dom_none s x.node p.key hs hl h
 have m2:=fun T H=>pansD (xs:=[encSt s,.str x.node,.str p.key]) hp ⟨rfl,rfl⟩ rfl H T
 have l1:=fun T=>load_any (H:=⟨(encSt s).cells::(encPd p).cells::[.str d]::(ex++[(encPd x).cells]),[],[]⟩) (k:=0) (agg:=true) (n:=3) (off:=0) (v:=encSt s) (cs:=(encSt s).cells) rfl rfl T
 have l2:=fun T=>load_any (agg:=false) (n:=1) (off:=9) (v:=.str x.node) hb rfl T
 have l3:=fun T=>load_any (H:=⟨(encSt s).cells::(encPd p).cells::[.str d]::(ex++[(encPd x).cells]),[],[]⟩) (k:=1) (agg:=false) (n:=1) (off:=7) (v:=.str p.key) (cs:=(encPd p).cells) rfl rfl T
 have l4:=fun T=>load_any (H:=⟨(encSt s).cells::(encPd p).cells::[.str d]::(ex++[(encPd x).cells]),[],[]⟩) (k:=2) (agg:=false) (n:=1) (off:=0) (v:=.str d) (cs:=[.str d]) rfl rfl T
 generalize(⟨(encSt s).cells::(encPd p).cells::[.str d]::(ex++[(encPd x).cells]),[],[]⟩:Heap)=H at l1 l2 l3 l4⊢
 have st:∀(T:Env)(o:AOp)(q:AOp)(r:Option Out),clOp T o=q→opStepD (lim cfg) q T H=r→opStepD (lim cfg) o T H=r:=fun T o q r h1 h2=>by
  rw[←cl_stepD _ T T,h1];exact h2
 change runD (lim cfg) 0 ops203 none T H=_
 unfold ops203
 refine Eq.trans (runD_val (u:=encSt s) (H':=H) rfl ?h) ?_
 case h=>exact st _ _ _ _ (by simp only[clOp,cl,ev,t0]) (l1 _)
 refine Eq.trans (runD_val (u:=.ptr (ex.length+3) 9) (H':=H) rfl ?h) ?_
 case h=>simp[opStepD,opStep,pureOp,ev,setD,upd_eq,t1,fldA]
 refine Eq.trans (runD_val (u:=.str x.node) (H':=H) rfl ?h) ?_
 case h=>exact st _ _ _ _ (by simp[clOp,cl,ev,setD,upd_eq]) (l2 _)
 refine Eq.trans (runD_val (u:=.ptr 1 7) (H':=H) rfl ?h) ?_
 case h=>simp[opStepD,opStep,pureOp,ev,setD,upd_eq,t2,fldA]
 refine Eq.trans (runD_val (u:=.str p.key) (H':=H) rfl ?h) ?_
 case h=>exact st _ _ _ _ (by simp[clOp,cl,ev,setD,upd_eq]) (l3 _)
 refine Eq.trans (runD_pan (v:=stopV 10) (H':=H) rfl ?h) ?_
 case h=>exact st _ _ _ _ (by simp[clOp,cl,ev,setD,upd_eq]) (m2 _ _)
 refine Eq.trans (runD_look (u:=.str d) (H':=H) rfl rfl ?h) ?_
 case h=>exact st _ _ _ _ (by simp[clOp,cl,ev,setD,upd_eq,t3]) (l4 _)
 refine Eq.trans (runD_skip rfl) ?_
 rfl
theorem cnt_no(s:St)(p x:Pod)(d:List UInt8)(ex:List (List AV))(hs:s.nodes.length<9223372036854775807)(hl:∀n∈s.nodes,n.labels.length<9223372036854775807)(h:domS s x.node p.key=none):
 Goes cfg a203 [.c c203] (initEnv [.ptr 0 0,.ptr (ex.length+3) 0,.ptr 1 0,.ptr 2 0]) ⟨(encSt s).cells::(encPd p).cells::[.str d]::(ex++[(encPd x).cells]),[],[]⟩ (ChkH 10 ⟨(encSt s).cells::(encPd p).cells::[.str d]::(ex++[(encPd x).cells]),[],[]⟩):=by
 have r:=cnt_reg s p x d ex hs hl h (initEnv [.ptr 0 0,.ptr (ex.length+3) 0,.ptr 1 0,.ptr 2 0]) rfl rfl rfl rfl
 refine⟨_,?_,.inr ⟨by decide,rfl⟩⟩
 unfold c203
 rw[runL_seq]
 erw [runL_region]
 change(match regionA (lim cfg) true ops203 _ _ with|some (.env T' H')=>_|some (.pan v H')=>_|none=>_)=_
 rw[r]
def standB(s:St)(p:Pod)(d:List UInt8)(x:Pod):Bool:= !(p.owner==[]|| !(x.owner==p.owner)||x.hold||x.name==p.name||x.node==[])&&domS s x.node p.key==some d
def countS(s:St)(p:Pod)(d:List UInt8):Nat:=(s.pods.filter (standB s p d)).length
theorem cnt_try(s:St)(p x:Pod)(d:List UInt8)(ex:List (List AV))(hs:s.nodes.length<9223372036854775807)(hl:∀n∈s.nodes,n.labels.length<9223372036854775807):
 Does cfg (.call (.c (.func 77 [])) [.c (.func 203 [.ptr 0 0,.ptr (ex.length+3) 0,.ptr 1 0,.ptr 2 0])]) ⟨(encSt s).cells::(encPd p).cells::[.str d]::(ex++[(encPd x).cells]),[],[]⟩
  (.int .i64 (if domS s x.node p.key=some d then 0 else 10)) ⟨(encSt s).cells::(encPd p).cells::[.str d]::(ex++[(encPd x).cells]),[],[]⟩:=by
 obtain⟨e,he,r,hr,hR⟩:∃e,(if domS s x.node p.key=some d then(0:Int)else 10)=e∧Goes cfg a203 [.c c203] (initEnv [.ptr 0 0,.ptr (ex.length+3) 0,.ptr 1 0,.ptr 2 0]) ⟨(encSt s).cells::(encPd p).cells::[.str d]::(ex++[(encPd x).cells]),[],[]⟩ (ChkH e ⟨(encSt s).cells::(encPd p).cells::[.str d]::(ex++[(encPd x).cells]),[],[]⟩):=by
  refine⟨_,rfl,?_⟩
  cases hv:domS s x.node p.key with
  |none=>rw[if_neg (by simp)];exact cnt_no s p x d ex hs hl hv
  |some v=>
   have:=cnt_yes s p x d v ex hs hl hv
   by_cases h:v=d
   ·rw[if_pos h]at this;rw[if_pos (by rw[h])];exact this
   ·rw[if_neg h]at this;rw[if_neg (by simpa using h)];exact this
 rw[he]
 generalize(⟨(encSt s).cells::(encPd p).cells::[.str d]::(ex++[(encPd x).cells]),[],[]⟩:Heap)=H at hr hR⊢
 have ht:lim cfg (.fn 77) [.func 203 [.ptr 0 0,.ptr (ex.length+3) 0,.ptr 1 0,.ptr 2 0]] H=some (.ret (.int .i64 e),H):=by
  rw[lim_try rfl,l203,hr]
  rcases hR with⟨h0,h1⟩|⟨h0,h1⟩
  ·subst h1;subst h0;rfl
  ·subst h1;rfl
 have hd:=does_callE (xs:=[.func 203 [.ptr 0 0,.ptr (ex.length+3) 0,.ptr 1 0,.ptr 2 0]]) (caps:=[]) ht rfl rfl
 rwa [show shutA (.int .i64 e)=.int .i64 e from rfl,trunc_self]at hd
theorem cnt_loop(s:St)(p:Pod)(d:List UInt8)(hp:s.pods.length≤1000)(hs:s.nodes.length<9223372036854775807)(hl:∀n∈s.nodes,n.labels.length<9223372036854775807):
 ∀(post:List Pod)(i:Nat)(hd:s.pods.drop i=post)(n:Nat)(hn:n≤i)(ex:List (List AV))(T:Env)
 (hT:Has T [(3,.ptr 0 0),(4,.ptr 1 0),(5,.ptr 2 0),(7,.int .i64 n),(11,.sl .sh (s.pods.map encPd)),(12,.int .i64 s.pods.length),(13,.int .i64 i)]),
 Goes cfg a156 k156_0 T ⟨(encSt s).cells::(encPd p).cells::[.str d]::ex,[],[]⟩ (IsRet (.int .i64 ((n+(post.filter (standB s p d)).length:Nat):Int))):=by
 intro post
 induction post with
 |nil=>
  intro i hd n hn ex T hT
  have hge:=drop_ge hd
  rw[show n+(([]:List Pod).filter (standB s p d)).length=n by simp]
  exact gG 60 _ hT (.no (dF ((↑i:Int)<(↑s.pods.length:Int)))<|.fin ((.ret (.int .i64 ↑n),{boxes:=[.sl .sh (s.nodes.map encN),.sl .sh (s.pods.map encPd),.sl .sh (s.buds.map encB)]::[.str p.name,.str p.owner,.int .i64 p.prio,.sl .sh (p.need.map encA),.sl .sh (p.labels.map encP),.sl .sh (p.sel.map encM),.sl .sh (p.tols.map encL),.str p.key,.int .i64 p.most,.str p.node,.bool p.hold]::[.str d]::ex,toks:=[],loops:=[]:Heap})) rfl)
 |cons x post ih=>
  intro i hd n hn ex T hT
  have hlt:=drop_lt hd
  have hnx:=drop_next hd
  have hxi:idxA 11 (.sl .sh (s.pods.map encPd)) (.int .i64 (i:Nat))=some (.ref (encPd x).cells):=idx_row (f:=encPd) hd rfl
  have ct:=cnt_try s p x d ex hs hl
  have ih0:=ih (i+1) hnx n (by omega) (ex++[(encPd x).cells])
  by_cases q1:p.owner=[]
  ·have e:n+((x::post).filter (standB s p d)).length=n+(post.filter (standB s p d)).length:=by simp[List.filter_cons,standB,q1]
   rw[e]
   exact let ζ1:List AV:=[.str p.name,.str p.owner,.int .i64 p.prio,.sl .sh (p.need.map encA),.sl .sh (p.labels.map encP),.sl .sh (p.sel.map encM),.sl .sh (p.tols.map encL),.str p.key,.int .i64 p.most,.str p.node,.bool p.hold];let ζ2:List AV:=[.str x.name,.str x.owner,.int .i64 x.prio,.sl .sh (x.need.map encA),.sl .sh (x.labels.map encP),.sl .sh (x.sel.map encM),.sl .sh (x.tols.map encL),.str x.key,.int .i64 x.most,.str x.node,.bool x.hold];let ζ3:List AV:=[.sl .sh (s.nodes.map encN),.sl .sh (s.pods.map encPd),.sl .sh (s.buds.map encB)];let ζ4:Heap:={boxes:=ζ3::ζ1::[.str d]::(ex++[ζ2]),toks:=[],loops:=[]:Heap};let ζ5:List AV:=[.str [],.str [],.int .i64 0,.sl .full [],.sl .full [],.sl .full [],.sl .full [],.str [],.int .i64 0,.str [],.bool false];gG 160 _ hT (.yes (dT ((↑i:Int)<(↑s.pods.length:Int)))<|.idx hxi<|.load (rfl:loadA true 11 {boxes:=ζ3::ζ1::[.str d]::ex,toks:=[],loops:=[]:Heap} (.ref ζ2)=some (.agg ζ2))<|.store (show storeA 11 {boxes:=ζ3::ζ1::[.str d]::(ex++[ζ5]),toks:=[],loops:=[]:Heap} (.ptr (ζ3::ζ1::[.str d]::ex).length 0) (.agg ζ2)=some (ζ4)from store_box2 (cs:=ζ5) (cs':=ζ2) (by simp+zetaDelta) rfl (by simp+zetaDelta [List.set_append]))<|.load (lB false 1 ζ4 1 1 (.str p.owner) ζ1)<|.yes (show(p.owner==[])=true from(by simp+zetaDelta [q1]))<|.tt<|.tt<|.tt<|.tt<|.bin (iI i)<|.cutQ k156_0 [(3,.ptr 0 0),(4,.ptr 1 0),(5,.ptr 2 0),(7,.int .i64 ↑n),(11,.sl .sh (s.pods.map encPd)),(12,.int .i64 (↑s.pods.length)),(13,.int .i64 (↑(i+1)))] (ζ4) (fun T hT=>(ih0 T hT)))
  ·by_cases q2:x.owner=p.owner
   ·cases q3:x.hold with
    |true=>
     have e:n+((x::post).filter (standB s p d)).length=n+(post.filter (standB s p d)).length:=by simp[List.filter_cons,standB,q3]
     rw[e]
     exact let ζ2:List AV:=[.str p.name,.str p.owner,.int .i64 p.prio,.sl .sh (p.need.map encA),.sl .sh (p.labels.map encP),.sl .sh (p.sel.map encM),.sl .sh (p.tols.map encL),.str p.key,.int .i64 p.most,.str p.node,.bool p.hold];let ζ3:List AV:=[.str x.name,.str x.owner,.int .i64 x.prio,.sl .sh (x.need.map encA),.sl .sh (x.labels.map encP),.sl .sh (x.sel.map encM),.sl .sh (x.tols.map encL),.str x.key,.int .i64 x.most,.str x.node,.bool x.hold];let ζ4:List AV:=[.sl .sh (s.nodes.map encN),.sl .sh (s.pods.map encPd),.sl .sh (s.buds.map encB)];let ζ1:Heap:={boxes:=ζ4::ζ2::[.str d]::(ex++[ζ3]),toks:=[],loops:=[]:Heap};let ζ5:List AV:=[.str [],.str [],.int .i64 0,.sl .full [],.sl .full [],.sl .full [],.sl .full [],.str [],.int .i64 0,.str [],.bool false];gG 160 _ hT (.yes (dT ((↑i:Int)<(↑s.pods.length:Int)))<|.idx hxi<|.load (rfl:loadA true 11 {boxes:=ζ4::ζ2::[.str d]::ex,toks:=[],loops:=[]:Heap} (.ref ζ3)=some (.agg ζ3))<|.store (show storeA 11 {boxes:=ζ4::ζ2::[.str d]::(ex++[ζ5]),toks:=[],loops:=[]:Heap} (.ptr (ζ4::ζ2::[.str d]::ex).length 0) (.agg ζ3)=some (ζ1)from store_box2 (cs:=ζ5) (cs':=ζ3) (by simp+zetaDelta) rfl (by simp+zetaDelta [List.set_append]))<|.load (lB false 1 ζ1 1 1 (.str p.owner) ζ2)<|.no (show(p.owner==[])=false from Bool.eq_false_iff.2 (by simp+zetaDelta [q1]))<|.load (show loadA false 1 ζ1 (.ptr (ζ4::ζ2::[.str d]::ex).length 1)=some (.str x.owner)from load_box (cs:=ζ3) (by simp+zetaDelta) rfl)<|.load (lB false 1 ζ1 1 1 (.str p.owner) ζ2)<|.no (show(!x.owner==p.owner)=false from by have hh:(x.owner==p.owner)=true:=(by simp+zetaDelta [q2]);simp[hh])<|.load (show loadA false 1 ζ1 (.ptr (ζ4::ζ2::[.str d]::ex).length 10)=some (.bool x.hold)from load_box (cs:=ζ3) (by simp+zetaDelta) rfl)<|.yes (show(x.hold)=true from(by omega))<|.tt<|.tt<|.bin (iI i)<|.cutQ k156_0 [(3,.ptr 0 0),(4,.ptr 1 0),(5,.ptr 2 0),(7,.int .i64 ↑n),(11,.sl .sh (s.pods.map encPd)),(12,.int .i64 (↑s.pods.length)),(13,.int .i64 (↑(i+1)))] (ζ1) (fun T hT=>(ih0 T hT)))
    |false=>
     by_cases q4:x.name=p.name
     ·have e:n+((x::post).filter (standB s p d)).length=n+(post.filter (standB s p d)).length:=by simp[List.filter_cons,standB,q4]
      rw[e]
      exact let ζ2:List AV:=[.str p.name,.str p.owner,.int .i64 p.prio,.sl .sh (p.need.map encA),.sl .sh (p.labels.map encP),.sl .sh (p.sel.map encM),.sl .sh (p.tols.map encL),.str p.key,.int .i64 p.most,.str p.node,.bool p.hold];let ζ3:List AV:=[.str x.name,.str x.owner,.int .i64 x.prio,.sl .sh (x.need.map encA),.sl .sh (x.labels.map encP),.sl .sh (x.sel.map encM),.sl .sh (x.tols.map encL),.str x.key,.int .i64 x.most,.str x.node,.bool x.hold];let ζ4:List AV:=[.sl .sh (s.nodes.map encN),.sl .sh (s.pods.map encPd),.sl .sh (s.buds.map encB)];let ζ1:Heap:={boxes:=ζ4::ζ2::[.str d]::(ex++[ζ3]),toks:=[],loops:=[]:Heap};let ζ5:List AV:=[.str [],.str [],.int .i64 0,.sl .full [],.sl .full [],.sl .full [],.sl .full [],.str [],.int .i64 0,.str [],.bool false];gG 160 _ hT (.yes (dT ((↑i:Int)<(↑s.pods.length:Int)))<|.idx hxi<|.load (rfl:loadA true 11 {boxes:=ζ4::ζ2::[.str d]::ex,toks:=[],loops:=[]:Heap} (.ref ζ3)=some (.agg ζ3))<|.store (show storeA 11 {boxes:=ζ4::ζ2::[.str d]::(ex++[ζ5]),toks:=[],loops:=[]:Heap} (.ptr (ζ4::ζ2::[.str d]::ex).length 0) (.agg ζ3)=some (ζ1)from store_box2 (cs:=ζ5) (cs':=ζ3) (by simp+zetaDelta) rfl (by simp+zetaDelta [List.set_append]))<|.load (lB false 1 ζ1 1 1 (.str p.owner) ζ2)<|.no (show(p.owner==[])=false from Bool.eq_false_iff.2 (by simp+zetaDelta [q1]))<|.load (show loadA false 1 ζ1 (.ptr (ζ4::ζ2::[.str d]::ex).length 1)=some (.str x.owner)from load_box (cs:=ζ3) (by simp+zetaDelta) rfl)<|.load (lB false 1 ζ1 1 1 (.str p.owner) ζ2)<|.no (show(!x.owner==p.owner)=false from by have hh:(x.owner==p.owner)=true:=(by simp+zetaDelta [q2]);simp[hh])<|.load (show loadA false 1 ζ1 (.ptr (ζ4::ζ2::[.str d]::ex).length 10)=some (.bool x.hold)from load_box (cs:=ζ3) (by simp+zetaDelta) rfl)<|.no (show(x.hold)=false from Bool.eq_false_iff.2 (by simp+zetaDelta [q3]))<|.load (show loadA false 1 ζ1 (.ptr (ζ4::ζ2::[.str d]::ex).length 0)=some (.str x.name)from load_box (cs:=ζ3) (by simp+zetaDelta) rfl)<|.load (lB false 1 ζ1 1 0 (.str p.name) ζ2)<|.yes (show(x.name==p.name)=true from(by simp+zetaDelta [q4]))<|.tt<|.bin (iI i)<|.cutQ k156_0 [(3,.ptr 0 0),(4,.ptr 1 0),(5,.ptr 2 0),(7,.int .i64 ↑n),(11,.sl .sh (s.pods.map encPd)),(12,.int .i64 (↑s.pods.length)),(13,.int .i64 (↑(i+1)))] (ζ1) (fun T hT=>(ih0 T hT)))
     ·by_cases q5:x.node=[]
      ·have e:n+((x::post).filter (standB s p d)).length=n+(post.filter (standB s p d)).length:=by simp[List.filter_cons,standB,q5]
       rw[e]
       exact let ζ2:List AV:=[.str p.name,.str p.owner,.int .i64 p.prio,.sl .sh (p.need.map encA),.sl .sh (p.labels.map encP),.sl .sh (p.sel.map encM),.sl .sh (p.tols.map encL),.str p.key,.int .i64 p.most,.str p.node,.bool p.hold];let ζ3:List AV:=[.str x.name,.str x.owner,.int .i64 x.prio,.sl .sh (x.need.map encA),.sl .sh (x.labels.map encP),.sl .sh (x.sel.map encM),.sl .sh (x.tols.map encL),.str x.key,.int .i64 x.most,.str x.node,.bool x.hold];let ζ4:List AV:=[.sl .sh (s.nodes.map encN),.sl .sh (s.pods.map encPd),.sl .sh (s.buds.map encB)];let ζ1:Heap:={boxes:=ζ4::ζ2::[.str d]::(ex++[ζ3]),toks:=[],loops:=[]:Heap};let ζ5:List AV:=[.str [],.str [],.int .i64 0,.sl .full [],.sl .full [],.sl .full [],.sl .full [],.str [],.int .i64 0,.str [],.bool false];gG 160 _ hT (.yes (dT ((↑i:Int)<(↑s.pods.length:Int)))<|.idx hxi<|.load (rfl:loadA true 11 {boxes:=ζ4::ζ2::[.str d]::ex,toks:=[],loops:=[]:Heap} (.ref ζ3)=some (.agg ζ3))<|.store (show storeA 11 {boxes:=ζ4::ζ2::[.str d]::(ex++[ζ5]),toks:=[],loops:=[]:Heap} (.ptr (ζ4::ζ2::[.str d]::ex).length 0) (.agg ζ3)=some (ζ1)from store_box2 (cs:=ζ5) (cs':=ζ3) (by simp+zetaDelta) rfl (by simp+zetaDelta [List.set_append]))<|.load (lB false 1 ζ1 1 1 (.str p.owner) ζ2)<|.no (show(p.owner==[])=false from Bool.eq_false_iff.2 (by simp+zetaDelta [q1]))<|.load (show loadA false 1 ζ1 (.ptr (ζ4::ζ2::[.str d]::ex).length 1)=some (.str x.owner)from load_box (cs:=ζ3) (by simp+zetaDelta) rfl)<|.load (lB false 1 ζ1 1 1 (.str p.owner) ζ2)<|.no (show(!x.owner==p.owner)=false from by have hh:(x.owner==p.owner)=true:=(by simp+zetaDelta [q2]);simp[hh])<|.load (show loadA false 1 ζ1 (.ptr (ζ4::ζ2::[.str d]::ex).length 10)=some (.bool x.hold)from load_box (cs:=ζ3) (by simp+zetaDelta) rfl)<|.no (show(x.hold)=false from Bool.eq_false_iff.2 (by simp+zetaDelta [q3]))<|.load (show loadA false 1 ζ1 (.ptr (ζ4::ζ2::[.str d]::ex).length 0)=some (.str x.name)from load_box (cs:=ζ3) (by simp+zetaDelta) rfl)<|.load (lB false 1 ζ1 1 0 (.str p.name) ζ2)<|.no (show(x.name==p.name)=false from Bool.eq_false_iff.2 (by simp+zetaDelta [q4]))<|.load (show loadA false 1 ζ1 (.ptr (ζ4::ζ2::[.str d]::ex).length 9)=some (.str x.node)from load_box (cs:=ζ3) (by simp+zetaDelta) rfl)<|.yes (show(x.node==[])=true from(by simp+zetaDelta [q5]))<|.bin (iI i)<|.cutQ k156_0 [(3,.ptr 0 0),(4,.ptr 1 0),(5,.ptr 2 0),(7,.int .i64 ↑n),(11,.sl .sh (s.pods.map encPd)),(12,.int .i64 (↑s.pods.length)),(13,.int .i64 (↑(i+1)))] (ζ1) (fun T hT=>(ih0 T hT)))
      ·by_cases q6:domS s x.node p.key=some d
       ·have e:n+((x::post).filter (standB s p d)).length=(n+1)+(post.filter (standB s p d)).length:=by simp[List.filter_cons,standB,q1,q2,q3,q4,q5,q6];omega
        rw[e]
        rw[if_pos q6]at ct
        have ih1:=ih (i+1) hnx (n+1) (by omega) (ex++[(encPd x).cells])
        exact let ζ2:List AV:=[.str p.name,.str p.owner,.int .i64 p.prio,.sl .sh (p.need.map encA),.sl .sh (p.labels.map encP),.sl .sh (p.sel.map encM),.sl .sh (p.tols.map encL),.str p.key,.int .i64 p.most,.str p.node,.bool p.hold];let ζ3:List AV:=[.str x.name,.str x.owner,.int .i64 x.prio,.sl .sh (x.need.map encA),.sl .sh (x.labels.map encP),.sl .sh (x.sel.map encM),.sl .sh (x.tols.map encL),.str x.key,.int .i64 x.most,.str x.node,.bool x.hold];let ζ4:List AV:=[.sl .sh (s.nodes.map encN),.sl .sh (s.pods.map encPd),.sl .sh (s.buds.map encB)];let ζ1:Heap:={boxes:=ζ4::ζ2::[.str d]::(ex++[ζ3]),toks:=[],loops:=[]:Heap};let ζ5:List AV:=[.str [],.str [],.int .i64 0,.sl .full [],.sl .full [],.sl .full [],.sl .full [],.str [],.int .i64 0,.str [],.bool false];let ζ6:Heap:={boxes:=(encSt s).cells::(encPd p).cells::[.str d]::(ex++[(encPd x).cells]),toks:=[],loops:=[]:Heap};gG 160 _ hT (.yes (dT ((↑i:Int)<(↑s.pods.length:Int)))<|.idx hxi<|.load (rfl:loadA true 11 {boxes:=ζ4::ζ2::[.str d]::ex,toks:=[],loops:=[]:Heap} (.ref ζ3)=some (.agg ζ3))<|.store (show storeA 11 {boxes:=ζ4::ζ2::[.str d]::(ex++[ζ5]),toks:=[],loops:=[]:Heap} (.ptr (ζ4::ζ2::[.str d]::ex).length 0) (.agg ζ3)=some (ζ1)from store_box2 (cs:=ζ5) (cs':=ζ3) (by simp+zetaDelta) rfl (by simp+zetaDelta [List.set_append]))<|.load (lB false 1 ζ1 1 1 (.str p.owner) ζ2)<|.no (show(p.owner==[])=false from Bool.eq_false_iff.2 (by simp+zetaDelta [q1]))<|.load (show loadA false 1 ζ1 (.ptr (ζ4::ζ2::[.str d]::ex).length 1)=some (.str x.owner)from load_box (cs:=ζ3) (by simp+zetaDelta) rfl)<|.load (lB false 1 ζ1 1 1 (.str p.owner) ζ2)<|.no (show(!x.owner==p.owner)=false from by have hh:(x.owner==p.owner)=true:=(by simp+zetaDelta [q2]);simp[hh])<|.load (show loadA false 1 ζ1 (.ptr (ζ4::ζ2::[.str d]::ex).length 10)=some (.bool x.hold)from load_box (cs:=ζ3) (by simp+zetaDelta) rfl)<|.no (show(x.hold)=false from Bool.eq_false_iff.2 (by simp+zetaDelta [q3]))<|.load (show loadA false 1 ζ1 (.ptr (ζ4::ζ2::[.str d]::ex).length 0)=some (.str x.name)from load_box (cs:=ζ3) (by simp+zetaDelta) rfl)<|.load (lB false 1 ζ1 1 0 (.str p.name) ζ2)<|.no (show(x.name==p.name)=false from Bool.eq_false_iff.2 (by simp+zetaDelta [q4]))<|.load (show loadA false 1 ζ1 (.ptr (ζ4::ζ2::[.str d]::ex).length 9)=some (.str x.node)from load_box (cs:=ζ3) (by simp+zetaDelta) rfl)<|.no (show(x.node==[])=false from Bool.eq_false_iff.2 (by simp+zetaDelta [q5]))<|.effY ct<|.tt<|.bin (iI n)<|.bin (iI i)<|.cutQ k156_0 [(3,.ptr 0 0),(4,.ptr 1 0),(5,.ptr 2 0),(7,.int .i64 (↑(n+1):Int)),(11,.sl .sh (s.pods.map encPd)),(12,.int .i64 (↑s.pods.length)),(13,.int .i64 (↑(i+1)))] (ζ1) (fun T hT=>(ih1 T hT)))
       ·have e:n+((x::post).filter (standB s p d)).length=n+(post.filter (standB s p d)).length:=by simp[List.filter_cons,standB,q6]
        rw[e]
        rw[if_neg q6]at ct
        exact let ζ2:List AV:=[.str p.name,.str p.owner,.int .i64 p.prio,.sl .sh (p.need.map encA),.sl .sh (p.labels.map encP),.sl .sh (p.sel.map encM),.sl .sh (p.tols.map encL),.str p.key,.int .i64 p.most,.str p.node,.bool p.hold];let ζ3:List AV:=[.str x.name,.str x.owner,.int .i64 x.prio,.sl .sh (x.need.map encA),.sl .sh (x.labels.map encP),.sl .sh (x.sel.map encM),.sl .sh (x.tols.map encL),.str x.key,.int .i64 x.most,.str x.node,.bool x.hold];let ζ4:List AV:=[.sl .sh (s.nodes.map encN),.sl .sh (s.pods.map encPd),.sl .sh (s.buds.map encB)];let ζ1:Heap:={boxes:=ζ4::ζ2::[.str d]::(ex++[ζ3]),toks:=[],loops:=[]:Heap};let ζ5:List AV:=[.str [],.str [],.int .i64 0,.sl .full [],.sl .full [],.sl .full [],.sl .full [],.str [],.int .i64 0,.str [],.bool false];let ζ6:Heap:={boxes:=(encSt s).cells::(encPd p).cells::[.str d]::(ex++[(encPd x).cells]),toks:=[],loops:=[]:Heap};gG 160 _ hT (.yes (dT ((↑i:Int)<(↑s.pods.length:Int)))<|.idx hxi<|.load (rfl:loadA true 11 {boxes:=ζ4::ζ2::[.str d]::ex,toks:=[],loops:=[]:Heap} (.ref ζ3)=some (.agg ζ3))<|.store (show storeA 11 {boxes:=ζ4::ζ2::[.str d]::(ex++[ζ5]),toks:=[],loops:=[]:Heap} (.ptr (ζ4::ζ2::[.str d]::ex).length 0) (.agg ζ3)=some (ζ1)from store_box2 (cs:=ζ5) (cs':=ζ3) (by simp+zetaDelta) rfl (by simp+zetaDelta [List.set_append]))<|.load (lB false 1 ζ1 1 1 (.str p.owner) ζ2)<|.no (show(p.owner==[])=false from Bool.eq_false_iff.2 (by simp+zetaDelta [q1]))<|.load (show loadA false 1 ζ1 (.ptr (ζ4::ζ2::[.str d]::ex).length 1)=some (.str x.owner)from load_box (cs:=ζ3) (by simp+zetaDelta) rfl)<|.load (lB false 1 ζ1 1 1 (.str p.owner) ζ2)<|.no (show(!x.owner==p.owner)=false from by have hh:(x.owner==p.owner)=true:=(by simp+zetaDelta [q2]);simp[hh])<|.load (show loadA false 1 ζ1 (.ptr (ζ4::ζ2::[.str d]::ex).length 10)=some (.bool x.hold)from load_box (cs:=ζ3) (by simp+zetaDelta) rfl)<|.no (show(x.hold)=false from Bool.eq_false_iff.2 (by simp+zetaDelta [q3]))<|.load (show loadA false 1 ζ1 (.ptr (ζ4::ζ2::[.str d]::ex).length 0)=some (.str x.name)from load_box (cs:=ζ3) (by simp+zetaDelta) rfl)<|.load (lB false 1 ζ1 1 0 (.str p.name) ζ2)<|.no (show(x.name==p.name)=false from Bool.eq_false_iff.2 (by simp+zetaDelta [q4]))<|.load (show loadA false 1 ζ1 (.ptr (ζ4::ζ2::[.str d]::ex).length 9)=some (.str x.node)from load_box (cs:=ζ3) (by simp+zetaDelta) rfl)<|.no (show(x.node==[])=false from Bool.eq_false_iff.2 (by simp+zetaDelta [q5]))<|.effY ct<|.ff<|.bin (iI i)<|.cutQ k156_0 [(3,.ptr 0 0),(4,.ptr 1 0),(5,.ptr 2 0),(7,.int .i64 ↑n),(11,.sl .sh (s.pods.map encPd)),(12,.int .i64 (↑s.pods.length)),(13,.int .i64 (↑(i+1)))] (ζ1) (fun T hT=>(ih0 T hT)))
   ·have e:n+((x::post).filter (standB s p d)).length=n+(post.filter (standB s p d)).length:=by simp[List.filter_cons,standB,q2]
    rw[e]
    exact let ζ2:List AV:=[.str p.name,.str p.owner,.int .i64 p.prio,.sl .sh (p.need.map encA),.sl .sh (p.labels.map encP),.sl .sh (p.sel.map encM),.sl .sh (p.tols.map encL),.str p.key,.int .i64 p.most,.str p.node,.bool p.hold];let ζ3:List AV:=[.str x.name,.str x.owner,.int .i64 x.prio,.sl .sh (x.need.map encA),.sl .sh (x.labels.map encP),.sl .sh (x.sel.map encM),.sl .sh (x.tols.map encL),.str x.key,.int .i64 x.most,.str x.node,.bool x.hold];let ζ4:List AV:=[.sl .sh (s.nodes.map encN),.sl .sh (s.pods.map encPd),.sl .sh (s.buds.map encB)];let ζ1:Heap:={boxes:=ζ4::ζ2::[.str d]::(ex++[ζ3]),toks:=[],loops:=[]:Heap};let ζ5:List AV:=[.str [],.str [],.int .i64 0,.sl .full [],.sl .full [],.sl .full [],.sl .full [],.str [],.int .i64 0,.str [],.bool false];gG 160 _ hT (.yes (dT ((↑i:Int)<(↑s.pods.length:Int)))<|.idx hxi<|.load (rfl:loadA true 11 {boxes:=ζ4::ζ2::[.str d]::ex,toks:=[],loops:=[]:Heap} (.ref ζ3)=some (.agg ζ3))<|.store (show storeA 11 {boxes:=ζ4::ζ2::[.str d]::(ex++[ζ5]),toks:=[],loops:=[]:Heap} (.ptr (ζ4::ζ2::[.str d]::ex).length 0) (.agg ζ3)=some (ζ1)from store_box2 (cs:=ζ5) (cs':=ζ3) (by simp+zetaDelta) rfl (by simp+zetaDelta [List.set_append]))<|.load (lB false 1 ζ1 1 1 (.str p.owner) ζ2)<|.no (show(p.owner==[])=false from Bool.eq_false_iff.2 (by simp+zetaDelta [q1]))<|.load (show loadA false 1 ζ1 (.ptr (ζ4::ζ2::[.str d]::ex).length 1)=some (.str x.owner)from load_box (cs:=ζ3) (by simp+zetaDelta) rfl)<|.load (lB false 1 ζ1 1 1 (.str p.owner) ζ2)<|.yes (show(!x.owner==p.owner)=true from by have hh:¬((x.owner==p.owner)=true):=(by simp+zetaDelta [q2]);simp[hh])<|.tt<|.tt<|.tt<|.bin (iI i)<|.cutQ k156_0 [(3,.ptr 0 0),(4,.ptr 1 0),(5,.ptr 2 0),(7,.int .i64 ↑n),(11,.sl .sh (s.pods.map encPd)),(12,.int .i64 (↑s.pods.length)),(13,.int .i64 (↑(i+1)))] (ζ1) (fun T hT=>(ih0 T hT)))
theorem count_any(s:St)(p:Pod)(d:List UInt8)(hp:s.pods.length≤1000)(hs:s.nodes.length<9223372036854775807)(hl:∀n∈s.nodes,n.labels.length<9223372036854775807):
 Gives cfg 156 [encSt s,encPd p,.str d] (.int .i64 (countS s p d)):=by
 refine Gives.run (l156 _ _) ?_
 have h:=cnt_loop s p d hp hs hl s.pods 0 rfl 0 (by omega) []
 rw[Nat.zero_add]at h
 unfold countS
 exact gG 60 [] trivial (.len (lM .sh encPd s.pods)<|.cutQ k156_0 [(3,.ptr 0 0),(4,.ptr 1 0),(5,.ptr 2 0),(7,.int .i64 0),(11,.sl .sh (s.pods.map encPd)),(12,.int .i64 (↑s.pods.length)),(13,.int .i64 0)] ({boxes:=[[.sl .sh (s.nodes.map encN),.sl .sh (s.pods.map encPd),.sl .sh (s.buds.map encB)],[.str p.name,.str p.owner,.int .i64 p.prio,.sl .sh (p.need.map encA),.sl .sh (p.labels.map encP),.sl .sh (p.sel.map encM),.sl .sh (p.tols.map encL),.str p.key,.int .i64 p.most,.str p.node,.bool p.hold],[.str d]],toks:=[],loops:=[]:Heap}) (fun T hT=>(h T hT)))
end Go.Aa.T
set_option linter.unusedVariables false
set_option linter.unusedSimpArgs false
set_option maxRecDepth 100000
namespace Go.Aa.T
open Go.Aa Go.Proofs
def valsOf(key:List UInt8)(l:List Node):List (List UInt8):=l.filterMap fun n=>getP n.labels key
def domsS(s:St)(key:List UInt8):List (List UInt8):=namesOf (valsOf key s.nodes)
theorem vals_len(key:List UInt8)(l:List Node):(valsOf key l).length≤l.length:=List.length_filterMap_le _ _
theorem dm_end(s:St)(acc:List (List UInt8))(B:List (List AV))(kk:Nat)(hB:acc=[]∨B[kk]?=some (acc.map .str))(hl:acc.length≤100000)(T:Env)(i:Nat)(hi:s.nodes.length≤i)
 (hT:Has T [(5,rM kk acc),(11,.sl .sh (s.nodes.map encN)),(12,.int .i64 s.nodes.length),(13,.int .i64 i)]):Goes cfg a157 k157_0 T ⟨B,[],[]⟩ (FinN acc):=by
 cases acc with
 |nil=>
  have h1:=(does_data sort_none [.sl .full []] rfl rfl rfl rfl ⟨B,[],[]⟩).2
  have h2:=(does_data compact_none [.sl .full []] rfl rfl rfl rfl ⟨B,[],[]⟩).2
  exact let ζ1:Heap:={boxes:=B,toks:=[],loops:=[]:Heap};gG 60 _ hT (.no (dF ((↑i:Int)<(↑s.nodes.length:Int)))<|.effY h1<|.effY h2<|.fin ((.ret (.sl .sh []),ζ1)) (by exact⟨_,rfl,rfl⟩))
 |cons x l=>
  have hk:B[kk]?=some ((x::l).map .str):=by simpa using hB
  have h1:=sort_does hk (by simp) (by omega)
  have hkl:kk<B.length:=(List.getElem?_eq_some_iff.1 hk).1
  obtain⟨m,C,h2,h3,h4,h5⟩:=compact_any kk (x::l).length B (by omega) hkl (isort (x::l)) (isort_length _) (by simp)
  rw[List.length_cons]at h1 h2 h5
  have hout:dataOut ⟨B.set kk (C.map .str),[],[]⟩ (.msl kk 0 m 1)=some (.sl .sh ((namesOf (x::l)).map .str)):=by
   have:=out_box1 (bs:=B.set kk (C.map .str)) (tk:=[]) (ls:=[]) (kk:=kk) (n:=m) (List.getElem?_set_self hkl) (by simpa using h4) (strs_data C)
   rw[this,←List.map_take,h3];rfl
  exact let ζ1:Heap:={boxes:=B.set kk (List.map .str (isort (x::l))),toks:=[],loops:=[]:Heap};let ζ2:Heap:={boxes:=B.set kk (List.map .str C),toks:=[],loops:=[]:Heap};gG 60 _ hT (.no (dF ((↑i:Int)<(↑s.nodes.length:Int)))<|.effY h1<|.effY h2<|.fin ((.ret (.msl kk 0 m 1),ζ2)) (by exact⟨_,rfl,hout⟩))
theorem dm_loop(s:St)(key:List UInt8)(hs:s.nodes.length≤1000)(hl:∀n∈s.nodes,n.labels.length<9223372036854775807):∀(post:List Node)(i:Nat)(hd:s.nodes.drop i=post)(hi:i≤s.nodes.length)(acc:List (List UInt8))(B:List (List AV))(kk:Nat)(hB:acc=[]∨B[kk]?=some (acc.map .str))(hl:acc.length≤i)(T:Env)
 (hT:Has T [(1,.str key),(5,rM kk acc),(11,.sl .sh (s.nodes.map encN)),(12,.int .i64 s.nodes.length),(13,.int .i64 i)]),Goes cfg a157 k157_0 T ⟨B,[],[]⟩ (FinN (acc++valsOf key post)):=by
 intro post
 induction post with
 |nil=>
  intro i hd hi acc B kk hB hl T hT
  have hge:=drop_ge hd
  rw[show acc++valsOf key []=acc by simp[valsOf]]
  exact dm_end s acc B kk hB (by omega) T i hge hT.2
 |cons x post ih=>
  intro i hd hi acc B kk hB hl2 T hT
  have hlt:=drop_lt hd
  have hnx:=drop_next hd
  have hxi:idxA 5 (.sl .sh (s.nodes.map encN)) (.int .i64 (i:Nat))=some (.ref (encN x).cells):=idx_row (f:=encN) hd rfl
  have g:=get_any x.labels key (hl x (drop_mem hd))
  cases hv:getP x.labels key with
  |none=>
   rw[hv]at g
   have g:Gives cfg 200 [.sl .sh (x.labels.map encP),.str key] (.tuple [.str [],.bool false]):=g
   have g2:=fun H=>(does_data g [.sl .sh (x.labels.map encP),.str key] rfl rfl rfl rfl H).2
   have e:acc++valsOf key (x::post)=acc++valsOf key post:=by simp[valsOf,hv]
   rw[e]
   have hB':acc=[]∨(B++[(encN x).cells])[kk]?=some (acc.map .str):=by
    rcases hB with h|h
    ·exact .inl h
    ·exact .inr (by rw[List.getElem?_append_left (List.getElem?_eq_some_iff.1 h).1,h])
   have ih':=ih (i+1) hnx hlt acc (B++[(encN x).cells]) kk hB' (by omega)
   exact let ζ1:List AV:=[.str x.name,.sl .sh (x.cap.map encA),.sl .sh (x.labels.map encP),.sl .sh (x.taints.map encT),.bool x.cordon];let ζ2:Heap:={boxes:=B++[ζ1],toks:=[],loops:=[]:Heap};let ζ3:List AV:=[.str [],.sl .full [],.sl .full [],.sl .full [],.bool false];gG 120 _ hT (.yes (dT ((↑i:Int)<(↑s.nodes.length:Int)))<|.idx hxi<|.load (rfl:loadA true 5 {boxes:=B,toks:=[],loops:=[]:Heap} (.ref ζ1)=some (.agg ζ1))<|.store (show storeA 5 {boxes:=B++[ζ3],toks:=[],loops:=[]:Heap} (.ptr B.length 0) (.agg ζ1)=some (ζ2)from store_box2 (cs:=ζ3) (cs':=ζ1) (by simp+zetaDelta) rfl (by simp+zetaDelta [List.set_append]))<|.load (lB false 1 ζ2 B.length 2 (.sl .sh (x.labels.map encP)) ζ1)<|.effY (show Does cfg (.callM (.c (.func 200 [])) (List.map .c [.sl .sh (x.labels.map encP),.str key])) ζ2 (.tuple [.str [],.bool false]) ζ2 from g2 _)<|.ff<|.bin (iI i)<|.cutQ k157_0 [(1,.str key),(5,rM kk acc),(11,.sl .sh (s.nodes.map encN)),(12,.int .i64 (↑s.nodes.length)),(13,.int .i64 (↑(i+1)))] (ζ2) (fun T hT=>(ih' T hT)))
  |some v=>
   rw[hv]at g
   have g:Gives cfg 200 [.sl .sh (x.labels.map encP),.str key] (.tuple [.str v,.bool true]):=g
   have g2:=fun H=>(does_data g [.sl .sh (x.labels.map encP),.str key] rfl rfl rfl rfl H).2
   have e:acc++valsOf key (x::post)=(acc++[v])++valsOf key post:=by simp[valsOf,hv]
   rw[e]
   cases acc with
   |nil=>
    have ap:=does_newB (es:=1) (b:=16) (B:=B++[(encN x).cells]) (tk:=[]) (ls:=[]) (v:=.str v) (sk:=.full) rfl rfl (by omega)
    have ih':=ih (i+1) hnx hlt [v] (B++[(encN x).cells]++[[AV.str v]]) (B++[(encN x).cells]).length (.inr (by simp)) (by simp)
    exact let ζ1:List AV:=[.str x.name,.sl .sh (x.cap.map encA),.sl .sh (x.labels.map encP),.sl .sh (x.taints.map encT),.bool x.cordon];let ζ2:Heap:={boxes:=B++[ζ1],toks:=[],loops:=[]:Heap};let ζ3:List AV:=[.str [],.sl .full [],.sl .full [],.sl .full [],.bool false];gG 120 _ hT (.yes (dT ((↑i:Int)<(↑s.nodes.length:Int)))<|.idx hxi<|.load (rfl:loadA true 5 {boxes:=B,toks:=[],loops:=[]:Heap} (.ref ζ1)=some (.agg ζ1))<|.store (show storeA 5 {boxes:=B++[ζ3],toks:=[],loops:=[]:Heap} (.ptr B.length 0) (.agg ζ1)=some (ζ2)from store_box2 (cs:=ζ3) (cs':=ζ1) (by simp+zetaDelta) rfl (by simp+zetaDelta [List.set_append]))<|.load (lB false 1 ζ2 B.length 2 (.sl .sh (x.labels.map encP)) ζ1)<|.effY (show Does cfg (.callM (.c (.func 200 [])) (List.map .c [.sl .sh (x.labels.map encP),.str key])) ζ2 (.tuple [.str v,.bool true]) ζ2 from g2 _)<|.tt<|.effY ap<|.bin (iI i)<|.cutQ k157_0 [(1,.str key),(5,.msl (B++[ζ1]).length 0 1 1),(11,.sl .sh (s.nodes.map encN)),(12,.int .i64 (↑s.nodes.length)),(13,.int .i64 (↑(i+1)))] ({boxes:=B++[ζ1]++[[AV.str v]],toks:=[],loops:=[]:Heap}) (fun T hT=>(ih' T hT)))
   |cons y l=>
    have hk:B[kk]?=some ((y::l).map .str):=by simpa using hB
    have hk2:(B++[(encN x).cells])[kk]?=some ((y::l).map .str):=by rw[List.getElem?_append_left (List.getElem?_eq_some_iff.1 hk).1,hk]
    have ap:=does_growB (es:=1) (b:=16) (n:=l.length+1) (tk:=[]) (ls:=[]) (v:=.str v) (sk:=.full) hk2 (by simp) (by omega) (strs_data _) rfl rfl (by simp at hl2;omega)
    obtain⟨D,hD⟩:∃D,D=(y::l).map AV.str++(AV.str v).cells:=⟨_,rfl⟩
    rw[←hD]at ap
    have ih':=ih (i+1) hnx hlt ((y::l)++[v]) ((B++[(encN x).cells]).set kk []++[D]) (B++[(encN x).cells]).length (.inr (by
     rw[List.getElem?_append_right (by simp),hD];simp[AV.cells])) (by simp at hl2⊢;omega)
    have er:rM (B++[(encN x).cells]).length ((y::l)++[v])=.msl (B++[(encN x).cells]).length 0 (l.length+1+1) 1:=by simp[rM]
    rw[er]at ih'
    exact let ζ1:List AV:=[.str x.name,.sl .sh (x.cap.map encA),.sl .sh (x.labels.map encP),.sl .sh (x.taints.map encT),.bool x.cordon];let ζ2:Heap:={boxes:=B++[ζ1],toks:=[],loops:=[]:Heap};let ζ3:Heap:={boxes:=(B++[(encN x).cells]).set kk []++[D],toks:=[],loops:=[]:Heap};let ζ4:List AV:=[.str [],.sl .full [],.sl .full [],.sl .full [],.bool false];gG 120 _ hT (.yes (dT ((↑i:Int)<(↑s.nodes.length:Int)))<|.idx hxi<|.load (rfl:loadA true 5 {boxes:=B,toks:=[],loops:=[]:Heap} (.ref ζ1)=some (.agg ζ1))<|.store (show storeA 5 {boxes:=B++[ζ4],toks:=[],loops:=[]:Heap} (.ptr B.length 0) (.agg ζ1)=some (ζ2)from store_box2 (cs:=ζ4) (cs':=ζ1) (by simp+zetaDelta) rfl (by simp+zetaDelta [List.set_append]))<|.load (lB false 1 ζ2 B.length 2 (.sl .sh (x.labels.map encP)) ζ1)<|.effY (show Does cfg (.callM (.c (.func 200 [])) (List.map .c [.sl .sh (x.labels.map encP),.str key])) ζ2 (.tuple [.str v,.bool true]) ζ2 from g2 _)<|.tt<|.effY ap<|.bin (iI i)<|.cutQ k157_0 [(1,.str key),(5,.msl (B++[ζ1]).length 0 (l.length+1+1) 1),(11,.sl .sh (s.nodes.map encN)),(12,.int .i64 (↑s.nodes.length)),(13,.int .i64 (↑(i+1)))] (ζ3) (fun T hT=>(ih' T hT)))
theorem doms_any(s:St)(key:List UInt8)(hs:s.nodes.length≤1000)(hl:∀n∈s.nodes,n.labels.length<9223372036854775807):GivesF cfg 157 [encSt s,.str key] (.sl .sh ((domsS s key).map .str)):=by
 refine GivesF.run (l157 _ _) ?_
 have h:=dm_loop s key hs hl s.nodes 0 rfl (Nat.zero_le _) [] [(encSt s).cells] 0 (.inl rfl) (by simp)
 have h:∀T,Has T [(1,.str key),(5,.sl .full []),(11,.sl .sh (s.nodes.map encN)),(12,.int .i64 s.nodes.length),(13,.int .i64 (0:Nat))]→Goes cfg a157 k157_0 T ⟨[(encSt s).cells],[],[]⟩ (FinN (valsOf key s.nodes)):=h
 exact gG 60 [] trivial (.len (lM .sh encN s.nodes)<|.cutQ k157_0 [(1,.str key),(5,.sl .full []),(11,.sl .sh (s.nodes.map encN)),(12,.int .i64 (↑s.nodes.length)),(13,.int .i64 0)] ({boxes:=[[.sl .sh (s.nodes.map encN),.sl .sh (s.pods.map encPd),.sl .sh (s.buds.map encB)]],toks:=[],loops:=[]:Heap}) (fun T hT=>(h T hT)))
end Go.Aa.T
set_option linter.unusedVariables false
set_option linter.unusedSimpArgs false
set_option maxRecDepth 100000
namespace Go.Aa.T
open Go.Aa Go.Proofs
end Go.Aa.T
set_option linter.unusedVariables false
set_option linter.unusedSimpArgs false
set_option maxRecDepth 100000
namespace Go.Aa.T
open Go.Aa Go.Proofs
theorem in2_d0{x:AV}{nb nt:Nat}(h:data0 x=true):in2 nb nt x=true:=in2_data0 h
def Tame(B:List (List AV)):Prop:=∀nb,B.length≤nb→B.all (·.all (in2 nb 0))=true
theorem tame_data{B:List (List AV)}(h:B.all (·.all data0)=true):Tame B:=fun nb _=>List.all_eq_true.2 fun b hb=>List.all_eq_true.2 fun x hx=>in2_d0 (List.all_eq_true.1 (List.all_eq_true.1 h b hb) x hx)
theorem tame_app{B ex:List (List AV)}(h:Tame B)(he:ex.all (·.all data0)=true):Tame (B++ex):=fun nb hn=>by
 rw[List.all_append,h nb (by simp at hn;omega),tame_data he nb (by simp at hn;omega)];rfl
theorem tame_set{B:List (List AV)}{k:Nat}{cs:List AV}(h:Tame B)(hc:cs.all data0=true):Tame (B.set k cs):=fun nb hn=>by
 refine List.all_eq_true.2 fun b hb=> ?_
 rcases List.mem_or_eq_of_mem_set hb with hb|rfl
 ·exact List.all_eq_true.1 (h nb (by simpa using hn)) b hb
 ·exact List.all_eq_true.2 fun x hx=>in2_d0 (List.all_eq_true.1 hc x hx)
theorem trunc_tame{B ex:List (List AV)}{v:AV}(hB:Tame B)(hv:within B.length 0 v=true):trunc B.length 0 v ⟨B++ex,[],[]⟩=⟨B,[],[]⟩:=by
 have h1:=hB B.length (Nat.le_refl _)
 unfold trunc
 simp only[List.take_left,List.length_nil,List.all_nil,Bool.true_and,hv,h1,Bool.and_self,if_true,List.take_zero,ite_self]
theorem does_closure{B ex:List (List AV)}{g:FuncId}{jj:Nat}{x v:AV}(h:lim cfg (.fn g) [x,.ptr jj 0] ⟨B,[],[]⟩=some (.ret v,⟨B++ex,[],[]⟩))(hx:shutA x=x)(hB:Tame B)(hv:within B.length 0 v=true)(hs:shutA v=v):
 Does cfg (.call (.c (.func g [.ptr jj 0])) [.c x]) ⟨B,[],[]⟩ v ⟨B,[],[]⟩∧Does cfg (.callM (.c (.func g [.ptr jj 0])) [.c x]) ⟨B,[],[]⟩ v ⟨B,[],[]⟩:=by
 have e1:=does_callE (cfg:=cfg) (xs:=[x]) (caps:=[.ptr jj 0]) h (by simp[hx]) (by simp[data0])
 have e2:Does cfg (.callM (.c (.func g [.ptr jj 0])) [.c x]) ⟨B,[],[]⟩ (shutA v) (trunc B.length 0 (shutA v) ⟨B++ex,[],[]⟩):=fun T=>by
  simp only[opStep,List.map_cons,List.map_nil,ev]
  simp only[callW,List.all_cons,List.all_nil,data0,Bool.and_false,Bool.false_and,Bool.and_true,Bool.false_eq_true,if_false,List.cons_append,List.nil_append,callE,hx,h]
  rfl
 rw[hs]at e1 e2
 rw[trunc_tame hB hv]at e2
 rw[show(⟨B,[],[]⟩:Heap).boxes.length=B.length from rfl,show(⟨B,[],[]⟩:Heap).toks.length=0 from rfl,trunc_tame hB hv]at e1
 exact⟨e1,e2⟩
abbrev pcs(l:List Pod):List AV:=rowCells (l.map encPd)
theorem encPd_el(l:List Pod):(l.map encPd).all (elOk 11)=true:=List.all_eq_true.2 fun x hx=>by
 obtain⟨j,_,rfl⟩:=List.mem_map.1 hx
 rfl
theorem pcs_len(l:List Pod):(pcs l).length=l.length*11:=by
 have:=rowCells_len (es:=11) (l:=l.map encPd) lenPd
 simpa using this
theorem pcs_data(l:List Pod):(pcs l).all data0=true:=by
 refine List.all_eq_true.2 fun x hx=> ?_
 simp only[pcs,rowCells,List.mem_flatMap,List.mem_map]at hx
 obtain⟨a,⟨p,-,rfl⟩,hx⟩:=hx
 simp only[encPd,AV.cells,List.mem_cons,List.not_mem_nil,or_false]at hx
 rcases hx with rfl|rfl|rfl|rfl|rfl|rfl|rfl|rfl|rfl|rfl|rfl<;>rfl
theorem pc_data(p:Pod):(encPd p).cells.all data0=true:=by rfl
theorem loadP{B:List (List AV)}{kk:Nat}{C:List Pod}{Z:List AV}{i:Nat}{p:Pod}(hk:B[kk]?=some (pcs C++Z))(hp:C[i]?=some p):Does cfg (.load true 11 (.c (.ptr kk (0+i*11)))) ⟨B,[],[]⟩ (encPd p) ⟨B,[],[]⟩:=fun T=>by
 obtain⟨h1,h2⟩:=cells_at (es:=11) (i:=i) (encPd_el C) (x:=encPd p) (by simp[hp])
 change((pcs C).drop (i*11)).take 11=_ at h1
 change _≤(pcs C).length at h2
 have:loadA true 11 ⟨B,[],[]⟩ (.ptr kk (0+i*11))=some (encPd p):=by
  simp only[loadA,hk,Nat.zero_add]
  rw[if_pos (by rw[List.length_append];omega),List.drop_append_of_le_length (by omega),List.take_append_of_le_length (by rw[List.length_drop];omega),h1];rfl
 simp only[opStep,ev,this]
theorem pcs_set:∀(C:List Pod)(j:Nat)(p:Pod),j<C.length→(pcs C).take (j*11)++(encPd p).cells++(pcs C).drop (j*11+11)=pcs (C.set j p)
 |[],j,p,h=>by simp at h
 |c::C,0,p,h=>by
  have e1:pcs (c::C)=(encPd c).cells++pcs C:=by simp[pcs,rowCells]
  have e2:pcs ((c::C).set 0 p)=(encPd p).cells++pcs C:=by simp[pcs,rowCells]
  rw[e1,e2]
  have e3:(encPd c).cells.length=11:=rfl
  rw[Nat.zero_mul,List.take_zero,List.nil_append,Nat.zero_add,List.drop_append_of_le_length (by omega),List.drop_eq_nil_of_le (by omega),List.nil_append]
 |c::C,j+1,p,h=>by
  have e1:pcs (c::C)=(encPd c).cells++pcs C:=by simp[pcs,rowCells]
  have e2:pcs ((c::C).set (j+1) p)=(encPd c).cells++pcs (C.set j p):=by simp[pcs,rowCells]
  have ih:=pcs_set C j p (by simpa using h)
  have e3:(encPd c).cells.length=11:=rfl
  rw[e1,e2,←ih,List.take_append,e3,List.take_of_length_le (by rw[e3];omega),show(j+1)*11-11=j*11 by omega,List.drop_append,e3,List.drop_eq_nil_of_le (by rw[e3];omega),List.nil_append,show(j+1)*11+11-11=j*11+11 by omega]
  simp only[List.append_assoc]
theorem storeP{B:List (List AV)}{kk:Nat}{C:List Pod}{j:Nat}(p:Pod)(hk:B[kk]?=some (pcs C))(hj:j<C.length):Does cfg (.store 11 (.c (.ptr kk (0+j*11))) (.c (encPd p))) ⟨B,[],[]⟩ .undef ⟨B.set kk (pcs (C.set j p)),[],[]⟩:=fun T=>by
 have hl:=pcs_len C
 have e3:(encPd p).cells.length=11:=rfl
 have:storeA 11 ⟨B,[],[]⟩ (.ptr kk (0+j*11)) (encPd p)=some ⟨B.set kk (pcs (C.set j p)),[],[]⟩:=by
  simp only[storeA,hk,Nat.zero_add]
  rw[if_pos ⟨by omega,rfl,rfl,by omega⟩,paste_spec _ _ _ (by omega),e3,pcs_set C j p hj]
 simp only[opStep,ev,this]
theorem pred_any{B:List (List AV)}{jj:Nat}{nm:List UInt8}(hj:B[jj]?=some [.str nm])(hB:Tame B)(p:Pod):
 Does cfg (.call (.c (.func 91 [.ptr jj 0])) [.c (encPd p)]) ⟨B,[],[]⟩ (.bool (p.name==nm)) ⟨B,[],[]⟩∧Does cfg (.callM (.c (.func 91 [.ptr jj 0])) [.c (encPd p)]) ⟨B,[],[]⟩ (.bool (p.name==nm)) ⟨B,[],[]⟩:=by
 have hlt:=(List.getElem?_eq_some_iff.1 hj).1
 have l1:Does cfg (.load false 1 (.c (.ptr B.length 0))) ⟨B++[(encPd p).cells],[],[]⟩ (.str p.name) ⟨B++[(encPd p).cells],[],[]⟩:=fun T=>by
  have:loadA false 1 ⟨B++[(encPd p).cells],[],[]⟩ (.ptr B.length 0)=some (.str p.name):=by
   simp only[loadA,List.getElem?_concat_length];rfl
  simp only[opStep,ev,this]
 have l2:Does cfg (.load false 1 (.c (.ptr jj 0))) ⟨B++[(encPd p).cells],[],[]⟩ (.str nm) ⟨B++[(encPd p).cells],[],[]⟩:=fun T=>by
  have:loadA false 1 ⟨B++[(encPd p).cells],[],[]⟩ (.ptr jj 0)=some (.str nm):=by
   simp only[loadA,List.getElem?_append_left hlt,hj];rfl
  simp only[opStep,ev,this]
 refine does_closure (ex:=[(encPd p).cells]) ?_ rfl hB rfl rfl
 rw[l91]
 have key:Goes cfg a91 [.c c91] (initEnv [encPd p,.ptr jj 0]) ⟨B,[],[]⟩ (fun r=>r=(.ret (.bool (p.name==nm)),⟨B++[(encPd p).cells],[],[]⟩)):=by
  exact let ζ1:Heap:={boxes:=B++[(encPd p).cells],toks:=[],loops:=[]:Heap};gG 60 [] trivial (.effY l1<|.effY l2<|.fin ((.ret (.bool (p.name==nm)),{boxes:=B++[[AV.str p.name,.str p.owner,.int .i64 p.prio,.sl .sh (p.need.map encA),.sl .sh (p.labels.map encP),.sl .sh (p.sel.map encM),.sl .sh (p.tols.map encL),.str p.key,.int .i64 p.most,.str p.node,.bool p.hold]],toks:=[],loops:=[]:Heap})) rfl)
 obtain⟨r,h,rfl⟩:=key
 exact h
def idxG(nm:List UInt8)(i:Int):List Pod→Int
 |[]=> -1
 |x::l=>if x.name=nm then i else idxG nm (i+1) l
theorem index_loop{B:List (List AV)}{jj kk n:Nat}{nm:List UInt8}{C:List Pod}(hj:B[jj]?=some [.str nm])(hk:B[kk]?=some (pcs C))(hB:Tame B)(hC:C.length=n)(hn:n<9223372036854775807):∀(post:List Pod)(i:Nat)(hd:C.drop i=post)(T:Env)
 (hT:Has T [(0,.msl kk 0 n 11),(1,.func 91 [.ptr jj 0]),(7,.int .i64 n),(8,.int .i64 i)]),
 Goes cfg a162 k162_0 T ⟨B,[],[]⟩ (fun r=>r=(.ret (.int .i64 (idxG nm i post)),⟨B,[],[]⟩)):=by
 intro post
 induction post with
 |nil=>
  intro i hd T hT
  have hge:=drop_ge hd
  have c1:binA .lss (.int .i64 (i:Nat)) (.int .i64 (n:Nat))=some (.bool false):=lssF (by omega)
  exact gG 60 _ hT (.no (dF ((↑i:Int)<(↑n:Int)))<|.fin ((.ret (.int .i64 (-1:Int)),{boxes:=B,toks:=[],loops:=[]:Heap})) rfl)
 |cons x post ih=>
  intro i hd T hT
  have hlt:=drop_lt hd
  have hnx:=drop_next hd
  have hx:=drop_at hd
  have c1:binA .lss (.int .i64 (i:Nat)) (.int .i64 (n:Nat))=some (.bool true):=lssT (by omega)
  have ld:=loadP (Z:=[]) (by rw[List.append_nil];exact hk) hx
  have i1:idxA 11 (.msl kk 0 n 11) (.int .i64 (i:Nat))=some (.ptr kk (0+i*11)):=idx_msl (by omega)
  have pr:=(pred_any hj hB x).1
  have inc:=inc_i (i:=i) (by omega)
  have ih':=ih (i+1) hnx
  have e:idxG nm i (x::post)=if x.name=nm then(i:Int)else idxG nm (((i+1:Nat):Int)) post:=rfl
  rw[e]
  by_cases h:x.name=nm
  ·rw[show(x.name==nm)=true by simpa using h]at pr
   rw[if_pos h]
   exact let ζ1:Heap:={boxes:=B,toks:=[],loops:=[]:Heap};gG 60 _ hT (.yes (dT ((↑i:Int)<(↑n:Int)))<|.idx i1<|.effY ld<|.effY pr<|.tt<|.fin ((.ret (.int .i64 ↑i),ζ1)) rfl)
  ·rw[show(x.name==nm)=false by simpa using h]at pr
   rw[if_neg h]
   exact let ζ1:Heap:={boxes:=B,toks:=[],loops:=[]:Heap};gG 60 _ hT (.yes (dT ((↑i:Int)<(↑n:Int)))<|.idx i1<|.effY ld<|.effY pr<|.ff<|.bin inc<|.cutQ k162_0 [(0,.msl kk 0 n 11),(1,.func 91 [.ptr jj 0]),(7,.int .i64 ↑n),(8,.int .i64 (↑(i+1)))] (ζ1) (fun T hT=>(ih' T hT)))
theorem index_any{B:List (List AV)}{jj kk n:Nat}{nm:List UInt8}{C:List Pod}(hj:B[jj]?=some [.str nm])(hk:B[kk]?=some (pcs C))(hB:Tame B)(hC:C.length=n)(hn:n<9223372036854775807):
 Does cfg (.callM (.c (.func 162 [])) [.c (.msl kk 0 n 11),.c (.func 91 [.ptr jj 0])]) ⟨B,[],[]⟩ (.int .i64 (idxG nm 0 C)) ⟨B,[],[]⟩:=by
 have key:Goes cfg a162 [.c c162] (initEnv [.msl kk 0 n 11,.func 91 [.ptr jj 0]]) ⟨B,[],[]⟩ (fun r=>r=(.ret (.int .i64 (idxG nm 0 C)),⟨B,[],[]⟩)):=by
  have h1:=index_loop hj hk hB hC hn C 0 rfl
  exact gG 60 [] trivial (.len (rfl:lenA false (.msl kk 0 n 11)=some (.int .i64 ↑n))<|.cutQ k162_0 [(0,.msl kk 0 n 11),(1,.func 91 [.ptr jj 0]),(7,.int .i64 ↑n),(8,.int .i64 0)] ({boxes:=B,toks:=[],loops:=[]:Heap}) (fun T hT=>(h1 T hT)))
 obtain⟨r,h,rfl⟩:=key
 have h':lim cfg (.fn 162) [.msl kk 0 n 11,.func 91 [.ptr jj 0]] ⟨B,[],[]⟩=some (.ret (.int .i64 (idxG nm 0 C)),⟨B,[],[]⟩):=by rw[l162];exact h
 have hd:=does_callM (xs:=[.msl kk 0 n 11,.func 91 [.ptr jj 0]]) h' rfl rfl
 have e:=trunc_tame (ex:=[]) (v:=.int .i64 (idxG nm 0 C)) hB rfl
 rw[List.append_nil]at e
 rw[show(⟨B,[],[]⟩:Heap).boxes.length=B.length from rfl,show(⟨B,[],[]⟩:Heap).toks.length=0 from rfl,show shutA (.int .i64 (idxG nm 0 C))=.int .i64 (idxG nm 0 C)from rfl,e]at hd
 exact hd
end Go.Aa.T
set_option linter.unusedVariables false
set_option linter.unusedSimpArgs false
set_option maxRecDepth 100000
namespace Go.Aa.T
open Go.Aa Go.Proofs
abbrev zpc:List AV:=[.str [],.str [],.int .i64 0,.sl .full [],.sl .full [],.sl .full [],.sl .full [],.str [],.int .i64 0,.str [],.bool false]
def offP(nm:List UInt8)(l:List Pod):List Pod:=l.filter fun p=> !(p.name==nm)
theorem store_last{B:List (List AV)}{z:List AV}(p:Pod)(hz:z.length=11):Does cfg (.store 11 (.c (.ptr B.length 0)) (.c (encPd p))) ⟨B++[z],[],[]⟩ .undef ⟨B++[(encPd p).cells],[],[]⟩:=fun T=>by
 have:storeA 11 ⟨B++[z],[],[]⟩ (.ptr B.length 0) (encPd p)=some ⟨B++[(encPd p).cells],[],[]⟩:=by
  simp only[storeA,List.getElem?_concat_length]
  rw[if_pos ⟨by omega,rfl,rfl,by omega⟩,paste_spec _ _ _ (by rw[show(encPd p).cells.length=11 from rfl];omega),List.take_zero,List.nil_append,show(encPd p).cells.length=11 from rfl,List.drop_eq_nil_of_le (by omega),List.append_nil,List.set_append_right _ _ (Nat.le_refl _),Nat.sub_self]
  rfl
 simp only[opStep,ev,this]
theorem load_last{B:List (List AV)}(p:Pod):Does cfg (.load true 11 (.c (.ptr B.length 0))) ⟨B++[(encPd p).cells],[],[]⟩ (encPd p) ⟨B++[(encPd p).cells],[],[]⟩:=fun T=>by
 have:loadA true 11 ⟨B++[(encPd p).cells],[],[]⟩ (.ptr B.length 0)=some (encPd p):=by
  simp only[loadA,List.getElem?_concat_length];rfl
 simp only[opStep,ev,this]
section
variable(B0:List (List AV))(kk jj n:Nat)(nm:List UInt8)
theorem pcs_app(a b:List Pod):pcs (a++b)=pcs a++pcs b:=by simp[pcs,rowCells]
structure DH(C:List Pod)(B:List (List AV)):Prop where
 row:B[kk]?=some (pcs C)
 nme:B[jj]?=some [.str nm]
 tame:Tame B
 from0:∃ex,B=B0.set kk (pcs C)++ex
variable{B0 kk jj n nm}
theorem DH.snoc{C:List Pod}{B:List (List AV)}(h:DH B0 kk jj nm C B){c:List AV}(hc:c.all data0=true):DH B0 kk jj nm C (B++[c]):=by
 obtain⟨ex,e⟩:=h.from0
 have h1:=(List.getElem?_eq_some_iff.1 h.row).1
 have h2:=(List.getElem?_eq_some_iff.1 h.nme).1
 exact⟨by rw[List.getElem?_append_left h1];exact h.row,by rw[List.getElem?_append_left h2];exact h.nme,tame_app h.tame (by simp[hc]),ex++[c],by rw[e,List.append_assoc]⟩
theorem DH.put{C:List Pod}{B:List (List AV)}(h:DH B0 kk jj nm C B)(hkj:kk≠jj)(hk:kk<B0.length)(C':List Pod):DH B0 kk jj nm C' (B.set kk (pcs C')):=by
 obtain⟨ex,e⟩:=h.from0
 have h1:=(List.getElem?_eq_some_iff.1 h.row).1
 refine⟨List.getElem?_set_self h1,by rw[List.getElem?_set_ne hkj];exact h.nme,tame_set h.tame (pcs_data C'),ex,?_⟩
 rw[e,List.set_append_left _ _ (by simpa using hk),List.set_set]
def RetD(B0:List (List AV))(kk n:Nat)(l:List Pod)(r:ARes×Heap):Prop:=∃Z ex,r=(.ret (.msl kk 0 l.length 11),⟨B0.set kk (pcs l++Z)++ex,[],[]⟩)∧Z.all data0=true∧(pcs l++Z).length=n*11
theorem delete_loop(hn:n<9223372036854775807)(hkj:kk≠jj)(hk0:kk<B0.length):∀(post:List Pod)(i:Nat)(U C:List Pod)(B:List (List AV))(hB:DH B0 kk jj nm C B)(hC:C.length=n)(hd:C.drop i=post)(hi:i≤n)(hU:C.take U.length=U)(hl:U.length<i)(T:Env)
 (hT:Has T [(0,.msl kk 0 n 11),(1,.func 91 [.ptr jj 0]),(5,.int .i64 U.length),(6,.int .i64 i)]),
 Goes cfg a89 k89_0 T ⟨B,[],[]⟩ (RetD B0 kk n (U++offP nm post)):=by
 intro post
 induction post with
 |nil=>
  intro i U C B hB hC hd hi hU hl T hT
  have hge:=drop_ge hd
  have hUn:U.length<n:=by omega
  have c1:binA .lss (.int .i64 (i:Nat)) (.int .i64 (n:Nat))=some (.bool false):=lssF (by omega)
  have s1:sliceA 11 (.msl kk 0 n 11) (some (.int .i64 (U.length:Nat))) none none=some (.msl kk (U.length*11) (n-U.length) 11):=by
   simp only[sliceA,sliceM,boundA]
   rw[if_neg (by omega)]
   rw[if_pos ⟨by omega,by omega⟩]
   simp only[Int.toNat_natCast]
   rw[if_pos (by omega)]
   simp
  have s2:sliceA 11 (.msl kk 0 n 11) none (some (.int .i64 (U.length:Nat))) none=some (.msl kk 0 U.length 11):=by
   simp only[sliceA,sliceM,boundA]
   rw[if_neg (by omega)]
   rw[if_pos ⟨by omega,by omega⟩]
   simp only[Int.toNat_natCast]
   rw[if_pos (by omega)]
   simp
  have hz:((List.replicate (n-U.length) zpc).flatten).length=(n-U.length)*11:=by simp
  have hzd:((List.replicate (n-U.length) zpc).flatten).all data0=true:=by
   refine List.all_eq_true.2 fun x hx=> ?_
   obtain⟨l,hl1,hl2⟩:=List.mem_flatten.1 hx
   rw[(List.mem_replicate.1 hl1).2]at hl2
   exact List.all_eq_true.1 (show zpc.all data0=true from rfl) x hl2
  have hpl:=pcs_len C
  have hpu:=pcs_len U
  have hpt:(pcs C).take (U.length*11)=pcs U:=by
   have e:C=U++C.drop U.length:=by
    have:=(List.take_append_drop U.length C).symm
    rwa [hU]at this
   rw[e,pcs_app,List.take_left' hpu]
  have cl:Does cfg (.clearM zpc (.c (.msl kk (U.length*11) (n-U.length) 11))) ⟨B,[],[]⟩ (.tuple []) ⟨B.set kk (pcs U++(List.replicate (n-U.length) zpc).flatten),[],[]⟩:=fun T=>by
   have:clearA zpc ⟨B,[],[]⟩ (.msl kk (U.length*11) (n-U.length) 11)=some ⟨B.set kk (pcs U++(List.replicate (n-U.length) zpc).flatten),[],[]⟩:=by
    simp only[clearA,hB.row]
    rw[if_pos ⟨by omega,rfl,by omega,by omega,rfl⟩,paste_spec _ _ _ (by omega),hpt,List.drop_eq_nil_of_le (by omega),List.append_nil]
   simp only[opStep,ev,this]
  obtain⟨ex,he⟩:=hB.from0
  have hfin:B.set kk (pcs U++(List.replicate (n-U.length) zpc).flatten)=B0.set kk (pcs U++(List.replicate (n-U.length) zpc).flatten)++ex:=by
   rw[he,List.set_append_left _ _ (by simpa using hk0),List.set_set]
  rw[show offP nm []=[]from rfl,List.append_nil]
  generalize(List.replicate (n-U.length) zpc).flatten=Z at cl hz hzd hfin
  rw[hfin]at cl
  have out:RetD B0 kk n U (.ret (.msl kk 0 U.length 11),⟨B0.set kk (pcs U++Z)++ex,[],[]⟩):=⟨Z,ex,rfl,hzd,by rw[List.length_append,hpu,hz];omega⟩
  exact let ζ1:Heap:={boxes:=B0.set kk (pcs U++Z)++ex,toks:=[],loops:=[]:Heap};gG 60 _ hT (.len (rfl:lenA false (.msl kk 0 n 11)=some (.int .i64 ↑n))<|.no (dF ((↑i:Int)<(↑n:Int)))<|.slice s1<|.effY cl<|.slice s2<|.fin ((.ret (.msl kk 0 U.length 11),ζ1)) (by exact out))
 |cons x post ih=>
  intro i U C B hB hC hd hi hU hl T hT
  have hlt:=drop_lt hd
  have hnx:=drop_next hd
  have hx:=drop_at hd
  have c1:binA .lss (.int .i64 (i:Nat)) (.int .i64 (n:Nat))=some (.bool true):=lssT (by omega)
  have ld:=loadP (Z:=[]) (by rw[List.append_nil];exact hB.row) hx
  have i1:idxA 11 (.msl kk 0 n 11) (.int .i64 (i:Nat))=some (.ptr kk (0+i*11)):=idx_msl (by omega)
  have s1:=store_last (B:=B) (z:=zpc) x rfl
  have g1:=load_last (B:=B) x
  have hB1:=hB.snoc (pc_data x)
  have pr:=(pred_any hB1.nme hB1.tame x).2
  have inc:=inc_i (i:=i) (by omega)
  by_cases h:x.name=nm
  ·have e:offP nm (x::post)=offP nm post:=by simp[offP,h]
   rw[e]
   rw[show(x.name==nm)=true by simpa using h]at pr
   have ih':=ih (i+1) U C (B++[(encPd x).cells]) hB1 hC hnx (by omega) hU (by omega)
   exact let ζ1:Heap:={boxes:=B++[(encPd x).cells],toks:=[],loops:=[]:Heap};let ζ2:Heap:={boxes:=B,toks:=[],loops:=[]:Heap};gG 90 _ hT (.len (rfl:lenA false (.msl kk 0 n 11)=some (.int .i64 ↑n))<|.yes (dT ((↑i:Int)<(↑n:Int)))<|.idx i1<|.effY ld<|.effY s1<|.effY g1<|.effY pr<|.ff<|.bin inc<|.cutQ k89_0 [(0,.msl kk 0 n 11),(1,.func 91 [.ptr jj 0]),(5,.int .i64 (↑U.length)),(6,.int .i64 (↑(i+1)))] ({boxes:=B++[[AV.str x.name,.str x.owner,.int .i64 x.prio,.sl .sh (x.need.map encA),.sl .sh (x.labels.map encP),.sl .sh (x.sel.map encM),.sl .sh (x.tols.map encL),.str x.key,.int .i64 x.most,.str x.node,.bool x.hold]],toks:=[],loops:=[]:Heap}) (fun T hT=>(ih' T hT)))
  ·have e:offP nm (x::post)=x::offP nm post:=by simp[offP,h]
   rw[e]
   rw[show(x.name==nm)=false by simpa using h]at pr
   have i2:idxA 11 (.msl kk 0 n 11) (.int .i64 (U.length:Nat))=some (.ptr kk (0+U.length*11)):=idx_msl (by omega)
   have st:=storeP x hB1.row (j:=U.length) (by omega)
   have inc2:=inc_i (i:=U.length) (by omega)
   have ih':=ih (i+1) (U++[x]) (C.set U.length x) _ (hB1.put hkj hk0 (C.set U.length x)) (by simpa using hC) (by rw[List.drop_set_of_lt (by omega)];exact hnx) (by omega) (by
    rw[List.length_append,List.length_singleton,List.take_add_one,List.getElem?_set_self (by omega),List.take_set_of_le (Nat.le_refl _),hU]
    rfl) (by simp;omega)
   rw[List.append_assoc]at ih'
   have el:((U++[x]).length:Int)=((U.length+1:Nat):Int):=by simp
   rw[el]at ih'
   exact let ζ1:Heap:={boxes:=B++[(encPd x).cells],toks:=[],loops:=[]:Heap};let ζ2:Heap:={boxes:=(B++[(encPd x).cells]).set kk (pcs (C.set U.length x)),toks:=[],loops:=[]:Heap};let ζ3:Heap:={boxes:=B,toks:=[],loops:=[]:Heap};gG 90 _ hT (.len (rfl:lenA false (.msl kk 0 n 11)=some (.int .i64 ↑n))<|.yes (dT ((↑i:Int)<(↑n:Int)))<|.idx i1<|.effY ld<|.effY s1<|.effY g1<|.effY pr<|.tt<|.effY g1<|.idx i2<|.effY st<|.bin inc2<|.bin inc<|.cutQ k89_0 [(0,.msl kk 0 n 11),(1,.func 91 [.ptr jj 0]),(5,.int .i64 (↑(U.length+1):Int)),(6,.int .i64 (↑(i+1)))] (ζ2) (fun T hT=>(ih' T hT)))
end
end Go.Aa.T
set_option linter.unusedVariables false
set_option linter.unusedSimpArgs false
set_option maxRecDepth 100000
namespace Go.Aa.T
open Go.Aa Go.Proofs
theorem idx_spec(nm:List UInt8):∀(l:List Pod)(i:Nat),(idxG nm i l= -1∧offP nm l=l)∨∃q,idxG nm i l=((i+q:Nat):Int)∧q<l.length∧offP nm l=l.take q++offP nm (l.drop (q+1))
 |[],i=>.inl ⟨rfl,rfl⟩
 |x::l,i=>by
  have e:idxG nm i (x::l)=if x.name=nm then(i:Int)else idxG nm ((i+1:Nat):Int) l:=rfl
  rw[e]
  by_cases h:x.name=nm
  ·rw[if_pos h]
   exact .inr ⟨0,by simp,by simp,by simp[offP,h]⟩
  ·rw[if_neg h]
   have e2:offP nm (x::l)=x::offP nm l:=by simp[offP,h]
   rw[e2]
   rcases idx_spec nm l (i+1)with⟨h1,h2⟩|⟨q,h1,h2,h3⟩
   ·exact .inl ⟨h1,by rw[h2]⟩
   ·exact .inr ⟨q+1,by rw[h1];congr 1;omega,by simp;omega,by rw[h3];rfl⟩
theorem trunc_all{B:List (List AV)}{ex:List (List AV)}{nb:Nat}{v:AV}(hl:B.length=nb)(hB:Tame B)(hv:within nb 0 v=true):trunc nb 0 v ⟨B++ex,[],[]⟩=⟨B,[],[]⟩:=by
 subst hl;exact trunc_tame hB hv
theorem delete_any{B:List (List AV)}{kk jj n:Nat}{nm:List UInt8}{C:List Pod}(hn:n<9223372036854775807)(hkj:kk≠jj)(hk:B[kk]?=some (pcs C))(hj:B[jj]?=some [.str nm])(hB:Tame B)(hC:C.length=n):
 ∃Z,Z.all data0=true∧(pcs (offP nm C)++Z).length=n*11∧Does cfg (.callM (.c (.func 89 [])) [.c (.msl kk 0 n 11),.c (.func 91 [.ptr jj 0])]) ⟨B,[],[]⟩ (.msl kk 0 (offP nm C).length 11) ⟨B.set kk (pcs (offP nm C)++Z),[],[]⟩:=by
 have hk0:=(List.getElem?_eq_some_iff.1 hk).1
 have hi:=index_any hj hk hB hC hn
 have hself:B.set kk (pcs C)=B:=by
  obtain⟨h1,h2⟩:=List.getElem?_eq_some_iff.1 hk
  rw[←h2];exact List.set_getElem_self h1
 have hDH:DH B kk jj nm C B:=⟨hk,hj,hB,[],by rw[hself,List.append_nil]⟩
 have key:Goes cfg a89 [.c c89] (initEnv [.msl kk 0 n 11,.func 91 [.ptr jj 0]]) ⟨B,[],[]⟩ (RetD B kk n (offP nm C)):=by
  have hsp:(idxG nm 0 C= -1∧offP nm C=C)∨∃q,idxG nm 0 C=((0+q:Nat):Int)∧q<C.length∧offP nm C=C.take q++offP nm (C.drop (q+1)):=idx_spec nm C 0
  rcases hsp with⟨h1,h2⟩|⟨q,h1,h2,h3⟩
  ·rw[h1]at hi
   rw[h2]
   have out:RetD B kk n C (.ret (.msl kk 0 n 11),⟨B,[],[]⟩):=⟨[],[],by rw[hC,List.append_nil,List.append_nil,hself],rfl,by rw[List.append_nil,pcs_len,hC]⟩
   exact let ζ1:Heap:={boxes:=B,toks:=[],loops:=[]:Heap};gG 60 [] trivial (.effCM [.msl kk 0 n 11,.func 91 [.ptr jj 0]] hi rfl<|.tt<|.fin ((.ret (.msl kk 0 n 11),ζ1)) (by exact out))
  ·rw[Nat.zero_add]at h1
   rw[h1]at hi
   rw[h3]
   have hl:(C.take q).length=q:=by rw[List.length_take];omega
   have h2':=delete_loop hn hkj hk0 (C.drop (q+1)) (q+1) (C.take q) C B hDH hC rfl (by omega) (by rw[hl]) (by omega)
   rw[hl]at h2'
   have inc:=inc_i (i:=q) (by omega)
   have ne1:binA .eql (.int .i64 (q:Nat)) (.int .i64 (-1))=some (.bool false):=eqlF (by omega)
   exact let ζ1:Heap:={boxes:=B,toks:=[],loops:=[]:Heap};gG 60 [] trivial (.effCM [.msl kk 0 n 11,.func 91 [.ptr jj 0]] hi rfl<|.ff<|.bin inc<|.cutQ k89_0 [(0,.msl kk 0 n 11),(1,.func 91 [.ptr jj 0]),(5,.int .i64 ↑q),(6,.int .i64 (↑(q+1):Int))] (ζ1) (fun T hT=>(h2' T hT)))
 obtain⟨r,h,Z,ex,rfl,hZ,hlen⟩:=key
 refine⟨Z,hZ,hlen,?_⟩
 have h':lim cfg (.fn 89) [.msl kk 0 n 11,.func 91 [.ptr jj 0]] ⟨B,[],[]⟩=some (.ret (.msl kk 0 (offP nm C).length 11),⟨B.set kk (pcs (offP nm C)++Z)++ex,[],[]⟩):=by rw[l89];exact h
 have hd:=does_callM (xs:=[.msl kk 0 n 11,.func 91 [.ptr jj 0]]) h' rfl rfl
 have hw:within B.length 0 (.msl kk 0 (offP nm C).length 11)=true:=by simp[within,in2,in1,in0,hk0]
 have e:=trunc_all (ex:=ex) (nb:=B.length) (by simp) (tame_set (k:=kk) hB (by rw[List.all_append,pcs_data,hZ];rfl:(pcs (offP nm C)++Z).all data0=true)) hw
 rw[show(⟨B,[],[]⟩:Heap).boxes.length=B.length from rfl,show(⟨B,[],[]⟩:Heap).toks.length=0 from rfl,show shutA (.msl kk 0 (offP nm C).length 11)=.msl kk 0 (offP nm C).length 11 from rfl,e]at hd
 exact hd
theorem delete_nil{B:List (List AV)}{jj:Nat}(hB:Tame B):Does cfg (.callM (.c (.func 89 [])) [.c (.sl .nil []),.c (.func 91 [.ptr jj 0])]) ⟨B,[],[]⟩ (.sl .nil []) ⟨B,[],[]⟩:=by
 have lp:∀(T:Env)(hT:Has T [(7,.int .i64 ((([]:List AV).length:Nat):Int)),(8,.int .i64 0)]),Goes cfg a162 k162_0 T ⟨B,[],[]⟩ (fun r=>r=(.ret (.int .i64 (-1)),⟨B,[],[]⟩)):=by
  intro T hT
  exact gG 60 _ hT (.ff<|.fin ((.ret (.int .i64 (-1:Int)),{boxes:=B,toks:=[],loops:=[]:Heap})) rfl)
 have k1:Goes cfg a162 [.c c162] (initEnv [.sl .nil [],.func 91 [.ptr jj 0]]) ⟨B,[],[]⟩ (fun r=>r=(.ret (.int .i64 (-1)),⟨B,[],[]⟩)):=by
  exact gG 60 [] trivial (.len (show lenA false (.sl .nil [])=some (.int .i64 (↑[].length:Int))from len_sl _ _)<|.cutQ k162_0 [(7,.int .i64 (↑[].length:Int)),(8,.int .i64 0)] ({boxes:=B,toks:=[],loops:=[]:Heap}) (fun T hT=>(lp T hT)))
 obtain⟨r,h,rfl⟩:=k1
 have h':lim cfg (.fn 162) [.sl .nil [],.func 91 [.ptr jj 0]] ⟨B,[],[]⟩=some (.ret (.int .i64 (-1)),⟨B,[],[]⟩):=by rw[l162];exact h
 have hd:=does_callM (xs:=[.sl .nil [],.func 91 [.ptr jj 0]]) h' rfl rfl
 have e:=trunc_tame (ex:=[]) (v:=.int .i64 (-1)) hB rfl
 rw[List.append_nil]at e
 rw[show(⟨B,[],[]⟩:Heap).boxes.length=B.length from rfl,show(⟨B,[],[]⟩:Heap).toks.length=0 from rfl,show shutA (.int .i64 (-1))=.int .i64 (-1)from rfl,e]at hd
 have hd':Does cfg (.callM (.c (.func 162 [])) [.c (.sl .nil []),.c (.func 91 [.ptr jj 0])]) ⟨B,[],[]⟩ (.int .i64 (-1)) ⟨B,[],[]⟩:=hd
 have k2:Goes cfg a89 [.c c89] (initEnv [.sl .nil [],.func 91 [.ptr jj 0]]) ⟨B,[],[]⟩ (fun r=>r=(.ret (.sl .nil []),⟨B,[],[]⟩)):=by
  exact let ζ1:Heap:={boxes:=B,toks:=[],loops:=[]:Heap};gG 60 [] trivial (.effY hd'<|.tt<|.fin ((.ret (.sl .nil []),ζ1)) rfl)
 obtain⟨r,h2,rfl⟩:=k2
 have h2':lim cfg (.fn 89) [.sl .nil [],.func 91 [.ptr jj 0]] ⟨B,[],[]⟩=some (.ret (.sl .nil []),⟨B,[],[]⟩):=by rw[l89];exact h2
 have hd2:=does_callM (xs:=[.sl .nil [],.func 91 [.ptr jj 0]]) h2' rfl rfl
 have e2:=trunc_tame (ex:=[]) (v:=.sl .nil []) hB rfl
 rw[List.append_nil]at e2
 rw[show(⟨B,[],[]⟩:Heap).boxes.length=B.length from rfl,show(⟨B,[],[]⟩:Heap).toks.length=0 from rfl,show shutA (.sl .nil [])=.sl .nil []from rfl,e2]at hd2
 exact hd2
end Go.Aa.T
set_option linter.unusedVariables false
set_option linter.unusedSimpArgs false
set_option maxRecDepth 100000
namespace Go.Aa.T
open Go.Aa Go.Proofs
theorem does_callN{xs:List AV}{g:FuncId}{v0 v:AV}{H H0 H2:Heap}(h0:lim cfg (.fn g) xs Heap.nil=some (.ret v0,H0))(hn:isData (shutA v0)=false)(h:lim cfg (.fn g) xs H=some (.ret v,H2))(hx:xs.map shutA=xs)(hd:xs.all isData=true):
 Does cfg (.callM (.c (.func g [])) (xs.map .c)) H (shutA v) (trunc H.boxes.length H.toks.length (shutA v) H2):=fun T=>by
 have e:(xs.map Opd.c).map (fun x=>shutA (ev T x))=xs:=by rw[List.map_map];exact hx
 simp only[opStep,e]
 rw[show ev T (.c (.func g []))=.func g []from rfl]
 simp only[callW,hd,List.all_nil,Bool.and_self,if_true,List.append_nil,h0,hn,Bool.false_eq_true,if_false,callE,h]
theorem trunc_new{B ex:List (List AV)}{nb k off n es:Nat}(hl:nb≤k):trunc nb 0 (.msl k off n es) ⟨B,[],[]⟩=⟨B,[],[]⟩:=by
 unfold trunc
 have hw:within nb 0 (.msl k off n es)=false:=by simp[within,in2,in1,in0];omega
 simp only[hw,List.length_nil,List.all_nil,Bool.true_and,Bool.and_false,Bool.false_and,Bool.false_eq_true,if_false,List.take_zero,ite_self]
theorem clone_lim{l:List Pod}(hl:l≠[])(hs:l.length≤100000)(B:List (List AV)):lim cfg (.fn 90) [.sl .sh (l.map encPd)] ⟨B,[],[]⟩=some (.ret (.msl B.length 0 l.length 11),⟨B++[pcs l],[],[]⟩):=by
 rw[lim_ext (g:=cloneE 11 184) rfl rfl]
 obtain⟨x,m,rfl⟩:=List.exists_cons_of_ne_nil hl
 have hd:dataOk ((x::m).map encPd)=true:=dataOk_map fun _=>rfl
 simp only[cloneE,List.map_cons,appendMA]
 rw[if_pos ⟨by trivial,by trivial,by simp only[List.length_cons,List.length_map]at hs⊢;omega,lenPd (l:=x::m),hd⟩]
 simp[pcs]
theorem clone_any{l:List Pod}(hl:l≠[])(hs:l.length≤100000)(B:List (List AV)):Does cfg (.callM (.c (.func 90 [])) [.c (.sl .sh (l.map encPd))]) ⟨B,[],[]⟩ (.msl B.length 0 l.length 11) ⟨B++[pcs l],[],[]⟩:=by
 have h:=does_callN (xs:=[.sl .sh (l.map encPd)]) (clone_lim hl hs []) rfl (clone_lim hl hs B) rfl rfl
 rw[show shutA (.msl B.length 0 l.length 11)=.msl B.length 0 l.length 11 from rfl,show(⟨B,[],[]⟩:Heap).boxes.length=B.length from rfl,show(⟨B,[],[]⟩:Heap).toks.length=0 from rfl,trunc_new (ex:=[]) (Nat.le_refl _)]at h
 exact h
theorem clone_none(B:List (List AV))(hB:Tame B):Does cfg (.callM (.c (.func 90 [])) [.c (.sl .sh [])]) ⟨B,[],[]⟩ (.sl .nil []) ⟨B,[],[]⟩:=by
 have h:∀H,lim cfg (.fn 90) [.sl .sh []] H=some (.ret (.sl .nil []),H):=fun H=>by
  rw[lim_ext (g:=cloneE 11 184) rfl rfl];rfl
 have h:=does_callN (xs:=[.sl .sh []]) (h Heap.nil) rfl (h ⟨B,[],[]⟩) rfl rfl
 have e:=trunc_tame (ex:=[]) (v:=.sl .nil []) hB rfl
 rw[List.append_nil]at e
 rw[show shutA (.sl .nil [])=.sl .nil []from rfl,show(⟨B,[],[]⟩:Heap).boxes.length=B.length from rfl,show(⟨B,[],[]⟩:Heap).toks.length=0 from rfl,e]at h
 exact h
inductive PR(kk:Nat)(n:Nat)(l:List Pod):AV→List (List AV)→Prop
 |some(Z:List AV)(hZ:Z.all data0=true)(hn:0<n)(hl:(pcs l++Z).length=n*11):PR kk n l (.msl kk 0 l.length 11) [pcs l++Z]
 |none(h0:n=0)(hl:l=[]):PR kk n l (.sl .nil []) []
abbrev stC(s:St)(v:AV):List AV:=[.sl .sh (s.nodes.map encN),v,.sl .sh (s.buds.map encB)]
def stA(s:St)(v:AV):AV:=.agg (stC s v)
def RetDr(B:List (List AV))(s:St)(nm:List UInt8)(r:ARes×Heap):Prop:=∃v ex,PR (B.length+3) s.pods.length (offP nm s.pods) v ex∧r=(.ret (stA s v),⟨B++([stC s v,[.str nm],stC s v]++ex),[],[]⟩)
theorem drop0(s:St)(nm:List UInt8)(hs:s.pods.length≤100000):Goes cfg a27 [.c c27] (initEnv [encSt s,.str nm]) ⟨[],[],[]⟩ (RetDr [] s nm):=by
 obtain⟨nodes,pods,buds⟩:=s
 have hT:Tame [(encSt ⟨nodes,pods,buds⟩).cells,[.str nm],[.sl .full [],.sl .full [],.sl .full []]]:=tame_data rfl
 by_cases hp:pods=[]
 ·subst hp
  have h1:=clone_none [(encSt ⟨nodes,[],buds⟩).cells,[.str nm],[.sl .full [],.sl .full [],.sl .full []]] hT
  have h2:=delete_nil (jj:=1) hT
  have out:RetDr [] ⟨nodes,[],buds⟩ nm (.ret (stA ⟨nodes,[],buds⟩ (.sl .nil [])),⟨[stC ⟨nodes,[],buds⟩ (.sl .nil []),[.str nm],stC ⟨nodes,[],buds⟩ (.sl .nil [])],[],[]⟩):=⟨_,[],.none rfl rfl,rfl⟩
  exact let ζ1:Heap:={boxes:=[(encSt {nodes:=nodes,pods:=[],buds:=buds:St}).cells,[.str nm],[.sl .full [],.sl .full [],.sl .full []]],toks:=[],loops:=[]:Heap};let ζ2:List AV:=[.sl .sh (List.map encN {nodes:=nodes,pods:=[],buds:=buds:St}.nodes),.sl .nil [],.sl .sh (List.map encB {nodes:=nodes,pods:=[],buds:=buds:St}.buds)];gG 60 [] trivial (.effY h1<|.effY h2<|.fin ((.ret (.agg ζ2),{boxes:=[ζ2,[.str nm],ζ2],toks:=[],loops:=[]:Heap})) (by exact out))
 ·have h1:=clone_any hp hs [(encSt ⟨nodes,pods,buds⟩).cells,[.str nm],[.sl .full [],.sl .full [],.sl .full []]]
  obtain⟨Z,hZ,hl,h2⟩:=delete_any (B:=[(encSt ⟨nodes,pods,buds⟩).cells,[.str nm],[.sl .full [],.sl .full [],.sl .full []],pcs pods]) (kk:=3) (jj:=1) (n:=pods.length) (nm:=nm) (C:=pods) (by simp only at hs;omega) (by decide) rfl rfl (tame_app (ex:=[pcs pods]) hT (by simp[pcs_data])) rfl
  have hpos:0<pods.length:=List.length_pos_iff.2 hp
  have out:RetDr [] ⟨nodes,pods,buds⟩ nm (.ret (stA ⟨nodes,pods,buds⟩ (.msl 3 0 (offP nm pods).length 11)),⟨[stC ⟨nodes,pods,buds⟩ (.msl 3 0 (offP nm pods).length 11),[.str nm],stC ⟨nodes,pods,buds⟩ (.msl 3 0 (offP nm pods).length 11),pcs (offP nm pods)++Z],[],[]⟩):=⟨_,_,.some Z hZ hpos hl,rfl⟩
  have h1':Does cfg (.callM (.c (.func 90 [])) [.c (.sl .sh (pods.map encPd))]) ⟨[(encSt ⟨nodes,pods,buds⟩).cells,[.str nm],[.sl .full [],.sl .full [],.sl .full []]],[],[]⟩ (.msl 3 0 pods.length 11) ⟨[(encSt ⟨nodes,pods,buds⟩).cells,[.str nm],[.sl .full [],.sl .full [],.sl .full []],pcs pods],[],[]⟩:=h1
  have h2':Does cfg (.callM (.c (.func 89 [])) [.c (.msl 3 0 pods.length 11),.c (.func 91 [.ptr 1 0])]) ⟨[(encSt ⟨nodes,pods,buds⟩).cells,[.str nm],[.sl .full [],.sl .full [],.sl .full []],pcs pods],[],[]⟩ (.msl 3 0 (offP nm pods).length 11) ⟨[(encSt ⟨nodes,pods,buds⟩).cells,[.str nm],[.sl .full [],.sl .full [],.sl .full []],pcs (offP nm pods)++Z],[],[]⟩:=h2
  generalize pcs (offP nm pods)++Z=R at h2' out
  generalize pcs pods=Q at h1' h2'
  exact let ζ1:List AV:=[.sl .sh (List.map encN {nodes:=nodes,pods:=pods,buds:=buds:St}.nodes),.msl 3 0 (offP nm pods).length 11,.sl .sh (List.map encB {nodes:=nodes,pods:=pods,buds:=buds:St}.buds)];let ζ3:List AV:=[.sl .full [],.sl .full [],.sl .full []];let ζ2:Heap:={boxes:=[(encSt {nodes:=nodes,pods:=pods,buds:=buds:St}).cells,[.str nm],ζ3,Q],toks:=[],loops:=[]:Heap};gG 60 [] trivial (.effY h1'<|.effY h2'<|.fin ((.ret (.agg ζ1),{boxes:=[ζ1,[.str nm],ζ1,R],toks:=[],loops:=[]:Heap})) (by exact out))
theorem drop3(b0 b1 b2:List AV)(hb:Tame [b0,b1,b2])(s:St)(nm:List UInt8)(hs:s.pods.length≤100000):Goes cfg a27 [.c c27] (initEnv [encSt s,.str nm]) ⟨[b0,b1,b2],[],[]⟩ (RetDr [b0,b1,b2] s nm):=by
 obtain⟨nodes,pods,buds⟩:=s
 have hT:Tame [b0,b1,b2,(encSt ⟨nodes,pods,buds⟩).cells,[.str nm],[.sl .full [],.sl .full [],.sl .full []]]:=tame_app (ex:=[(encSt ⟨nodes,pods,buds⟩).cells,[.str nm],[.sl .full [],.sl .full [],.sl .full []]]) hb rfl
 by_cases hp:pods=[]
 ·subst hp
  have h1:=clone_none [b0,b1,b2,(encSt ⟨nodes,[],buds⟩).cells,[.str nm],[.sl .full [],.sl .full [],.sl .full []]] hT
  have h2:=delete_nil (jj:=4) hT
  have out:RetDr [b0,b1,b2] ⟨nodes,[],buds⟩ nm (.ret (stA ⟨nodes,[],buds⟩ (.sl .nil [])),⟨[b0,b1,b2,stC ⟨nodes,[],buds⟩ (.sl .nil []),[.str nm],stC ⟨nodes,[],buds⟩ (.sl .nil [])],[],[]⟩):=⟨_,[],.none rfl rfl,rfl⟩
  exact let ζ1:Heap:={boxes:=[b0,b1,b2,(encSt {nodes:=nodes,pods:=[],buds:=buds:St}).cells,[.str nm],[.sl .full [],.sl .full [],.sl .full []]],toks:=[],loops:=[]:Heap};let ζ2:List AV:=[.sl .sh (List.map encN {nodes:=nodes,pods:=[],buds:=buds:St}.nodes),.sl .nil [],.sl .sh (List.map encB {nodes:=nodes,pods:=[],buds:=buds:St}.buds)];gG 60 [] trivial (.effY h1<|.effY h2<|.fin ((.ret (.agg ζ2),{boxes:=[b0,b1,b2,ζ2,[.str nm],ζ2],toks:=[],loops:=[]:Heap})) (by exact out))
 ·have h1:=clone_any hp hs [b0,b1,b2,(encSt ⟨nodes,pods,buds⟩).cells,[.str nm],[.sl .full [],.sl .full [],.sl .full []]]
  obtain⟨Z,hZ,hl,h2⟩:=delete_any (B:=[b0,b1,b2,(encSt ⟨nodes,pods,buds⟩).cells,[.str nm],[.sl .full [],.sl .full [],.sl .full []],pcs pods]) (kk:=6) (jj:=4) (n:=pods.length) (nm:=nm) (C:=pods) (by simp only at hs;omega) (by decide) rfl rfl (tame_app (ex:=[pcs pods]) hT (by simp[pcs_data])) rfl
  have hpos:0<pods.length:=List.length_pos_iff.2 hp
  have out:RetDr [b0,b1,b2] ⟨nodes,pods,buds⟩ nm (.ret (stA ⟨nodes,pods,buds⟩ (.msl 6 0 (offP nm pods).length 11)),⟨[b0,b1,b2,stC ⟨nodes,pods,buds⟩ (.msl 6 0 (offP nm pods).length 11),[.str nm],stC ⟨nodes,pods,buds⟩ (.msl 6 0 (offP nm pods).length 11),pcs (offP nm pods)++Z],[],[]⟩):=⟨_,_,.some Z hZ hpos hl,rfl⟩
  have h1':Does cfg (.callM (.c (.func 90 [])) [.c (.sl .sh (pods.map encPd))]) ⟨[b0,b1,b2,(encSt ⟨nodes,pods,buds⟩).cells,[.str nm],[.sl .full [],.sl .full [],.sl .full []]],[],[]⟩ (.msl 6 0 pods.length 11) ⟨[b0,b1,b2,(encSt ⟨nodes,pods,buds⟩).cells,[.str nm],[.sl .full [],.sl .full [],.sl .full []],pcs pods],[],[]⟩:=h1
  have h2':Does cfg (.callM (.c (.func 89 [])) [.c (.msl 6 0 pods.length 11),.c (.func 91 [.ptr 4 0])]) ⟨[b0,b1,b2,(encSt ⟨nodes,pods,buds⟩).cells,[.str nm],[.sl .full [],.sl .full [],.sl .full []],pcs pods],[],[]⟩ (.msl 6 0 (offP nm pods).length 11) ⟨[b0,b1,b2,(encSt ⟨nodes,pods,buds⟩).cells,[.str nm],[.sl .full [],.sl .full [],.sl .full []],pcs (offP nm pods)++Z],[],[]⟩:=h2
  generalize pcs (offP nm pods)++Z=R at h2' out
  generalize pcs pods=Q at h1' h2'
  exact let ζ1:List AV:=[.sl .sh (List.map encN {nodes:=nodes,pods:=pods,buds:=buds:St}.nodes),.msl 6 0 (offP nm pods).length 11,.sl .sh (List.map encB {nodes:=nodes,pods:=pods,buds:=buds:St}.buds)];let ζ3:List AV:=[.sl .full [],.sl .full [],.sl .full []];let ζ2:Heap:={boxes:=[b0,b1,b2,(encSt {nodes:=nodes,pods:=pods,buds:=buds:St}).cells,[.str nm],ζ3,Q],toks:=[],loops:=[]:Heap};gG 60 [] trivial (.effY h1'<|.effY h2'<|.fin ((.ret (.agg ζ1),{boxes:=[b0,b1,b2,ζ1,[.str nm],ζ1,R],toks:=[],loops:=[]:Heap})) (by exact out))
def dropS(s:St)(nm:List UInt8):St:={s with pods:=offP nm s.pods}
theorem unrow_pods(Z:List AV):∀l:List Pod,unrow 11 l.length (pcs l++Z)=l.map encPd
 |[]=>rfl
 |x::l=>by
  have e:pcs (x::l)++Z=(encPd x).cells++(pcs l++Z):=by simp[pcs,rowCells]
  have ih:=unrow_pods Z l
  rw[e]
  show encPd x::unrow 11 l.length (pcs l++Z)=_
  rw[ih];rfl
theorem frz_pods{bs:List (List AV)}{kk:Nat}{l:List Pod}{Z:List AV}(hk:bs[kk]?=some (pcs l++Z))(hZ:Z.all data0=true):frz1 ⟨bs,[],[]⟩ (.msl kk 0 l.length 11)=some (.sl .sh (l.map encPd)):=by
 have hl:=pcs_len l
 simp only[frz1,hk,List.drop_zero]
 rw[if_pos ⟨by rw[List.length_append];omega,Nat.zero_le _,by decide,by rw[List.all_append,pcs_data,hZ];rfl⟩,unrow_pods]
theorem out_stA{bs:List (List AV)}{s:St}{v:AV}{l:List Pod}(hv:isData (shutA (stA s v))=false)(hs:shut1 v=v)(hf:frz1 ⟨bs,[],[]⟩ v=some (.sl .sh (l.map encPd))):dataOut ⟨bs,[],[]⟩ (stA s v)=some (encSt {s with pods:=l}):=by
 unfold dataOut
 rw[if_neg (by rw[hv];decide)]
 have:frzA ⟨bs,[],[]⟩ (stA s v)=some (encSt {s with pods:=l}):=by
  simp only[stA,frzA,frz2,frzL,hf]
  simp[frz1,encSt]
 rw[this]
 rfl
theorem pr_out{B:List (List AV)}{s:St}{l:List Pod}{v:AV}{ex:List (List AV)}{n:Nat}{b0 b1 b2:List AV}(h:PR (B.length+3) n l v ex):dataOut ⟨B++([b0,b1,b2]++ex),[],[]⟩ (stA s v)=some (encSt {s with pods:=l}):=by
 cases h with
 |some Z hZ hn hl=>
  refine out_stA rfl rfl (frz_pods ?_ hZ)
  rw[List.getElem?_append_right (by omega),Nat.add_sub_cancel_left]
  rfl
 |none h0 hl=>subst hl;exact out_stA rfl rfl rfl
theorem drop_gives(s:St)(nm:List UInt8)(hs:s.pods.length≤100000):GivesF cfg 27 [encSt s,.str nm] (encSt (dropS s nm)):=by
 obtain⟨r,h,v,ex,hp,rfl⟩:=drop0 s nm hs
 refine⟨_,_,(l27 _ _).trans h,pr_out (B:=[]) hp⟩
end Go.Aa.T
set_option linter.unusedVariables false
set_option linter.unusedSimpArgs false
set_option maxRecDepth 100000
namespace Go.Aa.T
open Go.Aa Go.Proofs
theorem cmp_less:∀(a b:List UInt8),decide (Lib.compareBytes a b<0)=Op.bytesLess a b
 |[],[]=>rfl
 |[],_::_=>rfl
 |_::_,[]=>rfl
 |x::a,y::b=>by
  have ih:=cmp_less a b
  unfold Lib.compareBytes Op.bytesLess
  by_cases h1:x<y
  ·simp[h1]
  ·by_cases h2:y<x
   ·have hne:¬x=y:=fun e=>by subst e;exact h1 h2
    simp[h1,h2,hne]
   ·have he:x=y:=by
     have a1:¬x.toNat<y.toNat:=fun h=>h1 h
     have a2:¬y.toNat<x.toNat:=fun h=>h2 h
     exact UInt8.toNat_inj.1 (by omega)
    subst he
    simp[h1,ih]
theorem cmp_any(p:Pod)(nm:List UInt8):Gives cfg 117 [encPd p,.str nm] (.int .i64 (Lib.compareBytes p.name nm)):=by
 refine Gives.run (l117 _ _) ?_
 have h:Gives cfg 118 [.str p.name,.str nm] (.int .i64 (Lib.compareBytes p.name nm)):=Gives.of (H':=Heap.nil) (by rw[lim_ext (g:=cmpE) rfl rfl];rfl)
 exact gG 60 [] trivial (.callI h<|.fin ((.ret (.int .i64 (Lib.compareBytes p.name nm)),{boxes:=[[.str p.name,.str p.owner,.int .i64 p.prio,.sl .sh (p.need.map encA),.sl .sh (p.labels.map encP),.sl .sh (p.sel.map encM),.sl .sh (p.tols.map encL),.str p.key,.int .i64 p.most,.str p.node,.bool p.hold]],toks:=[],loops:=[]:Heap})) rfl)
theorem conv_u{m:Nat}(h:m<9223372036854775808):convA (.int .u64) (.int .i64 (m:Nat))=some (.int .u64 (m:Nat)):=by
 have e:IntKind.u64.wrap (m:Int)=(m:Int):=by
  simp only[IntKind.wrap,IntKind.bits,IntKind.signed,Bool.false_and,Bool.false_eq_true,if_false]
  omega
 simp[convA,e]
theorem shr_1(m:Nat):binA .shr (.int .u64 (m:Nat)) (.int .u64 1)=some (.int .u64 ((m/2:Nat))):=by
 have e:(m:Int).fdiv 2=((m/2:Nat):Int):=by
  rw[Int.fdiv_eq_ediv_of_nonneg _ (by decide)];rfl
 show some (AV.int .u64 ((m:Int).fdiv (2^(min (1:Int).toNat IntKind.u64.bits))))=_
 rw[show(2:Int)^(min (1:Int).toNat IntKind.u64.bits)=2 from rfl,e]
def before(nm:List UInt8)(p:Pod):Bool:=Op.bytesLess p.name nm
def RetB(B:List (List AV))(q:Nat)(r:ARes×Heap):Prop:=∃f,r=(.ret (.tuple [.int .i64 (q:Nat),.bool f]),⟨B,[],[]⟩)
theorem bs_loop{B:List (List AV)}{kk n:Nat}{nm:List UInt8}{C:List Pod}{Z:List AV}{q:Nat}(hk:B[kk]?=some (pcs C++Z))(hC:C.length=n)(hn:n≤100000)(hq:q≤n)(h1:∀k p,C[k]?=some p→k<q→before nm p=true)(h2:∀k p,C[k]?=some p→q≤k→before nm p=false):
 ∀(d i j:Nat)(hd:j-i≤d)(hi:i≤q)(hj:q≤j)(hjn:j≤n)(T:Env)
 (hT:Has T [(0,.msl kk 0 n 11),(1,.str nm),(2,.func 117 []),(8,.int .i64 n),(9,.int .i64 i),(10,.int .i64 j)]),
 Goes cfg a116 k116_0 T ⟨B,[],[]⟩ (RetB B q):=by
 intro d
 induction d with
 |zero=>
  intro i j hd hi hj hjn T hT
  have e1:i=q:=by omega
  have e2:j=q:=by omega
  subst e1
  subst e2
  have c1:binA .lss (.int .i64 (j:Nat)) (.int .i64 (j:Nat))=some (.bool false):=lssF (by omega)
  by_cases hqn:j<n
  ·obtain⟨p,hp⟩:∃p,C[j]?=some p:=⟨C[j],List.getElem?_eq_getElem (by omega)⟩
   have ld:=loadP hk hp
   have c2:binA .lss (.int .i64 (j:Nat)) (.int .i64 (n:Nat))=some (.bool true):=lssT (by omega)
   have i1:idxA 11 (.msl kk 0 n 11) (.int .i64 (j:Nat))=some (.ptr kk (0+j*11)):=idx_msl (by omega)
   have cm:=cmp_any p nm
   have e3:=binA_eql .i64 (Lib.compareBytes p.name nm) 0
   generalize Lib.compareBytes p.name nm=z at cm e3
   exact let ζ1:Heap:={boxes:=B,toks:=[],loops:=[]:Heap};gG 60 _ hT (.no (dF ((↑j:Int)<(↑j:Int)))<|.yes (dT ((↑j:Int)<(↑n:Int)))<|.idx i1<|.effY ld<|.callI cm<|.fin ((.ret (.tuple [.int .i64 ↑j,.bool (z==(0:Int))]),ζ1)) (by exact⟨_,rfl⟩))
  ·have c2:binA .lss (.int .i64 (j:Nat)) (.int .i64 (n:Nat))=some (.bool false):=lssF (by omega)
   exact gG 60 _ hT (.no (dF ((↑j:Int)<(↑j:Int)))<|.no (dF ((↑j:Int)<(↑n:Int)))<|.fin ((.ret (.tuple [.int .i64 ↑j,.bool false]),{boxes:=B,toks:=[],loops:=[]:Heap})) (by exact⟨_,rfl⟩))
 |succ d ih=>
  intro i j hd hi hj hjn T hT
  by_cases hij:i<j
  ·have c1:binA .lss (.int .i64 (i:Nat)) (.int .i64 (j:Nat))=some (.bool true):=lssT (by omega)
   have ad:binA .add (.int .i64 (i:Nat)) (.int .i64 (j:Nat))=some (.int .i64 ((i+j:Nat):Int)):=addI (by omega) (by omega)
   have cv:=conv_u (m:=i+j) (by omega)
   have sh:=shr_1 (i+j)
   obtain⟨h,hh⟩:∃h,h=(i+j)/2:=⟨_,rfl⟩
   rw[←hh]at sh
   have ci:convA (.int .i64) (.int .u64 (h:Nat))=some (.int .i64 (h:Nat)):=conv_i64 (by omega)
   obtain⟨p,hp⟩:∃p,C[h]?=some p:=⟨C[h]'(by omega),List.getElem?_eq_getElem (by omega)⟩
   have ld:=loadP hk hp
   have i1:idxA 11 (.msl kk 0 n 11) (.int .i64 (h:Nat))=some (.ptr kk (0+h*11)):=idx_msl (by omega)
   have cm:=cmp_any p nm
   have hl:=cmp_less p.name nm
   have inc:=inc_i (i:=h) (by omega)
   by_cases hb:before nm p=true
   ·have hz:Lib.compareBytes p.name nm<0:=by
     have:=hl.trans hb
     simpa using this
    have lt:binA .lss (.int .i64 (Lib.compareBytes p.name nm)) (.int .i64 0)=some (.bool true):=lssT hz
    have hqh:h<q:=by
     rcases Nat.lt_or_ge h q with h'|h'
     ·exact h'
     ·rw[h2 h p hp h']at hb;cases hb
    have ih':=ih (h+1) j (by omega) (by omega) hj hjn
    generalize Lib.compareBytes p.name nm=z at cm lt hz
    exact let ζ1:Heap:={boxes:=B,toks:=[],loops:=[]:Heap};gG 90 _ hT (.yes (dT ((↑i:Int)<(↑j:Int)))<|.bin ad<|.conv cv<|.bin sh<|.conv ci<|.idx i1<|.effY ld<|.callI cm<|.yes (dT (z<(0:Int)))<|.bin inc<|.cutQ k116_0 [(0,.msl kk 0 n 11),(1,.str nm),(2,.func 117 []),(8,.int .i64 ↑n),(9,.int .i64 (↑(h+1):Int)),(10,.int .i64 ↑j)] (ζ1) (fun T hT=>(ih' T hT)))
   ·have hz:¬Lib.compareBytes p.name nm<0:=fun hlt=>hb (by rw[before,←hl];simpa using hlt)
    have lt:binA .lss (.int .i64 (Lib.compareBytes p.name nm)) (.int .i64 0)=some (.bool false):=lssF (by omega)
    have hqh:q≤h:=by
     rcases Nat.lt_or_ge h q with h'|h'
     ·exact absurd (h1 h p hp h') hb
     ·exact h'
    have ih':=ih i h (by omega) hi hqh (by omega)
    generalize Lib.compareBytes p.name nm=z at cm lt hz
    exact let ζ1:Heap:={boxes:=B,toks:=[],loops:=[]:Heap};gG 90 _ hT (.yes (dT ((↑i:Int)<(↑j:Int)))<|.bin ad<|.conv cv<|.bin sh<|.conv ci<|.idx i1<|.effY ld<|.callI cm<|.no (dF (z<(0:Int)))<|.cutQ k116_0 [(0,.msl kk 0 n 11),(1,.str nm),(2,.func 117 []),(8,.int .i64 ↑n),(9,.int .i64 ↑i),(10,.int .i64 ↑h)] (ζ1) (fun T hT=>(ih' T hT)))
  ·exact ih i j (by omega) hi hj hjn T hT
theorem bs_any{B:List (List AV)}{kk n:Nat}{nm:List UInt8}{C:List Pod}{Z:List AV}{q:Nat}(hk:B[kk]?=some (pcs C++Z))(hB:Tame B)(hC:C.length=n)(hn:n≤100000)(hq:q≤n)(h1:∀k p,C[k]?=some p→k<q→before nm p=true)(h2:∀k p,C[k]?=some p→q≤k→before nm p=false):
 ∃f,Does cfg (.callM (.c (.func 116 [])) [.c (.msl kk 0 n 11),.c (.str nm),.c (.func 117 [])]) ⟨B,[],[]⟩ (.tuple [.int .i64 (q:Nat),.bool f]) ⟨B,[],[]⟩:=by
 have key:Goes cfg a116 [.c c116] (initEnv [.msl kk 0 n 11,.str nm,.func 117 []]) ⟨B,[],[]⟩ (RetB B q):=by
  have h:=bs_loop hk hC hn hq h1 h2 n 0 n (by omega) (by omega) hq (by omega)
  exact gG 60 [] trivial (.len (rfl:lenA false (.msl kk 0 n 11)=some (.int .i64 ↑n))<|.cutQ k116_0 [(0,.msl kk 0 n 11),(1,.str nm),(2,.func 117 []),(8,.int .i64 ↑n),(9,.int .i64 0),(10,.int .i64 ↑n)] ({boxes:=B,toks:=[],loops:=[]:Heap}) (fun T hT=>(h T hT)))
 obtain⟨r,h,f,rfl⟩:=key
 refine⟨f,?_⟩
 have h':lim cfg (.fn 116) [.msl kk 0 n 11,.str nm,.func 117 []] ⟨B,[],[]⟩=some (.ret (.tuple [.int .i64 (q:Nat),.bool f]),⟨B,[],[]⟩):=by rw[l116];exact h
 have hd:=does_callM (xs:=[.msl kk 0 n 11,.str nm,.func 117 []]) h' rfl rfl
 have e:=trunc_tame (ex:=[]) (v:=.tuple [.int .i64 (q:Nat),.bool f]) hB rfl
 rw[List.append_nil]at e
 rw[show(⟨B,[],[]⟩:Heap).boxes.length=B.length from rfl,show(⟨B,[],[]⟩:Heap).toks.length=0 from rfl,show shutA (.tuple [.int .i64 (q:Nat),.bool f])=.tuple [.int .i64 (q:Nat),.bool f]from rfl,e]at hd
 exact hd
end Go.Aa.T
