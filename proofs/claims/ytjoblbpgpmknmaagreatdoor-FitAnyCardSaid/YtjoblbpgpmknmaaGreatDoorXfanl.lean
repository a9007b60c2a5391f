/-
  WHAT THE LAW LEANS ON, part 12 of 15: a machine of values and its soundness; the functions of the law upon it; what they come to.
-/
import Derived.Test.YtjoblbpgpmknmaaGreatDoorXfank
set_option linter.unusedVariables false
set_option linter.unusedSimpArgs false
set_option maxRecDepth 100000
namespace Go.Aa.T
open Go.Aa Go.Proofs
def domS(s:St)(nm key:List UInt8):Option (List UInt8):=match findG Node.name s.nodes nm with
 |none=>none
 |some n=>getP n.labels key
theorem dom_some(s:St)(nm key v:List UInt8)(hs:s.nodes.length<9223372036854775807)(hl:∀n∈s.nodes,n.labels.length<9223372036854775807)(h:domS s nm key=some v):Gives cfg 155 [encSt s,.str nm,.str key] (.str v):=by
 refine Gives.run (l155 _ _) ?_
 have f:=findN_any s.nodes nm hs
 unfold domS at h
 cases hf:findG Node.name s.nodes nm with
 |none=>rw[hf]at h;cases h
 |some n=>
  rw[hf]at f h
  have g:=get_any n.labels key (hl n (findG_mem hf))
  simp only at h
  rw[h]at g
  have g:Gives cfg 200 [.sl .sh (n.labels.map encP),.str key] (.tuple [.str v,.bool true]):=g
  exact let ζ1:List AV:=[.str n.name,.sl .sh (n.cap.map encA),.sl .sh (n.labels.map encP),.sl .sh (n.taints.map encT),.bool n.cordon];let ζ2:List AV:=[.sl .sh (n.labels.map encP),.str key];let ζ3:List AV:=[.sl .sh (s.nodes.map encN),.str nm];gG 90 [] trivial (.callK (ζ3) (.tuple [.agg ζ1,.bool true]) f<|.callK (ζ2) (.tuple [.str v,.bool true]) g<|.ff<|.fin ((.ret (.str v),{boxes:=[[.sl .sh (s.nodes.map encN),.sl .sh (s.pods.map encPd),.sl .sh (s.buds.map encB)],ζ1],toks:=[],loops:=[]:Heap})) rfl)
theorem dom_none(s:St)(nm key:List UInt8)(hs:s.nodes.length<9223372036854775807)(hl:∀n∈s.nodes,n.labels.length<9223372036854775807)(h:domS s nm key=none):Pans cfg 155 [encSt s,.str nm,.str key] (stopV 10):=by
 refine Pans.run (l155 _ _) ?_
 have f:=findN_any s.nodes nm hs
 have m10:Pans cfg 101 [.int .i64 10] (stopV 10):=stop_pan (by decide)
 unfold domS at h
 cases hf:findG Node.name s.nodes nm with
 |none=>
  rw[hf]at f
  have g:Gives cfg 200 [.sl .sh [],.str key] (.tuple [.str [],.bool false]):=get_any [] key (by simp)
  exact let ζ1:List AV:=[.str [],.sl .sh [],.sl .sh [],.sl .sh [],.bool false];let ζ2:List AV:=[.sl .sh (s.nodes.map encN),.str nm];gG 90 [] trivial (.callK (ζ2) (.tuple [.agg ζ1,.bool false]) f<|.callI g<|.tt<|.callP ([.int .i64 10]) ({boxes:=[[.sl .sh (s.nodes.map encN),.sl .sh (s.pods.map encPd),.sl .sh (s.buds.map encB)],ζ1],toks:=[],loops:=[]:Heap}) m10 ⟨rfl,rfl⟩ rfl rfl)
 |some n=>
  rw[hf]at f h
  have g:=get_any n.labels key (hl n (findG_mem hf))
  simp only at h
  rw[h]at g
  have g:Gives cfg 200 [.sl .sh (n.labels.map encP),.str key] (.tuple [.str [],.bool false]):=g
  exact let ζ1:List AV:=[.str n.name,.sl .sh (n.cap.map encA),.sl .sh (n.labels.map encP),.sl .sh (n.taints.map encT),.bool n.cordon];let ζ2:List AV:=[.sl .sh (n.labels.map encP),.str key];let ζ3:List AV:=[.sl .sh (s.nodes.map encN),.str nm];gG 90 [] trivial (.callK (ζ3) (.tuple [.agg ζ1,.bool true]) f<|.callK (ζ2) (.tuple [.str [],.bool false]) g<|.tt<|.callP ([.int .i64 10]) ({boxes:=[[.sl .sh (s.nodes.map encN),.sl .sh (s.pods.map encPd),.sl .sh (s.buds.map encB)],ζ1],toks:=[],loops:=[]:Heap}) m10 ⟨rfl,rfl⟩ rfl rfl)
def ChkH(e:Int)(H:Heap)(r:ARes×Heap):Prop:=(e=0∧r=(.ret (.tuple []),H))∨(e≠0∧r=(.pan (stopV e),H))
theorem cnt_yes(s:St)(p x:Pod)(d v:List UInt8)(ex:List (List AV))(hs:s.nodes.length<9223372036854775807)(hl:∀n∈s.nodes,n.labels.length<9223372036854775807)(h:domS s x.node p.key=some v):
 Goes cfg a203 [.c c203] (initEnv [.ptr 0 0,.ptr (ex.length+3) 0,.ptr 1 0,.ptr 2 0]) ⟨(encSt s).cells::(encPd p).cells::[.str d]::(ex++[(encPd x).cells]),[],[]⟩ (ChkH (if v=d then 0 else 10) ⟨(encSt s).cells::(encPd p).cells::[.str d]::(ex++[(encPd x).cells]),[],[]⟩):=by
 have hd:=dom_some s x.node p.key v hs hl h
 have m10:Pans cfg 101 [.int .i64 10] (stopV 10):=stop_pan (by decide)
 by_cases hv:v=d
 ·subst hv
  rw[if_pos rfl]
  exact let ζ2:List AV:=[.sl .sh (s.nodes.map encN),.sl .sh (s.pods.map encPd),.sl .sh (s.buds.map encB)];let ζ1:Heap:={boxes:=ζ2::[.str p.name,.str p.owner,.int .i64 p.prio,.sl .sh (p.need.map encA),.sl .sh (p.labels.map encP),.sl .sh (p.sel.map encM),.sl .sh (p.tols.map encL),.str p.key,.int .i64 p.most,.str p.node,.bool p.hold]::[.str v]::(ex++[[AV.str x.name,.str x.owner,.int .i64 x.prio,.sl .sh (x.need.map encA),.sl .sh (x.labels.map encP),.sl .sh (x.sel.map encM),.sl .sh (x.tols.map encL),.str x.key,.int .i64 x.most,.str x.node,.bool x.hold]]),toks:=[],loops:=[]:Heap};gG 90 [] trivial (.load (lB true 3 ζ1 0 0 (.agg ζ2) ζ2)<|.load (lB false 1 ζ1 (ex.length+(3:Nat)) 9 (.str x.node) [.str x.name,.str x.owner,.int .i64 x.prio,.sl .sh (x.need.map encA),.sl .sh (x.labels.map encP),.sl .sh (x.sel.map encM),.sl .sh (x.tols.map encL),.str x.key,.int .i64 x.most,.str x.node,.bool x.hold])<|.load (lB false 1 ζ1 1 7 (.str p.key) [.str p.name,.str p.owner,.int .i64 p.prio,.sl .sh (p.need.map encA),.sl .sh (p.labels.map encP),.sl .sh (p.sel.map encM),.sl .sh (p.tols.map encL),.str p.key,.int .i64 p.most,.str p.node,.bool p.hold])<|.callI hd<|.load (lB false 1 ζ1 2 0 (.str v) [.str v])<|.no (show(!v==v)=false from by have hh:(v==v)=true:=(by simp+zetaDelta);simp[hh])<|.fin ((.ret (.tuple []),ζ1)) (by exact .inl ⟨rfl,rfl⟩))
 ·rw[if_neg hv]
  exact let ζ2:List AV:=[.sl .sh (s.nodes.map encN),.sl .sh (s.pods.map encPd),.sl .sh (s.buds.map encB)];let ζ1:Heap:={boxes:=ζ2::[.str p.name,.str p.owner,.int .i64 p.prio,.sl .sh (p.need.map encA),.sl .sh (p.labels.map encP),.sl .sh (p.sel.map encM),.sl .sh (p.tols.map encL),.str p.key,.int .i64 p.most,.str p.node,.bool p.hold]::[.str d]::(ex++[[AV.str x.name,.str x.owner,.int .i64 x.prio,.sl .sh (x.need.map encA),.sl .sh (x.labels.map encP),.sl .sh (x.sel.map encM),.sl .sh (x.tols.map encL),.str x.key,.int .i64 x.most,.str x.node,.bool x.hold]]),toks:=[],loops:=[]:Heap};gG 90 [] trivial (.load (lB true 3 ζ1 0 0 (.agg ζ2) ζ2)<|.load (lB false 1 ζ1 (ex.length+(3:Nat)) 9 (.str x.node) [.str x.name,.str x.owner,.int .i64 x.prio,.sl .sh (x.need.map encA),.sl .sh (x.labels.map encP),.sl .sh (x.sel.map encM),.sl .sh (x.tols.map encL),.str x.key,.int .i64 x.most,.str x.node,.bool x.hold])<|.load (lB false 1 ζ1 1 7 (.str p.key) [.str p.name,.str p.owner,.int .i64 p.prio,.sl .sh (p.need.map encA),.sl .sh (p.labels.map encP),.sl .sh (p.sel.map encM),.sl .sh (p.tols.map encL),.str p.key,.int .i64 p.most,.str p.node,.bool p.hold])<|.callI hd<|.load (lB false 1 ζ1 2 0 (.str d) [.str d])<|.yes (show(!v==d)=true from by have hh:¬((v==d)=true):=(by simpa using hv);simp[hh])<|.callP ([.int .i64 10]) (ζ1) m10 ⟨rfl,rfl⟩ rfl (by exact .inr ⟨by decide,rfl⟩))
def ops203:List AOper:=[⟨some 4,.load true 3 (.t 0),none,[]⟩,⟨some 5,.fld 9 1 (.t 1),none,[]⟩,⟨some 6,.load false 1 (.t 5),none,[1]⟩,⟨some 7,.fld 7 1 (.t 2),none,[]⟩,⟨some 8,.load false 1 (.t 7),none,[3]⟩,⟨some 9,.call (.c (.func 155 [])) [(.t 4),(.t 6),(.t 8)],none,[3,4,1,2,0]⟩,⟨some 10,.load false 1 (.t 3),none,[]⟩,⟨some 11,.bin .neq (.t 9) (.t 10),none,[6,0,2,1,4,3,5]⟩]
theorem cnt_reg(s:St)(p x:Pod)(d:List UInt8)(ex:List (List AV))(hs:s.nodes.length<9223372036854775807)(hl:∀n∈s.nodes,n.labels.length<9223372036854775807)(h:domS s x.node p.key=none)(T:Env)(t0:T 0=.ptr 0 0)(t1:T 1=.ptr (ex.length+3) 0)(t2:T 2=.ptr 1 0)(t3:T 3=.ptr 2 0):
 regionA (lim cfg) true ops203 T ⟨(encSt s).cells::(encPd p).cells::[.str d]::(ex++[(encPd x).cells]),[],[]⟩=
 some (.pan (stopV 10) ⟨(encSt s).cells::(encPd p).cells::[.str d]::(ex++[(encPd x).cells]),[],[]⟩):=by
 have hb:(⟨(encSt s).cells::(encPd p).cells::[.str d]::(ex++[(encPd x).cells]),[],[]⟩:Heap).boxes[ex.length+3]?=some (encPd x).cells:=by
  show((encSt s).cells::(encPd p).cells::[.str d]::(ex++[(encPd x).cells]))[ex.length+3]?=_
  rw[List.getElem?_cons_succ,List.getElem?_cons_succ,List.getElem?_cons_succ,List.getElem?_append_right (Nat.le_refl _),Nat.sub_self];rfl
 have hp:=dom_none s x.node p.key hs hl h
 have m2:=fun T H=>pansD (xs:=[encSt s,.str x.node,.str p.key]) hp ⟨rfl,rfl⟩ rfl H T
 have l1:=fun T=>load_any (H:=⟨(encSt s).cells::(encPd p).cells::[.str d]::(ex++[(encPd x).cells]),[],[]⟩) (k:=0) (agg:=true) (n:=3) (off:=0) (v:=encSt s) (cs:=(encSt s).cells) rfl rfl T
 have l2:=fun T=>load_any (agg:=false) (n:=1) (off:=9) (v:=.str x.node) hb rfl T
 have l3:=fun T=>load_any (H:=⟨(encSt s).cells::(encPd p).cells::[.str d]::(ex++[(encPd x).cells]),[],[]⟩) (k:=1) (agg:=false) (n:=1) (off:=7) (v:=.str p.key) (cs:=(encPd p).cells) rfl rfl T
 have l4:=fun T=>load_any (H:=⟨(encSt s).cells::(encPd p).cells::[.str d]::(ex++[(encPd x).cells]),[],[]⟩) (k:=2) (agg:=false) (n:=1) (off:=0) (v:=.str d) (cs:=[.str d]) rfl rfl T
 generalize(⟨(encSt s).cells::(encPd p).cells::[.str d]::(ex++[(encPd x).cells]),[],[]⟩:Heap)=H at l1 l2 l3 l4⊢
 have st:∀(T:Env)(o:AOp)(q:AOp)(r:Option Out),clOp T o=q→opStepD (lim cfg) q T H=r→opStepD (lim cfg) o T H=r:=fun T o q r h1 h2=>by
  rw[←cl_stepD _ T T,h1];exact h2
 change runD (lim cfg) 0 ops203 none T H=_
 unfold ops203
 refine Eq.trans (runD_val (u:=encSt s) (H':=H) rfl ?h) ?_
 case h=>exact st _ _ _ _ (by simp only[clOp,cl,ev,t0]) (l1 _)
 refine Eq.trans (runD_val (u:=.ptr (ex.length+3) 9) (H':=H) rfl ?h) ?_
 case h=>simp[opStepD,opStep,pureOp,ev,setD,upd_eq,t1,fldA]
 refine Eq.trans (runD_val (u:=.str x.node) (H':=H) rfl ?h) ?_
 case h=>exact st _ _ _ _ (by simp[clOp,cl,ev,setD,upd_eq]) (l2 _)
 refine Eq.trans (runD_val (u:=.ptr 1 7) (H':=H) rfl ?h) ?_
 case h=>simp[opStepD,opStep,pureOp,ev,setD,upd_eq,t2,fldA]
 refine Eq.trans (runD_val (u:=.str p.key) (H':=H) rfl ?h) ?_
 case h=>exact st _ _ _ _ (by simp[clOp,cl,ev,setD,upd_eq]) (l3 _)
 refine Eq.trans (runD_pan (v:=stopV 10) (H':=H) rfl ?h) ?_
 case h=>exact st _ _ _ _ (by simp[clOp,cl,ev,setD,upd_eq]) (m2 _ _)
 refine Eq.trans (runD_look (u:=.str d) (H':=H) rfl rfl ?h) ?_
 case h=>exact st _ _ _ _ (by simp[clOp,cl,ev,setD,upd_eq,t3]) (l4 _)
 refine Eq.trans (runD_skip rfl) ?_
 rfl
theorem cnt_no(s:St)(p x:Pod)(d:List UInt8)(ex:List (List AV))(hs:s.nodes.length<9223372036854775807)(hl:∀n∈s.nodes,n.labels.length<9223372036854775807)(h:domS s x.node p.key=none):
 Goes cfg a203 [.c c203] (initEnv [.ptr 0 0,.ptr (ex.length+3) 0,.ptr 1 0,.ptr 2 0]) ⟨(encSt s).cells::(encPd p).cells::[.str d]::(ex++[(encPd x).cells]),[],[]⟩ (ChkH 10 ⟨(encSt s).cells::(encPd p).cells::[.str d]::(ex++[(encPd x).cells]),[],[]⟩):=by
 have r:=cnt_reg s p x d ex hs hl h (initEnv [.ptr 0 0,.ptr (ex.length+3) 0,.ptr 1 0,.ptr 2 0]) rfl rfl rfl rfl
 refine⟨_,?_,.inr ⟨by decide,rfl⟩⟩
 unfold c203
 rw[runL_seq]
 erw [runL_region]
 change(match regionA (lim cfg) true ops203 _ _ with|some (.env T' H')=>_|some (.pan v H')=>_|none=>_)=_
 rw[r]
def standB(s:St)(p:Pod)(d:List UInt8)(x:Pod):Bool:= !(p.owner==[]|| !(x.owner==p.owner)||x.hold||x.name==p.name||x.node==[])&&domS s x.node p.key==some d
def countS(s:St)(p:Pod)(d:List UInt8):Nat:=(s.pods.filter (standB s p d)).length
theorem cnt_try(s:St)(p x:Pod)(d:List UInt8)(ex:List (List AV))(hs:s.nodes.length<9223372036854775807)(hl:∀n∈s.nodes,n.labels.length<9223372036854775807):
 Does cfg (.call (.c (.func 77 [])) [.c (.func 203 [.ptr 0 0,.ptr (ex.length+3) 0,.ptr 1 0,.ptr 2 0])]) ⟨(encSt s).cells::(encPd p).cells::[.str d]::(ex++[(encPd x).cells]),[],[]⟩
  (.int .i64 (if domS s x.node p.key=some d then 0 else 10)) ⟨(encSt s).cells::(encPd p).cells::[.str d]::(ex++[(encPd x).cells]),[],[]⟩:=by
 obtain⟨e,he,r,hr,hR⟩:∃e,(if domS s x.node p.key=some d then(0:Int)else 10)=e∧Goes cfg a203 [.c c203] (initEnv [.ptr 0 0,.ptr (ex.length+3) 0,.ptr 1 0,.ptr 2 0]) ⟨(encSt s).cells::(encPd p).cells::[.str d]::(ex++[(encPd x).cells]),[],[]⟩ (ChkH e ⟨(encSt s).cells::(encPd p).cells::[.str d]::(ex++[(encPd x).cells]),[],[]⟩):=by
  refine⟨_,rfl,?_⟩
  cases hv:domS s x.node p.key with
  |none=>rw[if_neg (by simp)];exact cnt_no s p x d ex hs hl hv
  |some v=>
   have:=cnt_yes s p x d v ex hs hl hv
   by_cases h:v=d
   ·rw[if_pos h]at this;rw[if_pos (by rw[h])];exact this
   ·rw[if_neg h]at this;rw[if_neg (by simpa using h)];exact this
 rw[he]
 generalize(⟨(encSt s).cells::(encPd p).cells::[.str d]::(ex++[(encPd x).cells]),[],[]⟩:Heap)=H at hr hR⊢
 have ht:lim cfg (.fn 77) [.func 203 [.ptr 0 0,.ptr (ex.length+3) 0,.ptr 1 0,.ptr 2 0]] H=some (.ret (.int .i64 e),H):=by
  rw[lim_try rfl,l203,hr]
  rcases hR with⟨h0,h1⟩|⟨h0,h1⟩
  ·subst h1;subst h0;rfl
  ·subst h1;rfl
 have hd:=does_callE (xs:=[.func 203 [.ptr 0 0,.ptr (ex.length+3) 0,.ptr 1 0,.ptr 2 0]]) (caps:=[]) ht rfl rfl
 rwa [show shutA (.int .i64 e)=.int .i64 e from rfl,trunc_self]at hd
theorem cnt_loop(s:St)(p:Pod)(d:List UInt8)(hp:s.pods.length≤1000)(hs:s.nodes.length<9223372036854775807)(hl:∀n∈s.nodes,n.labels.length<9223372036854775807):
 ∀(post:List Pod)(i:Nat)(hd:s.pods.drop i=post)(n:Nat)(hn:n≤i)(ex:List (List AV))(T:Env)
 (hT:Has T [(3,.ptr 0 0),(4,.ptr 1 0),(5,.ptr 2 0),(7,.int .i64 n),(11,.sl .sh (s.pods.map encPd)),(12,.int .i64 s.pods.length),(13,.int .i64 i)]),
 Goes cfg a156 k156_0 T ⟨(encSt s).cells::(encPd p).cells::[.str d]::ex,[],[]⟩ (IsRet (.int .i64 ((n+(post.filter (standB s p d)).length:Nat):Int))):=by
 intro post
 induction post with
 |nil=>
  intro i hd n hn ex T hT
  have hge:=drop_ge hd
  rw[show n+(([]:List Pod).filter (standB s p d)).length=n by simp]
  exact gG 60 _ hT (.no (dF ((↑i:Int)<(↑s.pods.length:Int)))<|.fin ((.ret (.int .i64 ↑n),{boxes:=[.sl .sh (s.nodes.map encN),.sl .sh (s.pods.map encPd),.sl .sh (s.buds.map encB)]::[.str p.name,.str p.owner,.int .i64 p.prio,.sl .sh (p.need.map encA),.sl .sh (p.labels.map encP),.sl .sh (p.sel.map encM),.sl .sh (p.tols.map encL),.str p.key,.int .i64 p.most,.str p.node,.bool p.hold]::[.str d]::ex,toks:=[],loops:=[]:Heap})) rfl)
 |cons x post ih=>
  intro i hd n hn ex T hT
  have hlt:=drop_lt hd
  have hnx:=drop_next hd
  have hxi:idxA 11 (.sl .sh (s.pods.map encPd)) (.int .i64 (i:Nat))=some (.ref (encPd x).cells):=idx_row (f:=encPd) hd rfl
  have ct:=cnt_try s p x d ex hs hl
  have ih0:=ih (i+1) hnx n (by omega) (ex++[(encPd x).cells])
  by_cases q1:p.owner=[]
  ·have e:n+((x::post).filter (standB s p d)).length=n+(post.filter (standB s p d)).length:=by simp[List.filter_cons,standB,q1]
   rw[e]
   exact let ζ1:List AV:=[.str p.name,.str p.owner,.int .i64 p.prio,.sl .sh (p.need.map encA),.sl .sh (p.labels.map encP),.sl .sh (p.sel.map encM),.sl .sh (p.tols.map encL),.str p.key,.int .i64 p.most,.str p.node,.bool p.hold];let ζ2:List AV:=[.str x.name,.str x.owner,.int .i64 x.prio,.sl .sh (x.need.map encA),.sl .sh (x.labels.map encP),.sl .sh (x.sel.map encM),.sl .sh (x.tols.map encL),.str x.key,.int .i64 x.most,.str x.node,.bool x.hold];let ζ3:List AV:=[.sl .sh (s.nodes.map encN),.sl .sh (s.pods.map encPd),.sl .sh (s.buds.map encB)];let ζ4:Heap:={boxes:=ζ3::ζ1::[.str d]::(ex++[ζ2]),toks:=[],loops:=[]:Heap};let ζ5:List AV:=[.str [],.str [],.int .i64 0,.sl .full [],.sl .full [],.sl .full [],.sl .full [],.str [],.int .i64 0,.str [],.bool false];gG 160 _ hT (.yes (dT ((↑i:Int)<(↑s.pods.length:Int)))<|.idx hxi<|.load (rfl:loadA true 11 {boxes:=ζ3::ζ1::[.str d]::ex,toks:=[],loops:=[]:Heap} (.ref ζ2)=some (.agg ζ2))<|.store (show storeA 11 {boxes:=ζ3::ζ1::[.str d]::(ex++[ζ5]),toks:=[],loops:=[]:Heap} (.ptr (ζ3::ζ1::[.str d]::ex).length (0:Nat)) (.agg ζ2)=some (ζ4)from store_box2 (cs:=ζ5) (cs':=ζ2) (by simp+zetaDelta) rfl (by simp+zetaDelta [List.set_append]))<|.load (lB false 1 ζ4 1 1 (.str p.owner) ζ1)<|.yes (show(p.owner==[])=true from(by simp+zetaDelta [q1]))<|.tt<|.tt<|.tt<|.tt<|.bin (iI i)<|.cutQ k156_0 [(3,.ptr 0 0),(4,.ptr 1 0),(5,.ptr 2 0),(7,.int .i64 ↑n),(11,.sl .sh (s.pods.map encPd)),(12,.int .i64 (↑s.pods.length)),(13,.int .i64 (↑(i+1)))] (ζ4) (fun T hT=>(ih0 T hT)))
  ·by_cases q2:x.owner=p.owner
   ·cases q3:x.hold with
    |true=>
     have e:n+((x::post).filter (standB s p d)).length=n+(post.filter (standB s p d)).length:=by simp[List.filter_cons,standB,q3]
     rw[e]
     exact let ζ2:List AV:=[.str p.name,.str p.owner,.int .i64 p.prio,.sl .sh (p.need.map encA),.sl .sh (p.labels.map encP),.sl .sh (p.sel.map encM),.sl .sh (p.tols.map encL),.str p.key,.int .i64 p.most,.str p.node,.bool p.hold];let ζ3:List AV:=[.str x.name,.str x.owner,.int .i64 x.prio,.sl .sh (x.need.map encA),.sl .sh (x.labels.map encP),.sl .sh (x.sel.map encM),.sl .sh (x.tols.map encL),.str x.key,.int .i64 x.most,.str x.node,.bool x.hold];let ζ4:List AV:=[.sl .sh (s.nodes.map encN),.sl .sh (s.pods.map encPd),.sl .sh (s.buds.map encB)];let ζ1:Heap:={boxes:=ζ4::ζ2::[.str d]::(ex++[ζ3]),toks:=[],loops:=[]:Heap};let ζ5:List AV:=[.str [],.str [],.int .i64 0,.sl .full [],.sl .full [],.sl .full [],.sl .full [],.str [],.int .i64 0,.str [],.bool false];gG 160 _ hT (.yes (dT ((↑i:Int)<(↑s.pods.length:Int)))<|.idx hxi<|.load (rfl:loadA true 11 {boxes:=ζ4::ζ2::[.str d]::ex,toks:=[],loops:=[]:Heap} (.ref ζ3)=some (.agg ζ3))<|.store (show storeA 11 {boxes:=ζ4::ζ2::[.str d]::(ex++[ζ5]),toks:=[],loops:=[]:Heap} (.ptr (ζ4::ζ2::[.str d]::ex).length (0:Nat)) (.agg ζ3)=some (ζ1)from store_box2 (cs:=ζ5) (cs':=ζ3) (by simp+zetaDelta) rfl (by simp+zetaDelta [List.set_append]))<|.load (lB false 1 ζ1 1 1 (.str p.owner) ζ2)<|.no (show(p.owner==[])=false from Bool.eq_false_iff.2 (by simp+zetaDelta [q1]))<|.load (show loadA false 1 ζ1 (.ptr (ζ4::ζ2::[.str d]::ex).length (1:Nat))=some (.str x.owner)from load_box (cs:=ζ3) (by simp+zetaDelta) rfl)<|.load (lB false 1 ζ1 1 1 (.str p.owner) ζ2)<|.no (show(!x.owner==p.owner)=false from by have hh:(x.owner==p.owner)=true:=(by simp+zetaDelta [q2]);simp[hh])<|.load (show loadA false 1 ζ1 (.ptr (ζ4::ζ2::[.str d]::ex).length (10:Nat))=some (.bool x.hold)from load_box (cs:=ζ3) (by simp+zetaDelta) rfl)<|.yes (show(x.hold)=true from(by omega))<|.tt<|.tt<|.bin (iI i)<|.cutQ k156_0 [(3,.ptr 0 0),(4,.ptr 1 0),(5,.ptr 2 0),(7,.int .i64 ↑n),(11,.sl .sh (s.pods.map encPd)),(12,.int .i64 (↑s.pods.length)),(13,.int .i64 (↑(i+1)))] (ζ1) (fun T hT=>(ih0 T hT)))
    |false=>
     by_cases q4:x.name=p.name
     ·have e:n+((x::post).filter (standB s p d)).length=n+(post.filter (standB s p d)).length:=by simp[List.filter_cons,standB,q4]
      rw[e]
      exact let ζ2:List AV:=[.str p.name,.str p.owner,.int .i64 p.prio,.sl .sh (p.need.map encA),.sl .sh (p.labels.map encP),.sl .sh (p.sel.map encM),.sl .sh (p.tols.map encL),.str p.key,.int .i64 p.most,.str p.node,.bool p.hold];let ζ3:List AV:=[.str x.name,.str x.owner,.int .i64 x.prio,.sl .sh (x.need.map encA),.sl .sh (x.labels.map encP),.sl .sh (x.sel.map encM),.sl .sh (x.tols.map encL),.str x.key,.int .i64 x.most,.str x.node,.bool x.hold];let ζ4:List AV:=[.sl .sh (s.nodes.map encN),.sl .sh (s.pods.map encPd),.sl .sh (s.buds.map encB)];let ζ1:Heap:={boxes:=ζ4::ζ2::[.str d]::(ex++[ζ3]),toks:=[],loops:=[]:Heap};let ζ5:List AV:=[.str [],.str [],.int .i64 0,.sl .full [],.sl .full [],.sl .full [],.sl .full [],.str [],.int .i64 0,.str [],.bool false];gG 160 _ hT (.yes (dT ((↑i:Int)<(↑s.pods.length:Int)))<|.idx hxi<|.load (rfl:loadA true 11 {boxes:=ζ4::ζ2::[.str d]::ex,toks:=[],loops:=[]:Heap} (.ref ζ3)=some (.agg ζ3))<|.store (show storeA 11 {boxes:=ζ4::ζ2::[.str d]::(ex++[ζ5]),toks:=[],loops:=[]:Heap} (.ptr (ζ4::ζ2::[.str d]::ex).length (0:Nat)) (.agg ζ3)=some (ζ1)from store_box2 (cs:=ζ5) (cs':=ζ3) (by simp+zetaDelta) rfl (by simp+zetaDelta [List.set_append]))<|.load (lB false 1 ζ1 1 1 (.str p.owner) ζ2)<|.no (show(p.owner==[])=false from Bool.eq_false_iff.2 (by simp+zetaDelta [q1]))<|.load (show loadA false 1 ζ1 (.ptr (ζ4::ζ2::[.str d]::ex).length (1:Nat))=some (.str x.owner)from load_box (cs:=ζ3) (by simp+zetaDelta) rfl)<|.load (lB false 1 ζ1 1 1 (.str p.owner) ζ2)<|.no (show(!x.owner==p.owner)=false from by have hh:(x.owner==p.owner)=true:=(by simp+zetaDelta [q2]);simp[hh])<|.load (show loadA false 1 ζ1 (.ptr (ζ4::ζ2::[.str d]::ex).length (10:Nat))=some (.bool x.hold)from load_box (cs:=ζ3) (by simp+zetaDelta) rfl)<|.no (show(x.hold)=false from Bool.eq_false_iff.2 (by simp+zetaDelta [q3]))<|.load (show loadA false 1 ζ1 (.ptr (ζ4::ζ2::[.str d]::ex).length (0:Nat))=some (.str x.name)from load_box (cs:=ζ3) (by simp+zetaDelta) rfl)<|.load (lB false 1 ζ1 1 0 (.str p.name) ζ2)<|.yes (show(x.name==p.name)=true from(by simp+zetaDelta [q4]))<|.tt<|.bin (iI i)<|.cutQ k156_0 [(3,.ptr 0 0),(4,.ptr 1 0),(5,.ptr 2 0),(7,.int .i64 ↑n),(11,.sl .sh (s.pods.map encPd)),(12,.int .i64 (↑s.pods.length)),(13,.int .i64 (↑(i+1)))] (ζ1) (fun T hT=>(ih0 T hT)))
     ·by_cases q5:x.node=[]
      ·have e:n+((x::post).filter (standB s p d)).length=n+(post.filter (standB s p d)).length:=by simp[List.filter_cons,standB,q5]
       rw[e]
       exact let ζ2:List AV:=[.str p.name,.str p.owner,.int .i64 p.prio,.sl .sh (p.need.map encA),.sl .sh (p.labels.map encP),.sl .sh (p.sel.map encM),.sl .sh (p.tols.map encL),.str p.key,.int .i64 p.most,.str p.node,.bool p.hold];let ζ3:List AV:=[.str x.name,.str x.owner,.int .i64 x.prio,.sl .sh (x.need.map encA),.sl .sh (x.labels.map encP),.sl .sh (x.sel.map encM),.sl .sh (x.tols.map encL),.str x.key,.int .i64 x.most,.str x.node,.bool x.hold];let ζ4:List AV:=[.sl .sh (s.nodes.map encN),.sl .sh (s.pods.map encPd),.sl .sh (s.buds.map encB)];let ζ1:Heap:={boxes:=ζ4::ζ2::[.str d]::(ex++[ζ3]),toks:=[],loops:=[]:Heap};let ζ5:List AV:=[.str [],.str [],.int .i64 0,.sl .full [],.sl .full [],.sl .full [],.sl .full [],.str [],.int .i64 0,.str [],.bool false];gG 160 _ hT (.yes (dT ((↑i:Int)<(↑s.pods.length:Int)))<|.idx hxi<|.load (rfl:loadA true 11 {boxes:=ζ4::ζ2::[.str d]::ex,toks:=[],loops:=[]:Heap} (.ref ζ3)=some (.agg ζ3))<|.store (show storeA 11 {boxes:=ζ4::ζ2::[.str d]::(ex++[ζ5]),toks:=[],loops:=[]:Heap} (.ptr (ζ4::ζ2::[.str d]::ex).length (0:Nat)) (.agg ζ3)=some (ζ1)from store_box2 (cs:=ζ5) (cs':=ζ3) (by simp+zetaDelta) rfl (by simp+zetaDelta [List.set_append]))<|.load (lB false 1 ζ1 1 1 (.str p.owner) ζ2)<|.no (show(p.owner==[])=false from Bool.eq_false_iff.2 (by simp+zetaDelta [q1]))<|.load (show loadA false 1 ζ1 (.ptr (ζ4::ζ2::[.str d]::ex).length (1:Nat))=some (.str x.owner)from load_box (cs:=ζ3) (by simp+zetaDelta) rfl)<|.load (lB false 1 ζ1 1 1 (.str p.owner) ζ2)<|.no (show(!x.owner==p.owner)=false from by have hh:(x.owner==p.owner)=true:=(by simp+zetaDelta [q2]);simp[hh])<|.load (show loadA false 1 ζ1 (.ptr (ζ4::ζ2::[.str d]::ex).length (10:Nat))=some (.bool x.hold)from load_box (cs:=ζ3) (by simp+zetaDelta) rfl)<|.no (show(x.hold)=false from Bool.eq_false_iff.2 (by simp+zetaDelta [q3]))<|.load (show loadA false 1 ζ1 (.ptr (ζ4::ζ2::[.str d]::ex).length (0:Nat))=some (.str x.name)from load_box (cs:=ζ3) (by simp+zetaDelta) rfl)<|.load (lB false 1 ζ1 1 0 (.str p.name) ζ2)<|.no (show(x.name==p.name)=false from Bool.eq_false_iff.2 (by simp+zetaDelta [q4]))<|.load (show loadA false 1 ζ1 (.ptr (ζ4::ζ2::[.str d]::ex).length (9:Nat))=some (.str x.node)from load_box (cs:=ζ3) (by simp+zetaDelta) rfl)<|.yes (show(x.node==[])=true from(by simp+zetaDelta [q5]))<|.bin (iI i)<|.cutQ k156_0 [(3,.ptr 0 0),(4,.ptr 1 0),(5,.ptr 2 0),(7,.int .i64 ↑n),(11,.sl .sh (s.pods.map encPd)),(12,.int .i64 (↑s.pods.length)),(13,.int .i64 (↑(i+1)))] (ζ1) (fun T hT=>(ih0 T hT)))
      ·by_cases q6:domS s x.node p.key=some d
       ·have e:n+((x::post).filter (standB s p d)).length=(n+1)+(post.filter (standB s p d)).length:=by simp[List.filter_cons,standB,q1,q2,q3,q4,q5,q6];omega
        rw[e]
        rw[if_pos q6]at ct
        have ih1:=ih (i+1) hnx (n+1) (by omega) (ex++[(encPd x).cells])
        exact let ζ2:List AV:=[.str p.name,.str p.owner,.int .i64 p.prio,.sl .sh (p.need.map encA),.sl .sh (p.labels.map encP),.sl .sh (p.sel.map encM),.sl .sh (p.tols.map encL),.str p.key,.int .i64 p.most,.str p.node,.bool p.hold];let ζ3:List AV:=[.str x.name,.str x.owner,.int .i64 x.prio,.sl .sh (x.need.map encA),.sl .sh (x.labels.map encP),.sl .sh (x.sel.map encM),.sl .sh (x.tols.map encL),.str x.key,.int .i64 x.most,.str x.node,.bool x.hold];let ζ4:List AV:=[.sl .sh (s.nodes.map encN),.sl .sh (s.pods.map encPd),.sl .sh (s.buds.map encB)];let ζ1:Heap:={boxes:=ζ4::ζ2::[.str d]::(ex++[ζ3]),toks:=[],loops:=[]:Heap};let ζ5:List AV:=[.str [],.str [],.int .i64 0,.sl .full [],.sl .full [],.sl .full [],.sl .full [],.str [],.int .i64 0,.str [],.bool false];let ζ6:Heap:={boxes:=(encSt s).cells::(encPd p).cells::[.str d]::(ex++[(encPd x).cells]),toks:=[],loops:=[]:Heap};gG 160 _ hT (.yes (dT ((↑i:Int)<(↑s.pods.length:Int)))<|.idx hxi<|.load (rfl:loadA true 11 {boxes:=ζ4::ζ2::[.str d]::ex,toks:=[],loops:=[]:Heap} (.ref ζ3)=some (.agg ζ3))<|.store (show storeA 11 {boxes:=ζ4::ζ2::[.str d]::(ex++[ζ5]),toks:=[],loops:=[]:Heap} (.ptr (ζ4::ζ2::[.str d]::ex).length (0:Nat)) (.agg ζ3)=some (ζ1)from store_box2 (cs:=ζ5) (cs':=ζ3) (by simp+zetaDelta) rfl (by simp+zetaDelta [List.set_append]))<|.load (lB false 1 ζ1 1 1 (.str p.owner) ζ2)<|.no (show(p.owner==[])=false from Bool.eq_false_iff.2 (by simp+zetaDelta [q1]))<|.load (show loadA false 1 ζ1 (.ptr (ζ4::ζ2::[.str d]::ex).length (1:Nat))=some (.str x.owner)from load_box (cs:=ζ3) (by simp+zetaDelta) rfl)<|.load (lB false 1 ζ1 1 1 (.str p.owner) ζ2)<|.no (show(!x.owner==p.owner)=false from by have hh:(x.owner==p.owner)=true:=(by simp+zetaDelta [q2]);simp[hh])<|.load (show loadA false 1 ζ1 (.ptr (ζ4::ζ2::[.str d]::ex).length (10:Nat))=some (.bool x.hold)from load_box (cs:=ζ3) (by simp+zetaDelta) rfl)<|.no (show(x.hold)=false from Bool.eq_false_iff.2 (by simp+zetaDelta [q3]))<|.load (show loadA false 1 ζ1 (.ptr (ζ4::ζ2::[.str d]::ex).length (0:Nat))=some (.str x.name)from load_box (cs:=ζ3) (by simp+zetaDelta) rfl)<|.load (lB false 1 ζ1 1 0 (.str p.name) ζ2)<|.no (show(x.name==p.name)=false from Bool.eq_false_iff.2 (by simp+zetaDelta [q4]))<|.load (show loadA false 1 ζ1 (.ptr (ζ4::ζ2::[.str d]::ex).length (9:Nat))=some (.str x.node)from load_box (cs:=ζ3) (by simp+zetaDelta) rfl)<|.no (show(x.node==[])=false from Bool.eq_false_iff.2 (by simp+zetaDelta [q5]))<|.effY ct<|.tt<|.bin (iI n)<|.bin (iI i)<|.cutQ k156_0 [(3,.ptr 0 0),(4,.ptr 1 0),(5,.ptr 2 0),(7,.int .i64 (↑(n+(1:Nat)):Int)),(11,.sl .sh (s.pods.map encPd)),(12,.int .i64 (↑s.pods.length)),(13,.int .i64 (↑(i+1)))] (ζ1) (fun T hT=>(ih1 T hT)))
       ·have e:n+((x::post).filter (standB s p d)).length=n+(post.filter (standB s p d)).length:=by simp[List.filter_cons,standB,q6]
        rw[e]
        rw[if_neg q6]at ct
        exact let ζ2:List AV:=[.str p.name,.str p.owner,.int .i64 p.prio,.sl .sh (p.need.map encA),.sl .sh (p.labels.map encP),.sl .sh (p.sel.map encM),.sl .sh (p.tols.map encL),.str p.key,.int .i64 p.most,.str p.node,.bool p.hold];let ζ3:List AV:=[.str x.name,.str x.owner,.int .i64 x.prio,.sl .sh (x.need.map encA),.sl .sh (x.labels.map encP),.sl .sh (x.sel.map encM),.sl .sh (x.tols.map encL),.str x.key,.int .i64 x.most,.str x.node,.bool x.hold];let ζ4:List AV:=[.sl .sh (s.nodes.map encN),.sl .sh (s.pods.map encPd),.sl .sh (s.buds.map encB)];let ζ1:Heap:={boxes:=ζ4::ζ2::[.str d]::(ex++[ζ3]),toks:=[],loops:=[]:Heap};let ζ5:List AV:=[.str [],.str [],.int .i64 0,.sl .full [],.sl .full [],.sl .full [],.sl .full [],.str [],.int .i64 0,.str [],.bool false];let ζ6:Heap:={boxes:=(encSt s).cells::(encPd p).cells::[.str d]::(ex++[(encPd x).cells]),toks:=[],loops:=[]:Heap};gG 160 _ hT (.yes (dT ((↑i:Int)<(↑s.pods.length:Int)))<|.idx hxi<|.load (rfl:loadA true 11 {boxes:=ζ4::ζ2::[.str d]::ex,toks:=[],loops:=[]:Heap} (.ref ζ3)=some (.agg ζ3))<|.store (show storeA 11 {boxes:=ζ4::ζ2::[.str d]::(ex++[ζ5]),toks:=[],loops:=[]:Heap} (.ptr (ζ4::ζ2::[.str d]::ex).length (0:Nat)) (.agg ζ3)=some (ζ1)from store_box2 (cs:=ζ5) (cs':=ζ3) (by simp+zetaDelta) rfl (by simp+zetaDelta [List.set_append]))<|.load (lB false 1 ζ1 1 1 (.str p.owner) ζ2)<|.no (show(p.owner==[])=false from Bool.eq_false_iff.2 (by simp+zetaDelta [q1]))<|.load (show loadA false 1 ζ1 (.ptr (ζ4::ζ2::[.str d]::ex).length (1:Nat))=some (.str x.owner)from load_box (cs:=ζ3) (by simp+zetaDelta) rfl)<|.load (lB false 1 ζ1 1 1 (.str p.owner) ζ2)<|.no (show(!x.owner==p.owner)=false from by have hh:(x.owner==p.owner)=true:=(by simp+zetaDelta [q2]);simp[hh])<|.load (show loadA false 1 ζ1 (.ptr (ζ4::ζ2::[.str d]::ex).length (10:Nat))=some (.bool x.hold)from load_box (cs:=ζ3) (by simp+zetaDelta) rfl)<|.no (show(x.hold)=false from Bool.eq_false_iff.2 (by simp+zetaDelta [q3]))<|.load (show loadA false 1 ζ1 (.ptr (ζ4::ζ2::[.str d]::ex).length (0:Nat))=some (.str x.name)from load_box (cs:=ζ3) (by simp+zetaDelta) rfl)<|.load (lB false 1 ζ1 1 0 (.str p.name) ζ2)<|.no (show(x.name==p.name)=false from Bool.eq_false_iff.2 (by simp+zetaDelta [q4]))<|.load (show loadA false 1 ζ1 (.ptr (ζ4::ζ2::[.str d]::ex).length (9:Nat))=some (.str x.node)from load_box (cs:=ζ3) (by simp+zetaDelta) rfl)<|.no (show(x.node==[])=false from Bool.eq_false_iff.2 (by simp+zetaDelta [q5]))<|.effY ct<|.ff<|.bin (iI i)<|.cutQ k156_0 [(3,.ptr 0 0),(4,.ptr 1 0),(5,.ptr 2 0),(7,.int .i64 ↑n),(11,.sl .sh (s.pods.map encPd)),(12,.int .i64 (↑s.pods.length)),(13,.int .i64 (↑(i+1)))] (ζ1) (fun T hT=>(ih0 T hT)))
   ·have e:n+((x::post).filter (standB s p d)).length=n+(post.filter (standB s p d)).length:=by simp[List.filter_cons,standB,q2]
    rw[e]
    exact let ζ2:List AV:=[.str p.name,.str p.owner,.int .i64 p.prio,.sl .sh (p.need.map encA),.sl .sh (p.labels.map encP),.sl .sh (p.sel.map encM),.sl .sh (p.tols.map encL),.str p.key,.int .i64 p.most,.str p.node,.bool p.hold];let ζ3:List AV:=[.str x.name,.str x.owner,.int .i64 x.prio,.sl .sh (x.need.map encA),.sl .sh (x.labels.map encP),.sl .sh (x.sel.map encM),.sl .sh (x.tols.map encL),.str x.key,.int .i64 x.most,.str x.node,.bool x.hold];let ζ4:List AV:=[.sl .sh (s.nodes.map encN),.sl .sh (s.pods.map encPd),.sl .sh (s.buds.map encB)];let ζ1:Heap:={boxes:=ζ4::ζ2::[.str d]::(ex++[ζ3]),toks:=[],loops:=[]:Heap};let ζ5:List AV:=[.str [],.str [],.int .i64 0,.sl .full [],.sl .full [],.sl .full [],.sl .full [],.str [],.int .i64 0,.str [],.bool false];gG 160 _ hT (.yes (dT ((↑i:Int)<(↑s.pods.length:Int)))<|.idx hxi<|.load (rfl:loadA true 11 {boxes:=ζ4::ζ2::[.str d]::ex,toks:=[],loops:=[]:Heap} (.ref ζ3)=some (.agg ζ3))<|.store (show storeA 11 {boxes:=ζ4::ζ2::[.str d]::(ex++[ζ5]),toks:=[],loops:=[]:Heap} (.ptr (ζ4::ζ2::[.str d]::ex).length (0:Nat)) (.agg ζ3)=some (ζ1)from store_box2 (cs:=ζ5) (cs':=ζ3) (by simp+zetaDelta) rfl (by simp+zetaDelta [List.set_append]))<|.load (lB false 1 ζ1 1 1 (.str p.owner) ζ2)<|.no (show(p.owner==[])=false from Bool.eq_false_iff.2 (by simp+zetaDelta [q1]))<|.load (show loadA false 1 ζ1 (.ptr (ζ4::ζ2::[.str d]::ex).length (1:Nat))=some (.str x.owner)from load_box (cs:=ζ3) (by simp+zetaDelta) rfl)<|.load (lB false 1 ζ1 1 1 (.str p.owner) ζ2)<|.yes (show(!x.owner==p.owner)=true from by have hh:¬((x.owner==p.owner)=true):=(by simp+zetaDelta [q2]);simp[hh])<|.tt<|.tt<|.tt<|.bin (iI i)<|.cutQ k156_0 [(3,.ptr 0 0),(4,.ptr 1 0),(5,.ptr 2 0),(7,.int .i64 ↑n),(11,.sl .sh (s.pods.map encPd)),(12,.int .i64 (↑s.pods.length)),(13,.int .i64 (↑(i+1)))] (ζ1) (fun T hT=>(ih0 T hT)))
theorem count_any(s:St)(p:Pod)(d:List UInt8)(hp:s.pods.length≤1000)(hs:s.nodes.length<9223372036854775807)(hl:∀n∈s.nodes,n.labels.length<9223372036854775807):
 Gives cfg 156 [encSt s,encPd p,.str d] (.int .i64 (countS s p d)):=by
 refine Gives.run (l156 _ _) ?_
 have h:=cnt_loop s p d hp hs hl s.pods 0 rfl 0 (by omega) []
 rw[Nat.zero_add]at h
 unfold countS
 exact gG 60 [] trivial (.len (lM .sh encPd s.pods)<|.cutQ k156_0 [(3,.ptr 0 0),(4,.ptr 1 0),(5,.ptr 2 0),(7,.int .i64 0),(11,.sl .sh (s.pods.map encPd)),(12,.int .i64 (↑s.pods.length)),(13,.int .i64 0)] ({boxes:=[[.sl .sh (s.nodes.map encN),.sl .sh (s.pods.map encPd),.sl .sh (s.buds.map encB)],[.str p.name,.str p.owner,.int .i64 p.prio,.sl .sh (p.need.map encA),.sl .sh (p.labels.map encP),.sl .sh (p.sel.map encM),.sl .sh (p.tols.map encL),.str p.key,.int .i64 p.most,.str p.node,.bool p.hold],[.str d]],toks:=[],loops:=[]:Heap}) (fun T hT=>(h T hT)))
end Go.Aa.T
set_option linter.unusedVariables false
set_option linter.unusedSimpArgs false
set_option maxRecDepth 100000
namespace Go.Aa.T
open Go.Aa Go.Proofs
def valsOf(key:List UInt8)(l:List Node):List (List UInt8):=l.filterMap fun n=>getP n.labels key
def domsS(s:St)(key:List UInt8):List (List UInt8):=namesOf (valsOf key s.nodes)
theorem vals_len(key:List UInt8)(l:List Node):(valsOf key l).length≤l.length:=List.length_filterMap_le _ _
theorem dm_end(s:St)(acc:List (List UInt8))(B:List (List AV))(kk:Nat)(hB:acc=[]∨B[kk]?=some (acc.map .str))(hl:acc.length≤100000)(T:Env)(i:Nat)(hi:s.nodes.length≤i)
 (hT:Has T [(5,rM kk acc),(11,.sl .sh (s.nodes.map encN)),(12,.int .i64 s.nodes.length),(13,.int .i64 i)]):Goes cfg a157 k157_0 T ⟨B,[],[]⟩ (FinN acc):=by
 cases acc with
 |nil=>
  have h1:=(does_data sort_none [.sl .full []] rfl rfl rfl rfl ⟨B,[],[]⟩).2
  have h2:=(does_data compact_none [.sl .full []] rfl rfl rfl rfl ⟨B,[],[]⟩).2
  exact let ζ1:Heap:={boxes:=B,toks:=[],loops:=[]:Heap};gG 60 _ hT (.no (dF ((↑i:Int)<(↑s.nodes.length:Int)))<|.effY h1<|.effY h2<|.fin ((.ret (.sl .sh []),ζ1)) (by exact⟨_,rfl,rfl⟩))
 |cons x l=>
  have hk:B[kk]?=some ((x::l).map .str):=by simpa using hB
  have h1:=sort_does hk (by simp) (by omega)
  have hkl:kk<B.length:=(List.getElem?_eq_some_iff.1 hk).1
  obtain⟨m,C,h2,h3,h4,h5⟩:=compact_any kk (x::l).length B (by omega) hkl (isort (x::l)) (isort_length _) (by simp)
  rw[List.length_cons]at h1 h2 h5
  have hout:dataOut ⟨B.set kk (C.map .str),[],[]⟩ (.msl kk 0 m 1)=some (.sl .sh ((namesOf (x::l)).map .str)):=by
   have:=out_box1 (bs:=B.set kk (C.map .str)) (tk:=[]) (ls:=[]) (kk:=kk) (n:=m) (List.getElem?_set_self hkl) (by simpa using h4) (strs_data C)
   rw[this,←List.map_take,h3];rfl
  exact let ζ1:Heap:={boxes:=B.set kk (List.map .str (isort (x::l))),toks:=[],loops:=[]:Heap};let ζ2:Heap:={boxes:=B.set kk (List.map .str C),toks:=[],loops:=[]:Heap};gG 60 _ hT (.no (dF ((↑i:Int)<(↑s.nodes.length:Int)))<|.effY h1<|.effY h2<|.fin ((.ret (.msl kk (0:Nat) m (1:Nat)),ζ2)) (by exact⟨_,rfl,hout⟩))
theorem dm_loop(s:St)(key:List UInt8)(hs:s.nodes.length≤1000)(hl:∀n∈s.nodes,n.labels.length<9223372036854775807):∀(post:List Node)(i:Nat)(hd:s.nodes.drop i=post)(hi:i≤s.nodes.length)(acc:List (List UInt8))(B:List (List AV))(kk:Nat)(hB:acc=[]∨B[kk]?=some (acc.map .str))(hl:acc.length≤i)(T:Env)
 (hT:Has T [(1,.str key),(5,rM kk acc),(11,.sl .sh (s.nodes.map encN)),(12,.int .i64 s.nodes.length),(13,.int .i64 i)]),Goes cfg a157 k157_0 T ⟨B,[],[]⟩ (FinN (acc++valsOf key post)):=by
 intro post
 induction post with
 |nil=>
  intro i hd hi acc B kk hB hl T hT
  have hge:=drop_ge hd
  rw[show acc++valsOf key []=acc by simp[valsOf]]
  exact dm_end s acc B kk hB (by omega) T i hge hT.2
 |cons x post ih=>
  intro i hd hi acc B kk hB hl2 T hT
  have hlt:=drop_lt hd
  have hnx:=drop_next hd
  have hxi:idxA 5 (.sl .sh (s.nodes.map encN)) (.int .i64 (i:Nat))=some (.ref (encN x).cells):=idx_row (f:=encN) hd rfl
  have g:=get_any x.labels key (hl x (drop_mem hd))
  cases hv:getP x.labels key with
  |none=>
   rw[hv]at g
   have g:Gives cfg 200 [.sl .sh (x.labels.map encP),.str key] (.tuple [.str [],.bool false]):=g
   have g2:=fun H=>(does_data g [.sl .sh (x.labels.map encP),.str key] rfl rfl rfl rfl H).2
   have e:acc++valsOf key (x::post)=acc++valsOf key post:=by simp[valsOf,hv]
   rw[e]
   have hB':acc=[]∨(B++[(encN x).cells])[kk]?=some (acc.map .str):=by
    rcases hB with h|h
    ·exact .inl h
    ·exact .inr (by rw[List.getElem?_append_left (List.getElem?_eq_some_iff.1 h).1,h])
   have ih':=ih (i+1) hnx hlt acc (B++[(encN x).cells]) kk hB' (by omega)
   exact let ζ1:List AV:=[.str x.name,.sl .sh (x.cap.map encA),.sl .sh (x.labels.map encP),.sl .sh (x.taints.map encT),.bool x.cordon];let ζ2:Heap:={boxes:=B++[ζ1],toks:=[],loops:=[]:Heap};let ζ3:List AV:=[.str [],.sl .full [],.sl .full [],.sl .full [],.bool false];gG 120 _ hT (.yes (dT ((↑i:Int)<(↑s.nodes.length:Int)))<|.idx hxi<|.load (rfl:loadA true 5 {boxes:=B,toks:=[],loops:=[]:Heap} (.ref ζ1)=some (.agg ζ1))<|.store (show storeA 5 {boxes:=B++[ζ3],toks:=[],loops:=[]:Heap} (.ptr B.length (0:Nat)) (.agg ζ1)=some (ζ2)from store_box2 (cs:=ζ3) (cs':=ζ1) (by simp+zetaDelta) rfl (by simp+zetaDelta [List.set_append]))<|.load (lB false 1 ζ2 B.length 2 (.sl .sh (x.labels.map encP)) ζ1)<|.effY (show Does cfg (.callM (.c (.func (200:FuncId) [])) (List.map .c [.sl .sh (x.labels.map encP),.str key])) ζ2 (.tuple [.str [],.bool false]) ζ2 from g2 _)<|.ff<|.bin (iI i)<|.cutQ k157_0 [(1,.str key),(5,rM kk acc),(11,.sl .sh (s.nodes.map encN)),(12,.int .i64 (↑s.nodes.length)),(13,.int .i64 (↑(i+1)))] (ζ2) (fun T hT=>(ih' T hT)))
  |some v=>
   rw[hv]at g
   have g:Gives cfg 200 [.sl .sh (x.labels.map encP),.str key] (.tuple [.str v,.bool true]):=g
   have g2:=fun H=>(does_data g [.sl .sh (x.labels.map encP),.str key] rfl rfl rfl rfl H).2
   have e:acc++valsOf key (x::post)=(acc++[v])++valsOf key post:=by simp[valsOf,hv]
   rw[e]
   cases acc with
   |nil=>
    have ap:=does_newB (es:=1) (b:=16) (B:=B++[(encN x).cells]) (tk:=[]) (ls:=[]) (v:=.str v) (sk:=.full) rfl rfl (by omega)
    have ih':=ih (i+1) hnx hlt [v] (B++[(encN x).cells]++[[AV.str v]]) (B++[(encN x).cells]).length (.inr (by simp)) (by simp)
    exact let ζ1:List AV:=[.str x.name,.sl .sh (x.cap.map encA),.sl .sh (x.labels.map encP),.sl .sh (x.taints.map encT),.bool x.cordon];let ζ2:Heap:={boxes:=B++[ζ1],toks:=[],loops:=[]:Heap};let ζ3:List AV:=[.str [],.sl .full [],.sl .full [],.sl .full [],.bool false];gG 120 _ hT (.yes (dT ((↑i:Int)<(↑s.nodes.length:Int)))<|.idx hxi<|.load (rfl:loadA true 5 {boxes:=B,toks:=[],loops:=[]:Heap} (.ref ζ1)=some (.agg ζ1))<|.store (show storeA 5 {boxes:=B++[ζ3],toks:=[],loops:=[]:Heap} (.ptr B.length (0:Nat)) (.agg ζ1)=some (ζ2)from store_box2 (cs:=ζ3) (cs':=ζ1) (by simp+zetaDelta) rfl (by simp+zetaDelta [List.set_append]))<|.load (lB false 1 ζ2 B.length 2 (.sl .sh (x.labels.map encP)) ζ1)<|.effY (show Does cfg (.callM (.c (.func (200:FuncId) [])) (List.map .c [.sl .sh (x.labels.map encP),.str key])) ζ2 (.tuple [.str v,.bool true]) ζ2 from g2 _)<|.tt<|.effY ap<|.bin (iI i)<|.cutQ k157_0 [(1,.str key),(5,.msl (B++[ζ1]).length (0:Nat) (1:Nat) (1:Nat)),(11,.sl .sh (s.nodes.map encN)),(12,.int .i64 (↑s.nodes.length)),(13,.int .i64 (↑(i+1)))] ({boxes:=B++[ζ1]++[[AV.str v]],toks:=[],loops:=[]:Heap}) (fun T hT=>(ih' T hT)))
   |cons y l=>
    have hk:B[kk]?=some ((y::l).map .str):=by simpa using hB
    have hk2:(B++[(encN x).cells])[kk]?=some ((y::l).map .str):=by rw[List.getElem?_append_left (List.getElem?_eq_some_iff.1 hk).1,hk]
    have ap:=does_growB (es:=1) (b:=16) (n:=l.length+1) (tk:=[]) (ls:=[]) (v:=.str v) (sk:=.full) hk2 (by simp) (by omega) (strs_data _) rfl rfl (by simp at hl2;omega)
    obtain⟨D,hD⟩:∃D,D=(y::l).map AV.str++(AV.str v).cells:=⟨_,rfl⟩
    rw[←hD]at ap
    have ih':=ih (i+1) hnx hlt ((y::l)++[v]) ((B++[(encN x).cells]).set kk []++[D]) (B++[(encN x).cells]).length (.inr (by
     rw[List.getElem?_append_right (by simp),hD];simp[AV.cells])) (by simp at hl2⊢;omega)
    have er:rM (B++[(encN x).cells]).length ((y::l)++[v])=.msl (B++[(encN x).cells]).length 0 (l.length+1+1) 1:=by simp[rM]
    rw[er]at ih'
    exact let ζ1:List AV:=[.str x.name,.sl .sh (x.cap.map encA),.sl .sh (x.labels.map encP),.sl .sh (x.taints.map encT),.bool x.cordon];let ζ2:Heap:={boxes:=B++[ζ1],toks:=[],loops:=[]:Heap};let ζ3:Heap:={boxes:=(B++[(encN x).cells]).set kk []++[D],toks:=[],loops:=[]:Heap};let ζ4:List AV:=[.str [],.sl .full [],.sl .full [],.sl .full [],.bool false];gG 120 _ hT (.yes (dT ((↑i:Int)<(↑s.nodes.length:Int)))<|.idx hxi<|.load (rfl:loadA true 5 {boxes:=B,toks:=[],loops:=[]:Heap} (.ref ζ1)=some (.agg ζ1))<|.store (show storeA 5 {boxes:=B++[ζ4],toks:=[],loops:=[]:Heap} (.ptr B.length (0:Nat)) (.agg ζ1)=some (ζ2)from store_box2 (cs:=ζ4) (cs':=ζ1) (by simp+zetaDelta) rfl (by simp+zetaDelta [List.set_append]))<|.load (lB false 1 ζ2 B.length 2 (.sl .sh (x.labels.map encP)) ζ1)<|.effY (show Does cfg (.callM (.c (.func (200:FuncId) [])) (List.map .c [.sl .sh (x.labels.map encP),.str key])) ζ2 (.tuple [.str v,.bool true]) ζ2 from g2 _)<|.tt<|.effY ap<|.bin (iI i)<|.cutQ k157_0 [(1,.str key),(5,.msl (B++[ζ1]).length (0:Nat) (l.length+(1:Nat)+(1:Nat)) (1:Nat)),(11,.sl .sh (s.nodes.map encN)),(12,.int .i64 (↑s.nodes.length)),(13,.int .i64 (↑(i+1)))] (ζ3) (fun T hT=>(ih' T hT)))
theorem doms_any(s:St)(key:List UInt8)(hs:s.nodes.length≤1000)(hl:∀n∈s.nodes,n.labels.length<9223372036854775807):GivesF cfg 157 [encSt s,.str key] (.sl .sh ((domsS s key).map .str)):=by
 refine GivesF.run (l157 _ _) ?_
 have h:=dm_loop s key hs hl s.nodes 0 rfl (Nat.zero_le _) [] [(encSt s).cells] 0 (.inl rfl) (by simp)
 have h:∀T,Has T [(1,.str key),(5,.sl .full []),(11,.sl .sh (s.nodes.map encN)),(12,.int .i64 s.nodes.length),(13,.int .i64 (0:Nat))]→Goes cfg a157 k157_0 T ⟨[(encSt s).cells],[],[]⟩ (FinN (valsOf key s.nodes)):=h
 exact gG 60 [] trivial (.len (lM .sh encN s.nodes)<|.cutQ k157_0 [(1,.str key),(5,.sl .full []),(11,.sl .sh (s.nodes.map encN)),(12,.int .i64 (↑s.nodes.length)),(13,.int .i64 0)] ({boxes:=[[.sl .sh (s.nodes.map encN),.sl .sh (s.pods.map encPd),.sl .sh (s.buds.map encB)]],toks:=[],loops:=[]:Heap}) (fun T hT=>(h T hT)))
end Go.Aa.T
set_option linter.unusedVariables false
set_option linter.unusedSimpArgs false
set_option maxRecDepth 100000
namespace Go.Aa.T
open Go.Aa Go.Proofs
section
variable{H:Heap}{g:FuncId}{k:Nat}{p:Tol→Bool}
theorem idxL_loop(hd:∀y:Tol,Does cfg (.call (.c (.func g [.ptr k 0])) [.c (encL y)]) H (.bool (p y)) H)(l:List Tol)(hn:l.length<9223372036854775807):∀(post:List Tol)(i:Nat)(hdr:l.drop i=post)(T:Env)
 (hT:Has T [(0,.sl .sh (l.map encL)),(1,.func g [.ptr k 0]),(7,.int .i64 l.length),(8,.int .i64 i)]),
 Goes cfg a216 k216_0 T H (fun r=>r=(.ret (.int .i64 (fidxB p post i)),H)):=by
 intro post
 induction post with
 |nil=>
  intro i hdr T hT
  have hge:=drop_ge hdr
  exact gG 60 _ hT (.no (dF ((↑i:Int)<(↑l.length:Int)))<|.fin ((.ret (.int .i64 (-1:Int)),H)) rfl)
 |cons x post ih=>
  intro i hdr T hT
  have hlt:=drop_lt hdr
  have hnx:=drop_next hdr
  have hdx:=hd x
  cases hp:p x with
  |true=>
   rw[hp]at hdx
   have e:fidxB p (x::post) i=i:=by simp[fidxB,hp]
   rw[e]
   exact let ζ1:List AV:=[.str x.key,.str x.val,.bool x.any];gG 60 _ hT (.yes (dT ((↑i:Int)<(↑l.length:Int)))<|.idx (iR 3 encL hdr)<|.load (rfl:loadA true 3 H (.ref ζ1)=some (.agg ζ1))<|.effY hdx<|.tt<|.fin ((.ret (.int .i64 ↑i),H)) rfl)
  |false=>
   rw[hp]at hdx
   have e:fidxB p (x::post) i=fidxB p post (i+1):=by simp[fidxB,hp]
   rw[e]
   exact let ζ1:List AV:=[.str x.key,.str x.val,.bool x.any];gG 60 _ hT (.yes (dT ((↑i:Int)<(↑l.length:Int)))<|.idx (iR 3 encL hdr)<|.load (rfl:loadA true 3 H (.ref ζ1)=some (.agg ζ1))<|.effY hdx<|.ff<|.bin (iI i)<|.cutQ k216_0 [(0,.sl .sh (l.map encL)),(1,.func g [.ptr k (0:Nat)]),(7,.int .i64 (↑l.length)),(8,.int .i64 (↑(i+1)))] (H) (fun T hT=>(ih (i+(1:Nat)) hnx T hT)))
theorem idxL(hd:∀y:Tol,Does cfg (.call (.c (.func g [.ptr k 0])) [.c (encL y)]) H (.bool (p y)) H)(l:List Tol)(hn:l.length<9223372036854775807):
 lim cfg (.fn 216) [.sl .sh (l.map encL),.func g [.ptr k 0]] H=some (.ret (.int .i64 (fidxB p l 0)),H):=by
 rw[l216]
 have h:=idxL_loop hd l hn l 0 rfl
 have key:Goes cfg a216 [.c c216] (initEnv [.sl .sh (l.map encL),.func g [.ptr k 0]]) H (fun r=>r=(.ret (.int .i64 (fidxB p l 0)),H)):=by
  exact gG 60 [] trivial (.len (lM .sh encL l)<|.cutQ k216_0 [(0,.sl .sh (l.map encL)),(1,.func g [.ptr k (0:Nat)]),(7,.int .i64 (↑l.length)),(8,.int .i64 0)] (H) (fun T hT=>(h T hT)))
 obtain⟨r,h,rfl⟩:=key
 exact h
end
theorem bears_one(t:Taint)(y:Tol):Does cfg (.call (.c (.func 202 [.ptr 0 0])) [.c (encL y)]) ⟨[t.cells],[],[]⟩ (.bool (one1 y t)) ⟨[t.cells],[],[]⟩:=by
 have key:Goes cfg a202 [.c c202] (initEnv [encL y,.ptr 0 0]) ⟨[t.cells],[],[]⟩ (fun r=>r=(.ret (.bool (one1 y t)),⟨[t.cells]++[(encL y).cells],[],[]⟩)):=by
  by_cases h1:y.key=[]
  ·by_cases h2:y.any=true
   ·have e:one1 y t=true:=by simp[one1,h1,h2]
    rw[e]
    exact gG 60 [] trivial (.yes (show(y.key==[])=true from(by simpa using h1))<|.tt<|.yes (show(y.any)=true from(by simpa using h2))<|.fin ((.ret (.bool true),{boxes:=[[.str t.key,.str t.val,.bool t.hard],[.str y.key,.str y.val,.bool y.any]],toks:=[],loops:=[]:Heap})) rfl)
   ·have e:one1 y t=(y.val==t.val):=by simp[one1,h1,h2]
    rw[e]
    exact gG 60 [] trivial (.yes (show(y.key==[])=true from(by simpa using h1))<|.tt<|.no (show(y.any)=false from Bool.eq_false_iff.2 (by simpa using h2))<|.fin ((.ret (.bool (y.val==t.val)),{boxes:=[[.str t.key,.str t.val,.bool t.hard],[.str y.key,.str y.val,.bool y.any]],toks:=[],loops:=[]:Heap})) rfl)
  ·by_cases h3:y.key=t.key
   ·by_cases h2:y.any=true
    ·have e:one1 y t=true:=by simp[one1,h3,h2]
     rw[e]
     exact gG 60 [] trivial (.no (show(y.key==[])=false from Bool.eq_false_iff.2 (by simpa using h1))<|.yes (show(y.key==t.key)=true from(by simpa using h3))<|.yes (show(y.any)=true from(by simpa using h2))<|.fin ((.ret (.bool true),{boxes:=[[.str t.key,.str t.val,.bool t.hard],[.str y.key,.str y.val,.bool y.any]],toks:=[],loops:=[]:Heap})) rfl)
    ·have e:one1 y t=(y.val==t.val):=by simp[one1,h3,h2]
     rw[e]
     exact gG 60 [] trivial (.no (show(y.key==[])=false from Bool.eq_false_iff.2 (by simpa using h1))<|.yes (show(y.key==t.key)=true from(by simpa using h3))<|.no (show(y.any)=false from Bool.eq_false_iff.2 (by simpa using h2))<|.fin ((.ret (.bool (y.val==t.val)),{boxes:=[[.str t.key,.str t.val,.bool t.hard],[.str y.key,.str y.val,.bool y.any]],toks:=[],loops:=[]:Heap})) rfl)
   ·have e:one1 y t=false:=by simp[one1,h1,h3]
    rw[e]
    exact gG 60 [] trivial (.no (show(y.key==[])=false from Bool.eq_false_iff.2 (by simpa using h1))<|.no (show(y.key==t.key)=false from Bool.eq_false_iff.2 (by simpa using h3))<|.fin ((.ret (.bool false),{boxes:=[[.str t.key,.str t.val,.bool t.hard],[.str y.key,.str y.val,.bool y.any]],toks:=[],loops:=[]:Heap})) rfl)
 obtain⟨r,h,rfl⟩:=key
 have h2:lim cfg (.fn 202) ([encL y]++[.ptr 0 0]) ⟨[t.cells],[],[]⟩=some (.ret (.bool (one1 y t)),⟨[t.cells]++[(encL y).cells],[],[]⟩):=by
  rw[l202];exact h
 have hd:=does_callE h2 rfl rfl
 rwa [show shutA (.bool (one1 y t))=.bool (one1 y t)from rfl,trunc_plain (bs:=[t.cells]) (ex:=[(encL y).cells]) (ts:=[]) rfl]at hd
def bearsB(l:List Tol)(t:Taint):Bool:=l.any fun y=>one1 y t
theorem bears_has(l:List Tol)(t:Taint)(hl:l.length<9223372036854775807):lim cfg (.fn 201) [.sl .sh (l.map encL),.func 202 [.ptr 0 0]] ⟨[t.cells],[],[]⟩=some (.ret (.bool (bearsB l t)),⟨[t.cells],[],[]⟩):=by
 rw[l201]
 have h0:=does_callE (xs:=[.sl .sh (l.map encL),.func 202 [.ptr 0 0]]) (caps:=[]) (idxL (g:=202) (k:=0) (bears_one t) l hl) rfl rfl
 rw[show shutA (.int .i64 (fidxB (fun y:Tol=>one1 y t) l 0))=.int .i64 (fidxB (fun y:Tol=>one1 y t) l 0)from rfl,
  show trunc (⟨[t.cells],[],[]⟩:Heap).boxes.length (⟨[t.cells],[],[]⟩:Heap).toks.length (.int .i64 (fidxB (fun y:Tol=>one1 y t) l 0)) ⟨[t.cells],[],[]⟩=⟨[t.cells],[],[]⟩from rfl]at h0
 have hf:decide (0≤fidxB (fun y:Tol=>one1 y t) l 0)=bearsB l t:=fidxB_ge (fun y:Tol=>one1 y t) l 0
 generalize fidxB (fun y:Tol=>one1 y t) l 0=c at h0 hf
 have key:Goes cfg a201 [.c c201] (initEnv [.sl .sh (l.map encL),.func 202 [.ptr 0 0]]) ⟨[t.cells],[],[]⟩ (fun r=>r=(.ret (.bool (bearsB l t)),⟨[t.cells],[],[]⟩)):=by
  exact let ζ1:Heap:={boxes:=[t.cells],toks:=[],loops:=[]:Heap};gG 60 [] trivial (.effY h0<|.fin ((.ret (.bool (decide ((0:Int)≤c))),{boxes:=[[.str t.key,.str t.val,.bool t.hard]],toks:=[],loops:=[]:Heap})) (by simp+zetaDelta [←hf,Taint.cells]))
 obtain⟨r,h,rfl⟩:=key
 exact h
theorem bears_any(l:List Tol)(t:Taint)(hl:l.length<9223372036854775807):Gives cfg 153 [.sl .sh (l.map encL),encT t] (.bool (bearsB l t)):=by
 refine Gives.run (l153 _ _) ?_
 have h0:=does_callE (xs:=[.sl .sh (l.map encL),.func 202 [.ptr 0 0]]) (caps:=[]) (bears_has l t hl) rfl rfl
 generalize bearsB l t=b at h0⊢
 rw[show trunc (⟨[t.cells],[],[]⟩:Heap).boxes.length (⟨[t.cells],[],[]⟩:Heap).toks.length (shutA (.bool b)) ⟨[t.cells],[],[]⟩=⟨[t.cells],[],[]⟩from rfl,show shutA (.bool b)=.bool b from rfl]at h0
 exact let ζ1:Heap:={boxes:=[t.cells],toks:=[],loops:=[]:Heap};gG 60 [] trivial (.effY h0<|.fin ((.ret (.bool b),{boxes:=[[.str t.key,.str t.val,.bool t.hard]],toks:=[],loops:=[]:Heap})) rfl)
def worstB(l:List Tol)(t:List Taint):Option Taint:=t.find? fun x=>x.hard&& !bearsB l x
theorem worst_loop(l:List Tol)(t:List Taint)(hl:l.length<9223372036854775807)(hn:t.length<9223372036854775807):∀(post:List Taint)(i:Nat)(bs:List (List AV))(hd:t.drop i=post)(T:Env)
 (hT:Has T [(0,.sl .sh (l.map encL)),(4,.ptr 0 0),(8,.sl .sh (t.map encT)),(9,.int .i64 t.length),(10,.int .i64 i)]),
 Goes cfg a82 k82_0 T ⟨[.str [],.str [],.bool false]::bs,[],[]⟩ (IsRet (worstV (worstB l post))):=by
 intro post
 induction post with
 |nil=>
  intro i bs hd T hT
  have hge:=drop_ge hd
  exact let ζ1:Heap:={boxes:=[.str [],.str [],.bool false]::bs,toks:=[],loops:=[]:Heap};gG 60 _ hT (.no (dF ((↑i:Int)<(↑t.length:Int)))<|.store (show storeA 3 ζ1 (.ptr 0 0) (.agg [.str [],.str [],.bool false])=some (ζ1)from store_box2 (cs:=[.str [],.str [],.bool false]) (cs':=[.str [],.str [],.bool false]) (by simp+zetaDelta) rfl (by simp+zetaDelta [List.set_append]))<|.fin ((.ret (.tuple [.agg [.str [],.str [],.bool false],.bool false]),ζ1)) rfl)
 |cons x post ih=>
  intro i bs hd T hT
  have hlt:=drop_lt hd
  have hnx:=drop_next hd
  have hb:=bears_any l x hl
  have ih':=ih (i+1) (bs++[x.cells]) hnx
  cases hh:x.hard with
  |false=>
   have e:worstB l (x::post)=worstB l post:=by simp[worstB,List.find?_cons,hh]
   rw[e]
   exact let ζ1:List AV:=[.str x.key,.str x.val,.bool x.hard];let ζ2:Heap:={boxes:=[.str [],.str [],.bool false]::(bs++[ζ1]),toks:=[],loops:=[]:Heap};gG 90 _ hT (.yes (dT ((↑i:Int)<(↑t.length:Int)))<|.idx (iR 3 encT hd)<|.load (rfl:loadA true 3 {boxes:=[.str [],.str [],.bool false]::bs,toks:=[],loops:=[]:Heap} (.ref ζ1)=some (.agg ζ1))<|.store (show storeA 3 {boxes:=[.str [],.str [],.bool false]::(bs++[[AV.str [],.str [],.bool false]]),toks:=[],loops:=[]:Heap} (.ptr ([.str [],.str [],.bool false]::bs).length (0:Nat)) (.agg ζ1)=some (ζ2)from store_box2 (cs:=[.str [],.str [],.bool false]) (cs':=ζ1) (by simp+zetaDelta) rfl (by simp+zetaDelta [List.set_append]))<|.load (show loadA false 1 ζ2 (.ptr ([.str [],.str [],.bool false]::bs).length (2:Nat))=some (.bool x.hard)from load_box (cs:=ζ1) (by simp+zetaDelta) rfl)<|.no (show(x.hard)=false from Bool.eq_false_iff.2 (by simp+zetaDelta [hh]))<|.ff<|.bin (iI i)<|.cutQ k82_0 [(0,.sl .sh (l.map encL)),(4,.ptr 0 0),(8,.sl .sh (t.map encT)),(9,.int .i64 (↑t.length)),(10,.int .i64 (↑(i+1)))] (ζ2) (fun T hT=>(ih' T hT)))
  |true=>
   cases hbb:bearsB l x with
   |true=>
    rw[hbb]at hb
    have e:worstB l (x::post)=worstB l post:=by simp[worstB,List.find?_cons,hh,hbb]
    rw[e]
    exact let ζ1:List AV:=[.str x.key,.str x.val,.bool x.hard];let ζ2:Heap:={boxes:=[.str [],.str [],.bool false]::(bs++[ζ1]),toks:=[],loops:=[]:Heap};gG 90 _ hT (.yes (dT ((↑i:Int)<(↑t.length:Int)))<|.idx (iR 3 encT hd)<|.load (rfl:loadA true 3 {boxes:=[.str [],.str [],.bool false]::bs,toks:=[],loops:=[]:Heap} (.ref ζ1)=some (.agg ζ1))<|.store (show storeA 3 {boxes:=[.str [],.str [],.bool false]::(bs++[[AV.str [],.str [],.bool false]]),toks:=[],loops:=[]:Heap} (.ptr ([.str [],.str [],.bool false]::bs).length (0:Nat)) (.agg ζ1)=some (ζ2)from store_box2 (cs:=[.str [],.str [],.bool false]) (cs':=ζ1) (by simp+zetaDelta) rfl (by simp+zetaDelta [List.set_append]))<|.load (show loadA false 1 ζ2 (.ptr ([.str [],.str [],.bool false]::bs).length (2:Nat))=some (.bool x.hard)from load_box (cs:=ζ1) (by simp+zetaDelta) rfl)<|.yes (show(x.hard)=true from(by omega))<|.load (show loadA true 3 ζ2 (.ptr ([.str [],.str [],.bool false]::bs).length (0:Nat))=some (.agg ζ1)from load_box (cs:=ζ1) (by simp+zetaDelta) rfl)<|.callI hb<|.ff<|.bin (iI i)<|.cutQ k82_0 [(0,.sl .sh (l.map encL)),(4,.ptr 0 0),(8,.sl .sh (t.map encT)),(9,.int .i64 (↑t.length)),(10,.int .i64 (↑(i+1)))] (ζ2) (fun T hT=>(ih' T hT)))
   |false=>
    rw[hbb]at hb
    have e:worstB l (x::post)=some x:=by simp[worstB,List.find?_cons,hh,hbb]
    rw[e]
    exact let ζ1:List AV:=[.str x.key,.str x.val,.bool x.hard];let ζ2:Heap:={boxes:=[.str [],.str [],.bool false]::(bs++[ζ1]),toks:=[],loops:=[]:Heap};let ζ3:Heap:={boxes:=ζ1::(bs++[ζ1]),toks:=[],loops:=[]:Heap};gG 90 _ hT (.yes (dT ((↑i:Int)<(↑t.length:Int)))<|.idx (iR 3 encT hd)<|.load (rfl:loadA true 3 {boxes:=[.str [],.str [],.bool false]::bs,toks:=[],loops:=[]:Heap} (.ref ζ1)=some (.agg ζ1))<|.store (show storeA 3 {boxes:=[.str [],.str [],.bool false]::(bs++[[AV.str [],.str [],.bool false]]),toks:=[],loops:=[]:Heap} (.ptr ([.str [],.str [],.bool false]::bs).length (0:Nat)) (.agg ζ1)=some (ζ2)from store_box2 (cs:=[.str [],.str [],.bool false]) (cs':=ζ1) (by simp+zetaDelta) rfl (by simp+zetaDelta [List.set_append]))<|.load (show loadA false 1 ζ2 (.ptr ([.str [],.str [],.bool false]::bs).length (2:Nat))=some (.bool x.hard)from load_box (cs:=ζ1) (by simp+zetaDelta) rfl)<|.yes (show(x.hard)=true from(by omega))<|.load (show loadA true 3 ζ2 (.ptr ([.str [],.str [],.bool false]::bs).length (0:Nat))=some (.agg ζ1)from load_box (cs:=ζ1) (by simp+zetaDelta) rfl)<|.callI hb<|.tt<|.load (show loadA true 3 ζ2 (.ptr ([.str [],.str [],.bool false]::bs).length (0:Nat))=some (.agg ζ1)from load_box (cs:=ζ1) (by simp+zetaDelta) rfl)<|.store (show storeA 3 ζ2 (.ptr 0 0) (.agg ζ1)=some (ζ3)from store_box2 (cs:=[.str [],.str [],.bool false]) (cs':=ζ1) (by simp+zetaDelta) rfl (by simp+zetaDelta [List.set_append]))<|.fin ((.ret (.tuple [.agg ζ1,.bool true]),ζ3)) rfl)
theorem worst_any(l:List Tol)(t:List Taint)(hl:l.length<9223372036854775807)(hn:t.length<9223372036854775807):Gives cfg 82 [.sl .sh (l.map encL),.sl .sh (t.map encT)] (worstV (worstB l t)):=by
 refine Gives.run (l82 _ _) ?_
 have h:=worst_loop l t hl hn t 0 [] rfl
 exact gG 60 [] trivial (.len (lM .sh encT t)<|.cutQ k82_0 [(0,.sl .sh (l.map encL)),(4,.ptr 0 0),(8,.sl .sh (t.map encT)),(9,.int .i64 (↑t.length)),(10,.int .i64 0)] ({boxes:=[[.str [],.str [],.bool false]],toks:=[],loops:=[]:Heap}) (fun T hT=>(h T hT)))
end Go.Aa.T
