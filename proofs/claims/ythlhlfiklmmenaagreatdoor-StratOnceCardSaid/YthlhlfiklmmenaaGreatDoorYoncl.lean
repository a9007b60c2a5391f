/-
  WHAT THE LAW LEANS ON, part 12 of 14: a machine of values and its soundness; the functions of the law upon it; what they come to.
-/
import Derived.Test.YthlhlfiklmmenaaGreatDoorYonck
set_option linter.unusedVariables false
set_option linter.unusedSimpArgs false
set_option maxRecDepth 100000
namespace Go.Aa.T
open Go.Aa Go.Proofs
def domS(s:St)(nm key:List UInt8):Option (List UInt8):=match findG Node.name s.nodes nm with
 |none=>none
 |some n=>getP n.labels key
theorem dom_some(s:St)(nm key v:List UInt8)(hs:s.nodes.length<9223372036854775807)(hl:∀n∈s.nodes,n.labels.length<9223372036854775807)(h:domS s nm key=some v):Gives cfg 159 [encSt s,.str nm,.str key] (.str v):=by
 refine Gives.run (l159 _ _) ?_
 have f:=findN_any s.nodes nm hs
 unfold domS at h
 cases hf:findG Node.name s.nodes nm with
 |none=>rw[hf]at h;cases h
 |some n=>
  rw[hf]at f h
  have g:=get_any n.labels key (hl n (findG_mem hf))
  simp only at h
  rw[h]at g
  have g:Gives cfg 223 [.sl .sh (n.labels.map encP),.str key] (.tuple [.str v,.bool true]):=g
  exact let ζ1:List AV:=[.str n.name,.sl .sh (n.cap.map encA),.sl .sh (n.labels.map encP),.sl .sh (n.taints.map encT),.bool n.cordon];let ζ2:List AV:=[.sl .sh (n.labels.map encP),.str key];let ζ3:List AV:=[.sl .sh (s.nodes.map encN),.str nm];gG 90 [] trivial (.callK (ζ3) (.tuple [.agg ζ1,.bool true]) f<|.callK (ζ2) (.tuple [.str v,.bool true]) g<|.ff<|.fin ((.ret (.str v),{boxes:=[[.sl .sh (s.nodes.map encN),.sl .sh (s.pods.map encPd),.sl .sh (s.buds.map encB)],ζ1],toks:=[],loops:=[]:Heap})) rfl)
theorem dom_none(s:St)(nm key:List UInt8)(hs:s.nodes.length<9223372036854775807)(hl:∀n∈s.nodes,n.labels.length<9223372036854775807)(h:domS s nm key=none):Pans cfg 159 [encSt s,.str nm,.str key] (stopV 10):=by
 refine Pans.run (l159 _ _) ?_
 have f:=findN_any s.nodes nm hs
 have m10:Pans cfg 68 [.int .i64 10] (stopV 10):=stop_pan (by decide)
 unfold domS at h
 cases hf:findG Node.name s.nodes nm with
 |none=>
  rw[hf]at f
  have g:Gives cfg 223 [.sl .sh [],.str key] (.tuple [.str [],.bool false]):=get_any [] key (by simp)
  exact let ζ1:List AV:=[.str [],.sl .sh [],.sl .sh [],.sl .sh [],.bool false];let ζ2:List AV:=[.sl .sh (s.nodes.map encN),.str nm];gG 90 [] trivial (.callK (ζ2) (.tuple [.agg ζ1,.bool false]) f<|.callK ([.sl .sh [],.str key]) (.tuple [.str [],.bool false]) g<|.tt<|.callP ([.int .i64 10]) ({boxes:=[[.sl .sh (s.nodes.map encN),.sl .sh (s.pods.map encPd),.sl .sh (s.buds.map encB)],ζ1],toks:=[],loops:=[]:Heap}) m10 ⟨rfl,rfl⟩ rfl rfl)
 |some n=>
  rw[hf]at f h
  have g:=get_any n.labels key (hl n (findG_mem hf))
  simp only at h
  rw[h]at g
  have g:Gives cfg 223 [.sl .sh (n.labels.map encP),.str key] (.tuple [.str [],.bool false]):=g
  exact let ζ1:List AV:=[.str n.name,.sl .sh (n.cap.map encA),.sl .sh (n.labels.map encP),.sl .sh (n.taints.map encT),.bool n.cordon];let ζ2:List AV:=[.sl .sh (n.labels.map encP),.str key];let ζ3:List AV:=[.sl .sh (s.nodes.map encN),.str nm];gG 90 [] trivial (.callK (ζ3) (.tuple [.agg ζ1,.bool true]) f<|.callK (ζ2) (.tuple [.str [],.bool false]) g<|.tt<|.callP ([.int .i64 10]) ({boxes:=[[.sl .sh (s.nodes.map encN),.sl .sh (s.pods.map encPd),.sl .sh (s.buds.map encB)],ζ1],toks:=[],loops:=[]:Heap}) m10 ⟨rfl,rfl⟩ rfl rfl)
def ChkH(e:Int)(H:Heap)(r:ARes×Heap):Prop:=(e=0∧r=(.ret (.tuple []),H))∨(e≠0∧r=(.pan (stopV e),H))
theorem cnt_yes(s:St)(p x:Pod)(d v:List UInt8)(ex:List (List AV))(hs:s.nodes.length<9223372036854775807)(hl:∀n∈s.nodes,n.labels.length<9223372036854775807)(h:domS s x.node p.key=some v):
 Goes cfg a226 [.c c226] (initEnv [.ptr 0 0,.ptr (ex.length+3) 0,.ptr 1 0,.ptr 2 0]) ⟨(encSt s).cells::(encPd p).cells::[.str d]::(ex++[(encPd x).cells]),[],[]⟩ (ChkH (if v=d then 0 else 10) ⟨(encSt s).cells::(encPd p).cells::[.str d]::(ex++[(encPd x).cells]),[],[]⟩):=by
 have hd:=dom_some s x.node p.key v hs hl h
 have m10:Pans cfg 68 [.int .i64 10] (stopV 10):=stop_pan (by decide)
 by_cases hv:v=d
 ·subst hv
  rw[if_pos rfl]
  exact let ζ2:List AV:=[.sl .sh (s.nodes.map encN),.sl .sh (s.pods.map encPd),.sl .sh (s.buds.map encB)];let ζ1:Heap:={boxes:=ζ2::[.str p.name,.str p.owner,.int .i64 p.prio,.sl .sh (p.need.map encA),.sl .sh (p.labels.map encP),.sl .sh (p.sel.map encM),.sl .sh (p.tols.map encL),.str p.key,.int .i64 p.most,.str p.node,.bool p.hold]::[.str v]::(ex++[[AV.str x.name,.str x.owner,.int .i64 x.prio,.sl .sh (x.need.map encA),.sl .sh (x.labels.map encP),.sl .sh (x.sel.map encM),.sl .sh (x.tols.map encL),.str x.key,.int .i64 x.most,.str x.node,.bool x.hold]]),toks:=[],loops:=[]:Heap};gG 90 [] trivial (.load (lB true 3 ζ1 0 0 (.agg ζ2) ζ2)<|.load (lB false 1 ζ1 (ex.length+3) 9 (.str x.node) [.str x.name,.str x.owner,.int .i64 x.prio,.sl .sh (x.need.map encA),.sl .sh (x.labels.map encP),.sl .sh (x.sel.map encM),.sl .sh (x.tols.map encL),.str x.key,.int .i64 x.most,.str x.node,.bool x.hold])<|.load (lB false 1 ζ1 1 7 (.str p.key) [.str p.name,.str p.owner,.int .i64 p.prio,.sl .sh (p.need.map encA),.sl .sh (p.labels.map encP),.sl .sh (p.sel.map encM),.sl .sh (p.tols.map encL),.str p.key,.int .i64 p.most,.str p.node,.bool p.hold])<|.callK ([.agg ζ2,.str x.node,.str p.key]) (.str v) hd<|.load (lB false 1 ζ1 2 0 (.str v) [.str v])<|.no (show(!v==v)=false from by have hh:(v==v)=true:=(by simp+zetaDelta);simp[hh])<|.fin ((.ret (.tuple []),ζ1)) (by exact .inl ⟨rfl,rfl⟩))
 ·rw[if_neg hv]
  exact let ζ2:List AV:=[.sl .sh (s.nodes.map encN),.sl .sh (s.pods.map encPd),.sl .sh (s.buds.map encB)];let ζ1:Heap:={boxes:=ζ2::[.str p.name,.str p.owner,.int .i64 p.prio,.sl .sh (p.need.map encA),.sl .sh (p.labels.map encP),.sl .sh (p.sel.map encM),.sl .sh (p.tols.map encL),.str p.key,.int .i64 p.most,.str p.node,.bool p.hold]::[.str d]::(ex++[[AV.str x.name,.str x.owner,.int .i64 x.prio,.sl .sh (x.need.map encA),.sl .sh (x.labels.map encP),.sl .sh (x.sel.map encM),.sl .sh (x.tols.map encL),.str x.key,.int .i64 x.most,.str x.node,.bool x.hold]]),toks:=[],loops:=[]:Heap};gG 90 [] trivial (.load (lB true 3 ζ1 0 0 (.agg ζ2) ζ2)<|.load (lB false 1 ζ1 (ex.length+3) 9 (.str x.node) [.str x.name,.str x.owner,.int .i64 x.prio,.sl .sh (x.need.map encA),.sl .sh (x.labels.map encP),.sl .sh (x.sel.map encM),.sl .sh (x.tols.map encL),.str x.key,.int .i64 x.most,.str x.node,.bool x.hold])<|.load (lB false 1 ζ1 1 7 (.str p.key) [.str p.name,.str p.owner,.int .i64 p.prio,.sl .sh (p.need.map encA),.sl .sh (p.labels.map encP),.sl .sh (p.sel.map encM),.sl .sh (p.tols.map encL),.str p.key,.int .i64 p.most,.str p.node,.bool p.hold])<|.callK ([.agg ζ2,.str x.node,.str p.key]) (.str v) hd<|.load (lB false 1 ζ1 2 0 (.str d) [.str d])<|.yes (show(!v==d)=true from by have hh:¬((v==d)=true):=(by simpa using hv);simp[hh])<|.callP ([.int .i64 10]) (ζ1) m10 ⟨rfl,rfl⟩ rfl (by exact .inr ⟨by decide,rfl⟩))
def ops203:List AOper:=[⟨some 4,.load true 3 (.t 0),none,[]⟩,⟨some 5,.fld 9 1 (.t 1),none,[]⟩,⟨some 6,.load false 1 (.t 5),none,[1]⟩,⟨some 7,.fld 7 1 (.t 2),none,[]⟩,⟨some 8,.load false 1 (.t 7),none,[3]⟩,⟨some 9,.call (.c (.func 159 [])) [(.t 4),(.t 6),(.t 8)],none,[3,4,1,2,0]⟩,⟨some 10,.load false 1 (.t 3),none,[]⟩,⟨some 11,.bin .neq (.t 9) (.t 10),none,[6,0,2,1,4,3,5]⟩]
theorem cnt_reg(s:St)(p x:Pod)(d:List UInt8)(ex:List (List AV))(hs:s.nodes.length<9223372036854775807)(hl:∀n∈s.nodes,n.labels.length<9223372036854775807)(h:domS s x.node p.key=none)(T:Env)(t0:T 0=.ptr 0 0)(t1:T 1=.ptr (ex.length+3) 0)(t2:T 2=.ptr 1 0)(t3:T 3=.ptr 2 0):
 regionA (lim cfg) true ops203 T ⟨(encSt s).cells::(encPd p).cells::[.str d]::(ex++[(encPd x).cells]),[],[]⟩=
 some (.pan (stopV 10) ⟨(encSt s).cells::(encPd p).cells::[.str d]::(ex++[(encPd x).cells]),[],[]⟩):=by
 have hb:(⟨(encSt s).cells::(encPd p).cells::[.str d]::(ex++[(encPd x).cells]),[],[]⟩:Heap).boxes[ex.length+3]?=some (encPd x).cells:=by
  show((encSt s).cells::(encPd p).cells::[.str d]::(ex++[(encPd x).cells]))[ex.length+3]?=_
  rw[List.getElem?_cons_succ,List.getElem?_cons_succ,List.getElem?_cons_succ,List.getElem?_append_right (Nat.le_refl _),Nat.sub_self];rfl
 have hp:=dom_none s x.node p.key hs hl h
 have m2:=fun T H=>pansD (xs:=[encSt s,.str x.node,.str p.key]) hp ⟨rfl,rfl⟩ rfl H T
 have l1:=fun T=>load_any (H:=⟨(encSt s).cells::(encPd p).cells::[.str d]::(ex++[(encPd x).cells]),[],[]⟩) (k:=0) (agg:=true) (n:=3) (off:=0) (v:=encSt s) (cs:=(encSt s).cells) rfl rfl T
 have l2:=fun T=>load_any (agg:=false) (n:=1) (off:=9) (v:=.str x.node) hb rfl T
 have l3:=fun T=>load_any (H:=⟨(encSt s).cells::(encPd p).cells::[.str d]::(ex++[(encPd x).cells]),[],[]⟩) (k:=1) (agg:=false) (n:=1) (off:=7) (v:=.str p.key) (cs:=(encPd p).cells) rfl rfl T
 have l4:=fun T=>load_any (H:=⟨(encSt s).cells::(encPd p).cells::[.str d]::(ex++[(encPd x).cells]),[],[]⟩) (k:=2) (agg:=false) (n:=1) (off:=0) (v:=.str d) (cs:=[.str d]) rfl rfl T
 generalize(⟨(encSt s).cells::(encPd p).cells::[.str d]::(ex++[(encPd x).cells]),[],[]⟩:Heap)=H at l1 l2 l3 l4⊢
 have st:∀(T:Env)(o:AOp)(q:AOp)(r:Option Out),clOp T o=q→opStepD (lim cfg) q T H=r→opStepD (lim cfg) o T H=r:=fun T o q r h1 h2=>by
  rw[←cl_stepD _ T T,h1];exact h2
 change runD (lim cfg) 0 ops203 none T H=_
 unfold ops203
 refine Eq.trans (runD_val (u:=encSt s) (H':=H) rfl ?h) ?_
 case h=>exact st _ _ _ _ (by simp only[clOp,cl,ev,t0]) (l1 _)
 refine Eq.trans (runD_val (u:=.ptr (ex.length+3) 9) (H':=H) rfl ?h) ?_
 case h=>simp[opStepD,opStep,pureOp,ev,setD,upd_eq,t1,fldA]
 refine Eq.trans (runD_val (u:=.str x.node) (H':=H) rfl ?h) ?_
 case h=>exact st _ _ _ _ (by simp[clOp,cl,ev,setD,upd_eq]) (l2 _)
 refine Eq.trans (runD_val (u:=.ptr 1 7) (H':=H) rfl ?h) ?_
 case h=>simp[opStepD,opStep,pureOp,ev,setD,upd_eq,t2,fldA]
 refine Eq.trans (runD_val (u:=.str p.key) (H':=H) rfl ?h) ?_
 case h=>exact st _ _ _ _ (by simp[clOp,cl,ev,setD,upd_eq]) (l3 _)
 refine Eq.trans (runD_pan (v:=stopV 10) (H':=H) rfl ?h) ?_
 case h=>exact st _ _ _ _ (by simp[clOp,cl,ev,setD,upd_eq]) (m2 _ _)
 refine Eq.trans (runD_look (u:=.str d) (H':=H) rfl rfl ?h) ?_
 case h=>exact st _ _ _ _ (by simp[clOp,cl,ev,setD,upd_eq,t3]) (l4 _)
 refine Eq.trans (runD_skip rfl) ?_
 rfl
theorem cnt_no(s:St)(p x:Pod)(d:List UInt8)(ex:List (List AV))(hs:s.nodes.length<9223372036854775807)(hl:∀n∈s.nodes,n.labels.length<9223372036854775807)(h:domS s x.node p.key=none):
 Goes cfg a226 [.c c226] (initEnv [.ptr 0 0,.ptr (ex.length+3) 0,.ptr 1 0,.ptr 2 0]) ⟨(encSt s).cells::(encPd p).cells::[.str d]::(ex++[(encPd x).cells]),[],[]⟩ (ChkH 10 ⟨(encSt s).cells::(encPd p).cells::[.str d]::(ex++[(encPd x).cells]),[],[]⟩):=by
 have r:=cnt_reg s p x d ex hs hl h (initEnv [.ptr 0 0,.ptr (ex.length+3) 0,.ptr 1 0,.ptr 2 0]) rfl rfl rfl rfl
 refine⟨_,?_,.inr ⟨by decide,rfl⟩⟩
 unfold c226
 rw[runL_seq]
 erw [runL_region]
 change(match regionA (lim cfg) true ops203 _ _ with|some (.env T' H')=>_|some (.pan v H')=>_|none=>_)=_
 rw[r]
def standB(s:St)(p:Pod)(d:List UInt8)(x:Pod):Bool:= !(p.owner==[]|| !(x.owner==p.owner)||x.hold||x.name==p.name||x.node==[])&&domS s x.node p.key==some d
def countS(s:St)(p:Pod)(d:List UInt8):Nat:=(s.pods.filter (standB s p d)).length
theorem cnt_try(s:St)(p x:Pod)(d:List UInt8)(ex:List (List AV))(hs:s.nodes.length<9223372036854775807)(hl:∀n∈s.nodes,n.labels.length<9223372036854775807):
 Does cfg (.call (.c (.func 66 [])) [.c (.func 226 [.ptr 0 0,.ptr (ex.length+3) 0,.ptr 1 0,.ptr 2 0])]) ⟨(encSt s).cells::(encPd p).cells::[.str d]::(ex++[(encPd x).cells]),[],[]⟩
  (.int .i64 (if domS s x.node p.key=some d then 0 else 10)) ⟨(encSt s).cells::(encPd p).cells::[.str d]::(ex++[(encPd x).cells]),[],[]⟩:=by
 obtain⟨e,he,r,hr,hR⟩:∃e,(if domS s x.node p.key=some d then(0:Int)else 10)=e∧Goes cfg a226 [.c c226] (initEnv [.ptr 0 0,.ptr (ex.length+3) 0,.ptr 1 0,.ptr 2 0]) ⟨(encSt s).cells::(encPd p).cells::[.str d]::(ex++[(encPd x).cells]),[],[]⟩ (ChkH e ⟨(encSt s).cells::(encPd p).cells::[.str d]::(ex++[(encPd x).cells]),[],[]⟩):=by
  refine⟨_,rfl,?_⟩
  cases hv:domS s x.node p.key with
  |none=>rw[if_neg (by simp)];exact cnt_no s p x d ex hs hl hv
  |some v=>
   have:=cnt_yes s p x d v ex hs hl hv
   by_cases h:v=d
   ·rw[if_pos h]at this;rw[if_pos (by rw[h])];exact this
   ·rw[if_neg h]at this;rw[if_neg (by simpa using h)];exact this
 rw[he]
 generalize(⟨(encSt s).cells::(encPd p).cells::[.str d]::(ex++[(encPd x).cells]),[],[]⟩:Heap)=H at hr hR⊢
 have ht:lim cfg (.fn 66) [.func 226 [.ptr 0 0,.ptr (ex.length+3) 0,.ptr 1 0,.ptr 2 0]] H=some (.ret (.int .i64 e),H):=by
  rw[lim_try rfl,l226,hr]
  rcases hR with⟨h0,h1⟩|⟨h0,h1⟩
  ·subst h1;subst h0;rfl
  ·subst h1;rfl
 have hd:=does_callE (xs:=[.func 226 [.ptr 0 0,.ptr (ex.length+3) 0,.ptr 1 0,.ptr 2 0]]) (caps:=[]) ht rfl rfl
 rwa [show shutA (.int .i64 e)=.int .i64 e from rfl,trunc_self]at hd
theorem cnt_loop(s:St)(p:Pod)(d:List UInt8)(hp:s.pods.length≤1000)(hs:s.nodes.length<9223372036854775807)(hl:∀n∈s.nodes,n.labels.length<9223372036854775807):
 ∀(post:List Pod)(i:Nat)(hd:s.pods.drop i=post)(n:Nat)(hn:n≤i)(ex:List (List AV))(T:Env)
 (hT:Has T [(3,.ptr 0 0),(4,.ptr 1 0),(5,.ptr 2 0),(7,.int .i64 n),(11,.sl .sh (s.pods.map encPd)),(12,.int .i64 s.pods.length),(13,.int .i64 i)]),
 Goes cfg a160 k160_0 T ⟨(encSt s).cells::(encPd p).cells::[.str d]::ex,[],[]⟩ (IsRet (.int .i64 ((n+(post.filter (standB s p d)).length:Nat):Int))):=by
 intro post
 induction post with
 |nil=>
  intro i hd n hn ex T hT
  have hge:=drop_ge hd
  rw[show n+(([]:List Pod).filter (standB s p d)).length=n by simp]
  exact gG 60 _ hT (.no (dF ((↑i:Int)<(↑s.pods.length:Int)))<|.fin ((.ret (.int .i64 ↑n),{boxes:=[.sl .sh (s.nodes.map encN),.sl .sh (s.pods.map encPd),.sl .sh (s.buds.map encB)]::[.str p.name,.str p.owner,.int .i64 p.prio,.sl .sh (p.need.map encA),.sl .sh (p.labels.map encP),.sl .sh (p.sel.map encM),.sl .sh (p.tols.map encL),.str p.key,.int .i64 p.most,.str p.node,.bool p.hold]::[.str d]::ex,toks:=[],loops:=[]:Heap})) rfl)
 |cons x post ih=>
  intro i hd n hn ex T hT
  have hlt:=drop_lt hd
  have hnx:=drop_next hd
  have hxi:idxA 11 (.sl .sh (s.pods.map encPd)) (.int .i64 (i:Nat))=some (.ref (encPd x).cells):=idx_row (f:=encPd) hd rfl
  have ct:=cnt_try s p x d ex hs hl
  have ih0:=ih (i+1) hnx n (by omega) (ex++[(encPd x).cells])
  by_cases q1:p.owner=[]
  ·have e:n+((x::post).filter (standB s p d)).length=n+(post.filter (standB s p d)).length:=by simp[List.filter_cons,standB,q1]
   rw[e]
   exact let ζ1:List AV:=[.str p.name,.str p.owner,.int .i64 p.prio,.sl .sh (p.need.map encA),.sl .sh (p.labels.map encP),.sl .sh (p.sel.map encM),.sl .sh (p.tols.map encL),.str p.key,.int .i64 p.most,.str p.node,.bool p.hold];let ζ2:List AV:=[.str x.name,.str x.owner,.int .i64 x.prio,.sl .sh (x.need.map encA),.sl .sh (x.labels.map encP),.sl .sh (x.sel.map encM),.sl .sh (x.tols.map encL),.str x.key,.int .i64 x.most,.str x.node,.bool x.hold];let ζ3:List AV:=[.sl .sh (s.nodes.map encN),.sl .sh (s.pods.map encPd),.sl .sh (s.buds.map encB)];let ζ4:Heap:={boxes:=ζ3::ζ1::[.str d]::(ex++[ζ2]),toks:=[],loops:=[]:Heap};let ζ5:List AV:=[.str [],.str [],.int .i64 0,.sl .full [],.sl .full [],.sl .full [],.sl .full [],.str [],.int .i64 0,.str [],.bool false];gG 160 _ hT (.yes (dT ((↑i:Int)<(↑s.pods.length:Int)))<|.idx hxi<|.load (rfl:loadA true 11 {boxes:=ζ3::ζ1::[.str d]::ex,toks:=[],loops:=[]:Heap} (.ref ζ2)=some (.agg ζ2))<|.store (show storeA 11 {boxes:=ζ3::ζ1::[.str d]::(ex++[ζ5]),toks:=[],loops:=[]:Heap} (.ptr (ζ3::ζ1::[.str d]::ex).length 0) (.agg ζ2)=some (ζ4)from store_box2 (cs:=ζ5) (cs':=ζ2) (by simp+zetaDelta) rfl (by simp+zetaDelta [List.set_append]))<|.load (lB false 1 ζ4 1 1 (.str p.owner) ζ1)<|.yes (show(p.owner==[])=true from(by simp+zetaDelta [q1]))<|.tt<|.tt<|.tt<|.tt<|.bin (iI i)<|.cutQ k160_0 [(3,.ptr 0 0),(4,.ptr 1 0),(5,.ptr 2 0),(7,.int .i64 ↑n),(11,.sl .sh (s.pods.map encPd)),(12,.int .i64 (↑s.pods.length)),(13,.int .i64 (↑(i+1)))] (ζ4) (fun T hT=>(ih0 T hT)))
  ·by_cases q2:x.owner=p.owner
   ·cases q3:x.hold with
    |true=>
     have e:n+((x::post).filter (standB s p d)).length=n+(post.filter (standB s p d)).length:=by simp[List.filter_cons,standB,q3]
     rw[e]
     exact let ζ2:List AV:=[.str p.name,.str p.owner,.int .i64 p.prio,.sl .sh (p.need.map encA),.sl .sh (p.labels.map encP),.sl .sh (p.sel.map encM),.sl .sh (p.tols.map encL),.str p.key,.int .i64 p.most,.str p.node,.bool p.hold];let ζ3:List AV:=[.str x.name,.str x.owner,.int .i64 x.prio,.sl .sh (x.need.map encA),.sl .sh (x.labels.map encP),.sl .sh (x.sel.map encM),.sl .sh (x.tols.map encL),.str x.key,.int .i64 x.most,.str x.node,.bool x.hold];let ζ4:List AV:=[.sl .sh (s.nodes.map encN),.sl .sh (s.pods.map encPd),.sl .sh (s.buds.map encB)];let ζ1:Heap:={boxes:=ζ4::ζ2::[.str d]::(ex++[ζ3]),toks:=[],loops:=[]:Heap};let ζ5:List AV:=[.str [],.str [],.int .i64 0,.sl .full [],.sl .full [],.sl .full [],.sl .full [],.str [],.int .i64 0,.str [],.bool false];gG 160 _ hT (.yes (dT ((↑i:Int)<(↑s.pods.length:Int)))<|.idx hxi<|.load (rfl:loadA true 11 {boxes:=ζ4::ζ2::[.str d]::ex,toks:=[],loops:=[]:Heap} (.ref ζ3)=some (.agg ζ3))<|.store (show storeA 11 {boxes:=ζ4::ζ2::[.str d]::(ex++[ζ5]),toks:=[],loops:=[]:Heap} (.ptr (ζ4::ζ2::[.str d]::ex).length 0) (.agg ζ3)=some (ζ1)from store_box2 (cs:=ζ5) (cs':=ζ3) (by simp+zetaDelta) rfl (by simp+zetaDelta [List.set_append]))<|.load (lB false 1 ζ1 1 1 (.str p.owner) ζ2)<|.no (show(p.owner==[])=false from Bool.eq_false_iff.2 (by simp+zetaDelta [q1]))<|.load (show loadA false 1 ζ1 (.ptr (ζ4::ζ2::[.str d]::ex).length 1)=some (.str x.owner)from load_box (cs:=ζ3) (by simp+zetaDelta) rfl)<|.load (lB false 1 ζ1 1 1 (.str p.owner) ζ2)<|.no (show(!x.owner==p.owner)=false from by have hh:(x.owner==p.owner)=true:=(by simp+zetaDelta [q2]);simp[hh])<|.load (show loadA false 1 ζ1 (.ptr (ζ4::ζ2::[.str d]::ex).length 10)=some (.bool x.hold)from load_box (cs:=ζ3) (by simp+zetaDelta) rfl)<|.yes (show(x.hold)=true from(by omega))<|.tt<|.tt<|.bin (iI i)<|.cutQ k160_0 [(3,.ptr 0 0),(4,.ptr 1 0),(5,.ptr 2 0),(7,.int .i64 ↑n),(11,.sl .sh (s.pods.map encPd)),(12,.int .i64 (↑s.pods.length)),(13,.int .i64 (↑(i+1)))] (ζ1) (fun T hT=>(ih0 T hT)))
    |false=>
     by_cases q4:x.name=p.name
     ·have e:n+((x::post).filter (standB s p d)).length=n+(post.filter (standB s p d)).length:=by simp[List.filter_cons,standB,q4]
      rw[e]
      exact let ζ2:List AV:=[.str p.name,.str p.owner,.int .i64 p.prio,.sl .sh (p.need.map encA),.sl .sh (p.labels.map encP),.sl .sh (p.sel.map encM),.sl .sh (p.tols.map encL),.str p.key,.int .i64 p.most,.str p.node,.bool p.hold];let ζ3:List AV:=[.str x.name,.str x.owner,.int .i64 x.prio,.sl .sh (x.need.map encA),.sl .sh (x.labels.map encP),.sl .sh (x.sel.map encM),.sl .sh (x.tols.map encL),.str x.key,.int .i64 x.most,.str x.node,.bool x.hold];let ζ4:List AV:=[.sl .sh (s.nodes.map encN),.sl .sh (s.pods.map encPd),.sl .sh (s.buds.map encB)];let ζ1:Heap:={boxes:=ζ4::ζ2::[.str d]::(ex++[ζ3]),toks:=[],loops:=[]:Heap};let ζ5:List AV:=[.str [],.str [],.int .i64 0,.sl .full [],.sl .full [],.sl .full [],.sl .full [],.str [],.int .i64 0,.str [],.bool false];gG 160 _ hT (.yes (dT ((↑i:Int)<(↑s.pods.length:Int)))<|.idx hxi<|.load (rfl:loadA true 11 {boxes:=ζ4::ζ2::[.str d]::ex,toks:=[],loops:=[]:Heap} (.ref ζ3)=some (.agg ζ3))<|.store (show storeA 11 {boxes:=ζ4::ζ2::[.str d]::(ex++[ζ5]),toks:=[],loops:=[]:Heap} (.ptr (ζ4::ζ2::[.str d]::ex).length 0) (.agg ζ3)=some (ζ1)from store_box2 (cs:=ζ5) (cs':=ζ3) (by simp+zetaDelta) rfl (by simp+zetaDelta [List.set_append]))<|.load (lB false 1 ζ1 1 1 (.str p.owner) ζ2)<|.no (show(p.owner==[])=false from Bool.eq_false_iff.2 (by simp+zetaDelta [q1]))<|.load (show loadA false 1 ζ1 (.ptr (ζ4::ζ2::[.str d]::ex).length 1)=some (.str x.owner)from load_box (cs:=ζ3) (by simp+zetaDelta) rfl)<|.load (lB false 1 ζ1 1 1 (.str p.owner) ζ2)<|.no (show(!x.owner==p.owner)=false from by have hh:(x.owner==p.owner)=true:=(by simp+zetaDelta [q2]);simp[hh])<|.load (show loadA false 1 ζ1 (.ptr (ζ4::ζ2::[.str d]::ex).length 10)=some (.bool x.hold)from load_box (cs:=ζ3) (by simp+zetaDelta) rfl)<|.no (show(x.hold)=false from Bool.eq_false_iff.2 (by simp+zetaDelta [q3]))<|.load (show loadA false 1 ζ1 (.ptr (ζ4::ζ2::[.str d]::ex).length 0)=some (.str x.name)from load_box (cs:=ζ3) (by simp+zetaDelta) rfl)<|.load (lB false 1 ζ1 1 0 (.str p.name) ζ2)<|.yes (show(x.name==p.name)=true from(by simp+zetaDelta [q4]))<|.tt<|.bin (iI i)<|.cutQ k160_0 [(3,.ptr 0 0),(4,.ptr 1 0),(5,.ptr 2 0),(7,.int .i64 ↑n),(11,.sl .sh (s.pods.map encPd)),(12,.int .i64 (↑s.pods.length)),(13,.int .i64 (↑(i+1)))] (ζ1) (fun T hT=>(ih0 T hT)))
     ·by_cases q5:x.node=[]
      ·have e:n+((x::post).filter (standB s p d)).length=n+(post.filter (standB s p d)).length:=by simp[List.filter_cons,standB,q5]
       rw[e]
       exact let ζ2:List AV:=[.str p.name,.str p.owner,.int .i64 p.prio,.sl .sh (p.need.map encA),.sl .sh (p.labels.map encP),.sl .sh (p.sel.map encM),.sl .sh (p.tols.map encL),.str p.key,.int .i64 p.most,.str p.node,.bool p.hold];let ζ3:List AV:=[.str x.name,.str x.owner,.int .i64 x.prio,.sl .sh (x.need.map encA),.sl .sh (x.labels.map encP),.sl .sh (x.sel.map encM),.sl .sh (x.tols.map encL),.str x.key,.int .i64 x.most,.str x.node,.bool x.hold];let ζ4:List AV:=[.sl .sh (s.nodes.map encN),.sl .sh (s.pods.map encPd),.sl .sh (s.buds.map encB)];let ζ1:Heap:={boxes:=ζ4::ζ2::[.str d]::(ex++[ζ3]),toks:=[],loops:=[]:Heap};let ζ5:List AV:=[.str [],.str [],.int .i64 0,.sl .full [],.sl .full [],.sl .full [],.sl .full [],.str [],.int .i64 0,.str [],.bool false];gG 160 _ hT (.yes (dT ((↑i:Int)<(↑s.pods.length:Int)))<|.idx hxi<|.load (rfl:loadA true 11 {boxes:=ζ4::ζ2::[.str d]::ex,toks:=[],loops:=[]:Heap} (.ref ζ3)=some (.agg ζ3))<|.store (show storeA 11 {boxes:=ζ4::ζ2::[.str d]::(ex++[ζ5]),toks:=[],loops:=[]:Heap} (.ptr (ζ4::ζ2::[.str d]::ex).length 0) (.agg ζ3)=some (ζ1)from store_box2 (cs:=ζ5) (cs':=ζ3) (by simp+zetaDelta) rfl (by simp+zetaDelta [List.set_append]))<|.load (lB false 1 ζ1 1 1 (.str p.owner) ζ2)<|.no (show(p.owner==[])=false from Bool.eq_false_iff.2 (by simp+zetaDelta [q1]))<|.load (show loadA false 1 ζ1 (.ptr (ζ4::ζ2::[.str d]::ex).length 1)=some (.str x.owner)from load_box (cs:=ζ3) (by simp+zetaDelta) rfl)<|.load (lB false 1 ζ1 1 1 (.str p.owner) ζ2)<|.no (show(!x.owner==p.owner)=false from by have hh:(x.owner==p.owner)=true:=(by simp+zetaDelta [q2]);simp[hh])<|.load (show loadA false 1 ζ1 (.ptr (ζ4::ζ2::[.str d]::ex).length 10)=some (.bool x.hold)from load_box (cs:=ζ3) (by simp+zetaDelta) rfl)<|.no (show(x.hold)=false from Bool.eq_false_iff.2 (by simp+zetaDelta [q3]))<|.load (show loadA false 1 ζ1 (.ptr (ζ4::ζ2::[.str d]::ex).length 0)=some (.str x.name)from load_box (cs:=ζ3) (by simp+zetaDelta) rfl)<|.load (lB false 1 ζ1 1 0 (.str p.name) ζ2)<|.no (show(x.name==p.name)=false from Bool.eq_false_iff.2 (by simp+zetaDelta [q4]))<|.load (show loadA false 1 ζ1 (.ptr (ζ4::ζ2::[.str d]::ex).length 9)=some (.str x.node)from load_box (cs:=ζ3) (by simp+zetaDelta) rfl)<|.yes (show(x.node==[])=true from(by simp+zetaDelta [q5]))<|.bin (iI i)<|.cutQ k160_0 [(3,.ptr 0 0),(4,.ptr 1 0),(5,.ptr 2 0),(7,.int .i64 ↑n),(11,.sl .sh (s.pods.map encPd)),(12,.int .i64 (↑s.pods.length)),(13,.int .i64 (↑(i+1)))] (ζ1) (fun T hT=>(ih0 T hT)))
      ·by_cases q6:domS s x.node p.key=some d
       ·have e:n+((x::post).filter (standB s p d)).length=(n+1)+(post.filter (standB s p d)).length:=by simp[List.filter_cons,standB,q1,q2,q3,q4,q5,q6];omega
        rw[e]
        rw[if_pos q6]at ct
        have ih1:=ih (i+1) hnx (n+1) (by omega) (ex++[(encPd x).cells])
        exact let ζ2:List AV:=[.str p.name,.str p.owner,.int .i64 p.prio,.sl .sh (p.need.map encA),.sl .sh (p.labels.map encP),.sl .sh (p.sel.map encM),.sl .sh (p.tols.map encL),.str p.key,.int .i64 p.most,.str p.node,.bool p.hold];let ζ3:List AV:=[.str x.name,.str x.owner,.int .i64 x.prio,.sl .sh (x.need.map encA),.sl .sh (x.labels.map encP),.sl .sh (x.sel.map encM),.sl .sh (x.tols.map encL),.str x.key,.int .i64 x.most,.str x.node,.bool x.hold];let ζ4:List AV:=[.sl .sh (s.nodes.map encN),.sl .sh (s.pods.map encPd),.sl .sh (s.buds.map encB)];let ζ1:Heap:={boxes:=ζ4::ζ2::[.str d]::(ex++[ζ3]),toks:=[],loops:=[]:Heap};let ζ5:List AV:=[.str [],.str [],.int .i64 0,.sl .full [],.sl .full [],.sl .full [],.sl .full [],.str [],.int .i64 0,.str [],.bool false];let ζ6:Heap:={boxes:=(encSt s).cells::(encPd p).cells::[.str d]::(ex++[(encPd x).cells]),toks:=[],loops:=[]:Heap};gG 160 _ hT (.yes (dT ((↑i:Int)<(↑s.pods.length:Int)))<|.idx hxi<|.load (rfl:loadA true 11 {boxes:=ζ4::ζ2::[.str d]::ex,toks:=[],loops:=[]:Heap} (.ref ζ3)=some (.agg ζ3))<|.store (show storeA 11 {boxes:=ζ4::ζ2::[.str d]::(ex++[ζ5]),toks:=[],loops:=[]:Heap} (.ptr (ζ4::ζ2::[.str d]::ex).length 0) (.agg ζ3)=some (ζ1)from store_box2 (cs:=ζ5) (cs':=ζ3) (by simp+zetaDelta) rfl (by simp+zetaDelta [List.set_append]))<|.load (lB false 1 ζ1 1 1 (.str p.owner) ζ2)<|.no (show(p.owner==[])=false from Bool.eq_false_iff.2 (by simp+zetaDelta [q1]))<|.load (show loadA false 1 ζ1 (.ptr (ζ4::ζ2::[.str d]::ex).length 1)=some (.str x.owner)from load_box (cs:=ζ3) (by simp+zetaDelta) rfl)<|.load (lB false 1 ζ1 1 1 (.str p.owner) ζ2)<|.no (show(!x.owner==p.owner)=false from by have hh:(x.owner==p.owner)=true:=(by simp+zetaDelta [q2]);simp[hh])<|.load (show loadA false 1 ζ1 (.ptr (ζ4::ζ2::[.str d]::ex).length 10)=some (.bool x.hold)from load_box (cs:=ζ3) (by simp+zetaDelta) rfl)<|.no (show(x.hold)=false from Bool.eq_false_iff.2 (by simp+zetaDelta [q3]))<|.load (show loadA false 1 ζ1 (.ptr (ζ4::ζ2::[.str d]::ex).length 0)=some (.str x.name)from load_box (cs:=ζ3) (by simp+zetaDelta) rfl)<|.load (lB false 1 ζ1 1 0 (.str p.name) ζ2)<|.no (show(x.name==p.name)=false from Bool.eq_false_iff.2 (by simp+zetaDelta [q4]))<|.load (show loadA false 1 ζ1 (.ptr (ζ4::ζ2::[.str d]::ex).length 9)=some (.str x.node)from load_box (cs:=ζ3) (by simp+zetaDelta) rfl)<|.no (show(x.node==[])=false from Bool.eq_false_iff.2 (by simp+zetaDelta [q5]))<|.effY ct<|.tt<|.bin (iI n)<|.bin (iI i)<|.cutQ k160_0 [(3,.ptr 0 0),(4,.ptr 1 0),(5,.ptr 2 0),(7,.int .i64 (↑(n+1):Int)),(11,.sl .sh (s.pods.map encPd)),(12,.int .i64 (↑s.pods.length)),(13,.int .i64 (↑(i+1)))] (ζ1) (fun T hT=>(ih1 T hT)))
       ·have e:n+((x::post).filter (standB s p d)).length=n+(post.filter (standB s p d)).length:=by simp[List.filter_cons,standB,q6]
        rw[e]
        rw[if_neg q6]at ct
        exact let ζ2:List AV:=[.str p.name,.str p.owner,.int .i64 p.prio,.sl .sh (p.need.map encA),.sl .sh (p.labels.map encP),.sl .sh (p.sel.map encM),.sl .sh (p.tols.map encL),.str p.key,.int .i64 p.most,.str p.node,.bool p.hold];let ζ3:List AV:=[.str x.name,.str x.owner,.int .i64 x.prio,.sl .sh (x.need.map encA),.sl .sh (x.labels.map encP),.sl .sh (x.sel.map encM),.sl .sh (x.tols.map encL),.str x.key,.int .i64 x.most,.str x.node,.bool x.hold];let ζ4:List AV:=[.sl .sh (s.nodes.map encN),.sl .sh (s.pods.map encPd),.sl .sh (s.buds.map encB)];let ζ1:Heap:={boxes:=ζ4::ζ2::[.str d]::(ex++[ζ3]),toks:=[],loops:=[]:Heap};let ζ5:List AV:=[.str [],.str [],.int .i64 0,.sl .full [],.sl .full [],.sl .full [],.sl .full [],.str [],.int .i64 0,.str [],.bool false];let ζ6:Heap:={boxes:=(encSt s).cells::(encPd p).cells::[.str d]::(ex++[(encPd x).cells]),toks:=[],loops:=[]:Heap};gG 160 _ hT (.yes (dT ((↑i:Int)<(↑s.pods.length:Int)))<|.idx hxi<|.load (rfl:loadA true 11 {boxes:=ζ4::ζ2::[.str d]::ex,toks:=[],loops:=[]:Heap} (.ref ζ3)=some (.agg ζ3))<|.store (show storeA 11 {boxes:=ζ4::ζ2::[.str d]::(ex++[ζ5]),toks:=[],loops:=[]:Heap} (.ptr (ζ4::ζ2::[.str d]::ex).length 0) (.agg ζ3)=some (ζ1)from store_box2 (cs:=ζ5) (cs':=ζ3) (by simp+zetaDelta) rfl (by simp+zetaDelta [List.set_append]))<|.load (lB false 1 ζ1 1 1 (.str p.owner) ζ2)<|.no (show(p.owner==[])=false from Bool.eq_false_iff.2 (by simp+zetaDelta [q1]))<|.load (show loadA false 1 ζ1 (.ptr (ζ4::ζ2::[.str d]::ex).length 1)=some (.str x.owner)from load_box (cs:=ζ3) (by simp+zetaDelta) rfl)<|.load (lB false 1 ζ1 1 1 (.str p.owner) ζ2)<|.no (show(!x.owner==p.owner)=false from by have hh:(x.owner==p.owner)=true:=(by simp+zetaDelta [q2]);simp[hh])<|.load (show loadA false 1 ζ1 (.ptr (ζ4::ζ2::[.str d]::ex).length 10)=some (.bool x.hold)from load_box (cs:=ζ3) (by simp+zetaDelta) rfl)<|.no (show(x.hold)=false from Bool.eq_false_iff.2 (by simp+zetaDelta [q3]))<|.load (show loadA false 1 ζ1 (.ptr (ζ4::ζ2::[.str d]::ex).length 0)=some (.str x.name)from load_box (cs:=ζ3) (by simp+zetaDelta) rfl)<|.load (lB false 1 ζ1 1 0 (.str p.name) ζ2)<|.no (show(x.name==p.name)=false from Bool.eq_false_iff.2 (by simp+zetaDelta [q4]))<|.load (show loadA false 1 ζ1 (.ptr (ζ4::ζ2::[.str d]::ex).length 9)=some (.str x.node)from load_box (cs:=ζ3) (by simp+zetaDelta) rfl)<|.no (show(x.node==[])=false from Bool.eq_false_iff.2 (by simp+zetaDelta [q5]))<|.effY ct<|.ff<|.bin (iI i)<|.cutQ k160_0 [(3,.ptr 0 0),(4,.ptr 1 0),(5,.ptr 2 0),(7,.int .i64 ↑n),(11,.sl .sh (s.pods.map encPd)),(12,.int .i64 (↑s.pods.length)),(13,.int .i64 (↑(i+1)))] (ζ1) (fun T hT=>(ih0 T hT)))
   ·have e:n+((x::post).filter (standB s p d)).length=n+(post.filter (standB s p d)).length:=by simp[List.filter_cons,standB,q2]
    rw[e]
    exact let ζ2:List AV:=[.str p.name,.str p.owner,.int .i64 p.prio,.sl .sh (p.need.map encA),.sl .sh (p.labels.map encP),.sl .sh (p.sel.map encM),.sl .sh (p.tols.map encL),.str p.key,.int .i64 p.most,.str p.node,.bool p.hold];let ζ3:List AV:=[.str x.name,.str x.owner,.int .i64 x.prio,.sl .sh (x.need.map encA),.sl .sh (x.labels.map encP),.sl .sh (x.sel.map encM),.sl .sh (x.tols.map encL),.str x.key,.int .i64 x.most,.str x.node,.bool x.hold];let ζ4:List AV:=[.sl .sh (s.nodes.map encN),.sl .sh (s.pods.map encPd),.sl .sh (s.buds.map encB)];let ζ1:Heap:={boxes:=ζ4::ζ2::[.str d]::(ex++[ζ3]),toks:=[],loops:=[]:Heap};let ζ5:List AV:=[.str [],.str [],.int .i64 0,.sl .full [],.sl .full [],.sl .full [],.sl .full [],.str [],.int .i64 0,.str [],.bool false];gG 160 _ hT (.yes (dT ((↑i:Int)<(↑s.pods.length:Int)))<|.idx hxi<|.load (rfl:loadA true 11 {boxes:=ζ4::ζ2::[.str d]::ex,toks:=[],loops:=[]:Heap} (.ref ζ3)=some (.agg ζ3))<|.store (show storeA 11 {boxes:=ζ4::ζ2::[.str d]::(ex++[ζ5]),toks:=[],loops:=[]:Heap} (.ptr (ζ4::ζ2::[.str d]::ex).length 0) (.agg ζ3)=some (ζ1)from store_box2 (cs:=ζ5) (cs':=ζ3) (by simp+zetaDelta) rfl (by simp+zetaDelta [List.set_append]))<|.load (lB false 1 ζ1 1 1 (.str p.owner) ζ2)<|.no (show(p.owner==[])=false from Bool.eq_false_iff.2 (by simp+zetaDelta [q1]))<|.load (show loadA false 1 ζ1 (.ptr (ζ4::ζ2::[.str d]::ex).length 1)=some (.str x.owner)from load_box (cs:=ζ3) (by simp+zetaDelta) rfl)<|.load (lB false 1 ζ1 1 1 (.str p.owner) ζ2)<|.yes (show(!x.owner==p.owner)=true from by have hh:¬((x.owner==p.owner)=true):=(by simp+zetaDelta [q2]);simp[hh])<|.tt<|.tt<|.tt<|.bin (iI i)<|.cutQ k160_0 [(3,.ptr 0 0),(4,.ptr 1 0),(5,.ptr 2 0),(7,.int .i64 ↑n),(11,.sl .sh (s.pods.map encPd)),(12,.int .i64 (↑s.pods.length)),(13,.int .i64 (↑(i+1)))] (ζ1) (fun T hT=>(ih0 T hT)))
theorem count_any(s:St)(p:Pod)(d:List UInt8)(hp:s.pods.length≤1000)(hs:s.nodes.length<9223372036854775807)(hl:∀n∈s.nodes,n.labels.length<9223372036854775807):
 Gives cfg 160 [encSt s,encPd p,.str d] (.int .i64 (countS s p d)):=by
 refine Gives.run (l160 _ _) ?_
 have h:=cnt_loop s p d hp hs hl s.pods 0 rfl 0 (by omega) []
 rw[Nat.zero_add]at h
 unfold countS
 exact gG 60 [] trivial (.len (lM .sh encPd s.pods)<|.cutQ k160_0 [(3,.ptr 0 0),(4,.ptr 1 0),(5,.ptr 2 0),(7,.int .i64 0),(11,.sl .sh (s.pods.map encPd)),(12,.int .i64 (↑s.pods.length)),(13,.int .i64 0)] ({boxes:=[[.sl .sh (s.nodes.map encN),.sl .sh (s.pods.map encPd),.sl .sh (s.buds.map encB)],[.str p.name,.str p.owner,.int .i64 p.prio,.sl .sh (p.need.map encA),.sl .sh (p.labels.map encP),.sl .sh (p.sel.map encM),.sl .sh (p.tols.map encL),.str p.key,.int .i64 p.most,.str p.node,.bool p.hold],[.str d]],toks:=[],loops:=[]:Heap}) (fun T hT=>(h T hT)))
end Go.Aa.T
set_option linter.unusedVariables false
set_option linter.unusedSimpArgs false
set_option maxRecDepth 100000
namespace Go.Aa.T
open Go.Aa Go.Proofs
def valsOf(key:List UInt8)(l:List Node):List (List UInt8):=l.filterMap fun n=>getP n.labels key
def domsS(s:St)(key:List UInt8):List (List UInt8):=namesOf (valsOf key s.nodes)
theorem vals_len(key:List UInt8)(l:List Node):(valsOf key l).length≤l.length:=List.length_filterMap_le _ _
theorem dm_end(s:St)(acc:List (List UInt8))(B:List (List AV))(kk:Nat)(hB:acc=[]∨B[kk]?=some (acc.map .str))(hl:acc.length≤100000)(T:Env)(i:Nat)(hi:s.nodes.length≤i)
 (hT:Has T [(5,rM kk acc),(11,.sl .sh (s.nodes.map encN)),(12,.int .i64 s.nodes.length),(13,.int .i64 i)]):Goes cfg a161 k161_0 T ⟨B,[],[]⟩ (FinN acc):=by
 cases acc with
 |nil=>
  have h1:=(does_data sort_none [.sl .full []] rfl rfl rfl rfl ⟨B,[],[]⟩).2
  have h2:=(does_data compact_none [.sl .full []] rfl rfl rfl rfl ⟨B,[],[]⟩).2
  exact let ζ1:Heap:={boxes:=B,toks:=[],loops:=[]:Heap};gG 60 _ hT (.no (dF ((↑i:Int)<(↑s.nodes.length:Int)))<|.effY h1<|.effY h2<|.fin ((.ret (.sl .sh []),ζ1)) (by exact⟨_,rfl,rfl⟩))
 |cons x l=>
  have hk:B[kk]?=some ((x::l).map .str):=by simpa using hB
  have h1:=sort_does hk (by simp) (by omega)
  have hkl:kk<B.length:=(List.getElem?_eq_some_iff.1 hk).1
  obtain⟨m,C,h2,h3,h4,h5⟩:=compact_any kk (x::l).length B (by omega) hkl (isort (x::l)) (isort_length _) (by simp)
  rw[List.length_cons]at h1 h2 h5
  have hout:dataOut ⟨B.set kk (C.map .str),[],[]⟩ (.msl kk 0 m 1)=some (.sl .sh ((namesOf (x::l)).map .str)):=by
   have:=out_box1 (bs:=B.set kk (C.map .str)) (tk:=[]) (ls:=[]) (kk:=kk) (n:=m) (List.getElem?_set_self hkl) (by simpa using h4) (strs_data C)
   rw[this,←List.map_take,h3];rfl
  exact let ζ1:Heap:={boxes:=B.set kk (List.map .str (isort (x::l))),toks:=[],loops:=[]:Heap};let ζ2:Heap:={boxes:=B.set kk (List.map .str C),toks:=[],loops:=[]:Heap};gG 60 _ hT (.no (dF ((↑i:Int)<(↑s.nodes.length:Int)))<|.effY h1<|.effY h2<|.fin ((.ret (.msl kk 0 m 1),ζ2)) (by exact⟨_,rfl,hout⟩))
theorem dm_loop(s:St)(key:List UInt8)(hs:s.nodes.length≤1000)(hl:∀n∈s.nodes,n.labels.length<9223372036854775807):∀(post:List Node)(i:Nat)(hd:s.nodes.drop i=post)(hi:i≤s.nodes.length)(acc:List (List UInt8))(B:List (List AV))(kk:Nat)(hB:acc=[]∨B[kk]?=some (acc.map .str))(hl:acc.length≤i)(T:Env)
 (hT:Has T [(1,.str key),(5,rM kk acc),(11,.sl .sh (s.nodes.map encN)),(12,.int .i64 s.nodes.length),(13,.int .i64 i)]),Goes cfg a161 k161_0 T ⟨B,[],[]⟩ (FinN (acc++valsOf key post)):=by
 intro post
 induction post with
 |nil=>
  intro i hd hi acc B kk hB hl T hT
  have hge:=drop_ge hd
  rw[show acc++valsOf key []=acc by simp[valsOf]]
  exact dm_end s acc B kk hB (by omega) T i hge hT.2
 |cons x post ih=>
  intro i hd hi acc B kk hB hl2 T hT
  have hlt:=drop_lt hd
  have hnx:=drop_next hd
  have hxi:idxA 5 (.sl .sh (s.nodes.map encN)) (.int .i64 (i:Nat))=some (.ref (encN x).cells):=idx_row (f:=encN) hd rfl
  have g:=get_any x.labels key (hl x (drop_mem hd))
  cases hv:getP x.labels key with
  |none=>
   rw[hv]at g
   have g:Gives cfg 223 [.sl .sh (x.labels.map encP),.str key] (.tuple [.str [],.bool false]):=g
   have g2:=fun H=>(does_data g [.sl .sh (x.labels.map encP),.str key] rfl rfl rfl rfl H).2
   have e:acc++valsOf key (x::post)=acc++valsOf key post:=by simp[valsOf,hv]
   rw[e]
   have hB':acc=[]∨(B++[(encN x).cells])[kk]?=some (acc.map .str):=by
    rcases hB with h|h
    ·exact .inl h
    ·exact .inr (by rw[List.getElem?_append_left (List.getElem?_eq_some_iff.1 h).1,h])
   have ih':=ih (i+1) hnx hlt acc (B++[(encN x).cells]) kk hB' (by omega)
   exact let ζ1:List AV:=[.str x.name,.sl .sh (x.cap.map encA),.sl .sh (x.labels.map encP),.sl .sh (x.taints.map encT),.bool x.cordon];let ζ2:Heap:={boxes:=B++[ζ1],toks:=[],loops:=[]:Heap};let ζ3:List AV:=[.str [],.sl .full [],.sl .full [],.sl .full [],.bool false];gG 120 _ hT (.yes (dT ((↑i:Int)<(↑s.nodes.length:Int)))<|.idx hxi<|.load (rfl:loadA true 5 {boxes:=B,toks:=[],loops:=[]:Heap} (.ref ζ1)=some (.agg ζ1))<|.store (show storeA 5 {boxes:=B++[ζ3],toks:=[],loops:=[]:Heap} (.ptr B.length 0) (.agg ζ1)=some (ζ2)from store_box2 (cs:=ζ3) (cs':=ζ1) (by simp+zetaDelta) rfl (by simp+zetaDelta [List.set_append]))<|.load (lB false 1 ζ2 B.length 2 (.sl .sh (x.labels.map encP)) ζ1)<|.effY (show Does cfg (.callM (.c (.func 223 [])) (List.map .c [.sl .sh (x.labels.map encP),.str key])) ζ2 (.tuple [.str [],.bool false]) ζ2 from g2 _)<|.ff<|.bin (iI i)<|.cutQ k161_0 [(1,.str key),(5,rM kk acc),(11,.sl .sh (s.nodes.map encN)),(12,.int .i64 (↑s.nodes.length)),(13,.int .i64 (↑(i+1)))] (ζ2) (fun T hT=>(ih' T hT)))
  |some v=>
   rw[hv]at g
   have g:Gives cfg 223 [.sl .sh (x.labels.map encP),.str key] (.tuple [.str v,.bool true]):=g
   have g2:=fun H=>(does_data g [.sl .sh (x.labels.map encP),.str key] rfl rfl rfl rfl H).2
   have e:acc++valsOf key (x::post)=(acc++[v])++valsOf key post:=by simp[valsOf,hv]
   rw[e]
   cases acc with
   |nil=>
    have ap:=does_newB (es:=1) (b:=16) (B:=B++[(encN x).cells]) (tk:=[]) (ls:=[]) (v:=.str v) (sk:=.full) rfl rfl (by omega)
    have ih':=ih (i+1) hnx hlt [v] (B++[(encN x).cells]++[[AV.str v]]) (B++[(encN x).cells]).length (.inr (by simp)) (by simp)
    exact let ζ1:List AV:=[.str x.name,.sl .sh (x.cap.map encA),.sl .sh (x.labels.map encP),.sl .sh (x.taints.map encT),.bool x.cordon];let ζ2:Heap:={boxes:=B++[ζ1],toks:=[],loops:=[]:Heap};let ζ3:List AV:=[.str [],.sl .full [],.sl .full [],.sl .full [],.bool false];gG 120 _ hT (.yes (dT ((↑i:Int)<(↑s.nodes.length:Int)))<|.idx hxi<|.load (rfl:loadA true 5 {boxes:=B,toks:=[],loops:=[]:Heap} (.ref ζ1)=some (.agg ζ1))<|.store (show storeA 5 {boxes:=B++[ζ3],toks:=[],loops:=[]:Heap} (.ptr B.length 0) (.agg ζ1)=some (ζ2)from store_box2 (cs:=ζ3) (cs':=ζ1) (by simp+zetaDelta) rfl (by simp+zetaDelta [List.set_append]))<|.load (lB false 1 ζ2 B.length 2 (.sl .sh (x.labels.map encP)) ζ1)<|.effY (show Does cfg (.callM (.c (.func 223 [])) (List.map .c [.sl .sh (x.labels.map encP),.str key])) ζ2 (.tuple [.str v,.bool true]) ζ2 from g2 _)<|.tt<|.effY ap<|.bin (iI i)<|.cutQ k161_0 [(1,.str key),(5,.msl (B++[ζ1]).length 0 1 1),(11,.sl .sh (s.nodes.map encN)),(12,.int .i64 (↑s.nodes.length)),(13,.int .i64 (↑(i+1)))] ({boxes:=B++[ζ1]++[[AV.str v]],toks:=[],loops:=[]:Heap}) (fun T hT=>(ih' T hT)))
   |cons y l=>
    have hk:B[kk]?=some ((y::l).map .str):=by simpa using hB
    have hk2:(B++[(encN x).cells])[kk]?=some ((y::l).map .str):=by rw[List.getElem?_append_left (List.getElem?_eq_some_iff.1 hk).1,hk]
    have ap:=does_growB (es:=1) (b:=16) (n:=l.length+1) (tk:=[]) (ls:=[]) (v:=.str v) (sk:=.full) hk2 (by simp) (by omega) (strs_data _) rfl rfl (by simp at hl2;omega)
    obtain⟨D,hD⟩:∃D,D=(y::l).map AV.str++(AV.str v).cells:=⟨_,rfl⟩
    rw[←hD]at ap
    have ih':=ih (i+1) hnx hlt ((y::l)++[v]) ((B++[(encN x).cells]).set kk []++[D]) (B++[(encN x).cells]).length (.inr (by
     rw[List.getElem?_append_right (by simp),hD];simp[AV.cells])) (by simp at hl2⊢;omega)
    have er:rM (B++[(encN x).cells]).length ((y::l)++[v])=.msl (B++[(encN x).cells]).length 0 (l.length+1+1) 1:=by simp[rM]
    rw[er]at ih'
    exact let ζ1:List AV:=[.str x.name,.sl .sh (x.cap.map encA),.sl .sh (x.labels.map encP),.sl .sh (x.taints.map encT),.bool x.cordon];let ζ2:Heap:={boxes:=B++[ζ1],toks:=[],loops:=[]:Heap};let ζ3:Heap:={boxes:=(B++[(encN x).cells]).set kk []++[D],toks:=[],loops:=[]:Heap};let ζ4:List AV:=[.str [],.sl .full [],.sl .full [],.sl .full [],.bool false];gG 120 _ hT (.yes (dT ((↑i:Int)<(↑s.nodes.length:Int)))<|.idx hxi<|.load (rfl:loadA true 5 {boxes:=B,toks:=[],loops:=[]:Heap} (.ref ζ1)=some (.agg ζ1))<|.store (show storeA 5 {boxes:=B++[ζ4],toks:=[],loops:=[]:Heap} (.ptr B.length 0) (.agg ζ1)=some (ζ2)from store_box2 (cs:=ζ4) (cs':=ζ1) (by simp+zetaDelta) rfl (by simp+zetaDelta [List.set_append]))<|.load (lB false 1 ζ2 B.length 2 (.sl .sh (x.labels.map encP)) ζ1)<|.effY (show Does cfg (.callM (.c (.func 223 [])) (List.map .c [.sl .sh (x.labels.map encP),.str key])) ζ2 (.tuple [.str v,.bool true]) ζ2 from g2 _)<|.tt<|.effY ap<|.bin (iI i)<|.cutQ k161_0 [(1,.str key),(5,.msl (B++[ζ1]).length 0 (l.length+1+1) 1),(11,.sl .sh (s.nodes.map encN)),(12,.int .i64 (↑s.nodes.length)),(13,.int .i64 (↑(i+1)))] (ζ3) (fun T hT=>(ih' T hT)))
theorem doms_any(s:St)(key:List UInt8)(hs:s.nodes.length≤1000)(hl:∀n∈s.nodes,n.labels.length<9223372036854775807):GivesF cfg 161 [encSt s,.str key] (.sl .sh ((domsS s key).map .str)):=by
 refine GivesF.run (l161 _ _) ?_
 have h:=dm_loop s key hs hl s.nodes 0 rfl (Nat.zero_le _) [] [(encSt s).cells] 0 (.inl rfl) (by simp)
 have h:∀T,Has T [(1,.str key),(5,.sl .full []),(11,.sl .sh (s.nodes.map encN)),(12,.int .i64 s.nodes.length),(13,.int .i64 (0:Nat))]→Goes cfg a161 k161_0 T ⟨[(encSt s).cells],[],[]⟩ (FinN (valsOf key s.nodes)):=h
 exact gG 60 [] trivial (.len (lM .sh encN s.nodes)<|.cutQ k161_0 [(1,.str key),(5,.sl .full []),(11,.sl .sh (s.nodes.map encN)),(12,.int .i64 (↑s.nodes.length)),(13,.int .i64 0)] ({boxes:=[[.sl .sh (s.nodes.map encN),.sl .sh (s.pods.map encPd),.sl .sh (s.buds.map encB)]],toks:=[],loops:=[]:Heap}) (fun T hT=>(h T hT)))
end Go.Aa.T
set_option linter.unusedVariables false
set_option linter.unusedSimpArgs false
set_option maxRecDepth 100000
namespace Go.Aa.T
open Go.Aa Go.Proofs
section
variable{H:Heap}{g:FuncId}{k:Nat}{p:Tol→Bool}
theorem idxL_loop(hd:∀y:Tol,Does cfg (.call (.c (.func g [.ptr k 0])) [.c (encL y)]) H (.bool (p y)) H)(l:List Tol)(hn:l.length<9223372036854775807):∀(post:List Tol)(i:Nat)(hdr:l.drop i=post)(T:Env)
 (hT:Has T [(0,.sl .sh (l.map encL)),(1,.func g [.ptr k 0]),(7,.int .i64 l.length),(8,.int .i64 i)]),
 Goes cfg a269 k269_0 T H (fun r=>r=(.ret (.int .i64 (fidxB p post i)),H)):=by
 intro post
 induction post with
 |nil=>
  intro i hdr T hT
  have hge:=drop_ge hdr
  exact gG 60 _ hT (.no (dF ((↑i:Int)<(↑l.length:Int)))<|.fin ((.ret (.int .i64 (-1:Int)),H)) rfl)
 |cons x post ih=>
  intro i hdr T hT
  have hlt:=drop_lt hdr
  have hnx:=drop_next hdr
  have hdx:=hd x
  cases hp:p x with
  |true=>
   rw[hp]at hdx
   have e:fidxB p (x::post) i=i:=by simp[fidxB,hp]
   rw[e]
   exact let ζ1:List AV:=[.str x.key,.str x.val,.bool x.any];gG 60 _ hT (.yes (dT ((↑i:Int)<(↑l.length:Int)))<|.idx (iR 3 encL hdr)<|.load (rfl:loadA true 3 H (.ref ζ1)=some (.agg ζ1))<|.effY hdx<|.tt<|.fin ((.ret (.int .i64 ↑i),H)) rfl)
  |false=>
   rw[hp]at hdx
   have e:fidxB p (x::post) i=fidxB p post (i+1):=by simp[fidxB,hp]
   rw[e]
   exact let ζ1:List AV:=[.str x.key,.str x.val,.bool x.any];gG 60 _ hT (.yes (dT ((↑i:Int)<(↑l.length:Int)))<|.idx (iR 3 encL hdr)<|.load (rfl:loadA true 3 H (.ref ζ1)=some (.agg ζ1))<|.effY hdx<|.ff<|.bin (iI i)<|.cutQ k269_0 [(0,.sl .sh (l.map encL)),(1,.func g [.ptr k 0]),(7,.int .i64 (↑l.length)),(8,.int .i64 (↑(i+1)))] (H) (fun T hT=>(ih (i+1) hnx T hT)))
theorem idxL(hd:∀y:Tol,Does cfg (.call (.c (.func g [.ptr k 0])) [.c (encL y)]) H (.bool (p y)) H)(l:List Tol)(hn:l.length<9223372036854775807):
 lim cfg (.fn 269) [.sl .sh (l.map encL),.func g [.ptr k 0]] H=some (.ret (.int .i64 (fidxB p l 0)),H):=by
 rw[l269]
 have h:=idxL_loop hd l hn l 0 rfl
 have key:Goes cfg a269 [.c c269] (initEnv [.sl .sh (l.map encL),.func g [.ptr k 0]]) H (fun r=>r=(.ret (.int .i64 (fidxB p l 0)),H)):=by
  exact gG 60 [] trivial (.len (lM .sh encL l)<|.cutQ k269_0 [(0,.sl .sh (l.map encL)),(1,.func g [.ptr k 0]),(7,.int .i64 (↑l.length)),(8,.int .i64 0)] (H) (fun T hT=>(h T hT)))
 obtain⟨r,h,rfl⟩:=key
 exact h
end
theorem bears_one(t:Taint)(y:Tol):Does cfg (.call (.c (.func 225 [.ptr 0 0])) [.c (encL y)]) ⟨[t.cells],[],[]⟩ (.bool (one1 y t)) ⟨[t.cells],[],[]⟩:=by
 have key:Goes cfg a225 [.c c225] (initEnv [encL y,.ptr 0 0]) ⟨[t.cells],[],[]⟩ (fun r=>r=(.ret (.bool (one1 y t)),⟨[t.cells]++[(encL y).cells],[],[]⟩)):=by
  by_cases h1:y.key=[]
  ·by_cases h2:y.any=true
   ·have e:one1 y t=true:=by simp[one1,h1,h2]
    rw[e]
    exact gG 60 [] trivial (.yes (show(y.key==[])=true from(by simpa using h1))<|.tt<|.yes (show(y.any)=true from(by simpa using h2))<|.fin ((.ret (.bool true),{boxes:=[[.str t.key,.str t.val,.bool t.hard],[.str y.key,.str y.val,.bool y.any]],toks:=[],loops:=[]:Heap})) rfl)
   ·have e:one1 y t=(y.val==t.val):=by simp[one1,h1,h2]
    rw[e]
    exact gG 60 [] trivial (.yes (show(y.key==[])=true from(by simpa using h1))<|.tt<|.no (show(y.any)=false from Bool.eq_false_iff.2 (by simpa using h2))<|.fin ((.ret (.bool (y.val==t.val)),{boxes:=[[.str t.key,.str t.val,.bool t.hard],[.str y.key,.str y.val,.bool y.any]],toks:=[],loops:=[]:Heap})) rfl)
  ·by_cases h3:y.key=t.key
   ·by_cases h2:y.any=true
    ·have e:one1 y t=true:=by simp[one1,h3,h2]
     rw[e]
     exact gG 60 [] trivial (.no (show(y.key==[])=false from Bool.eq_false_iff.2 (by simpa using h1))<|.yes (show(y.key==t.key)=true from(by simpa using h3))<|.yes (show(y.any)=true from(by simpa using h2))<|.fin ((.ret (.bool true),{boxes:=[[.str t.key,.str t.val,.bool t.hard],[.str y.key,.str y.val,.bool y.any]],toks:=[],loops:=[]:Heap})) rfl)
    ·have e:one1 y t=(y.val==t.val):=by simp[one1,h3,h2]
     rw[e]
     exact gG 60 [] trivial (.no (show(y.key==[])=false from Bool.eq_false_iff.2 (by simpa using h1))<|.yes (show(y.key==t.key)=true from(by simpa using h3))<|.no (show(y.any)=false from Bool.eq_false_iff.2 (by simpa using h2))<|.fin ((.ret (.bool (y.val==t.val)),{boxes:=[[.str t.key,.str t.val,.bool t.hard],[.str y.key,.str y.val,.bool y.any]],toks:=[],loops:=[]:Heap})) rfl)
   ·have e:one1 y t=false:=by simp[one1,h1,h3]
    rw[e]
    exact gG 60 [] trivial (.no (show(y.key==[])=false from Bool.eq_false_iff.2 (by simpa using h1))<|.no (show(y.key==t.key)=false from Bool.eq_false_iff.2 (by simpa using h3))<|.fin ((.ret (.bool false),{boxes:=[[.str t.key,.str t.val,.bool t.hard],[.str y.key,.str y.val,.bool y.any]],toks:=[],loops:=[]:Heap})) rfl)
 obtain⟨r,h,rfl⟩:=key
 have h2:lim cfg (.fn 225) ([encL y]++[.ptr 0 0]) ⟨[t.cells],[],[]⟩=some (.ret (.bool (one1 y t)),⟨[t.cells]++[(encL y).cells],[],[]⟩):=by
  rw[l225];exact h
 have hd:=does_callE h2 rfl rfl
 rwa [show shutA (.bool (one1 y t))=.bool (one1 y t)from rfl,trunc_plain (bs:=[t.cells]) (ex:=[(encL y).cells]) (ts:=[]) rfl]at hd
def bearsB(l:List Tol)(t:Taint):Bool:=l.any fun y=>one1 y t
theorem bears_has(l:List Tol)(t:Taint)(hl:l.length<9223372036854775807):lim cfg (.fn 224) [.sl .sh (l.map encL),.func 225 [.ptr 0 0]] ⟨[t.cells],[],[]⟩=some (.ret (.bool (bearsB l t)),⟨[t.cells],[],[]⟩):=by
 rw[l224]
 have h0:=does_callE (xs:=[.sl .sh (l.map encL),.func 225 [.ptr 0 0]]) (caps:=[]) (idxL (g:=225) (k:=0) (bears_one t) l hl) rfl rfl
 rw[show shutA (.int .i64 (fidxB (fun y:Tol=>one1 y t) l 0))=.int .i64 (fidxB (fun y:Tol=>one1 y t) l 0)from rfl,
  show trunc (⟨[t.cells],[],[]⟩:Heap).boxes.length (⟨[t.cells],[],[]⟩:Heap).toks.length (.int .i64 (fidxB (fun y:Tol=>one1 y t) l 0)) ⟨[t.cells],[],[]⟩=⟨[t.cells],[],[]⟩from rfl]at h0
 have hf:decide (0≤fidxB (fun y:Tol=>one1 y t) l 0)=bearsB l t:=fidxB_ge (fun y:Tol=>one1 y t) l 0
 generalize fidxB (fun y:Tol=>one1 y t) l 0=c at h0 hf
 have key:Goes cfg a224 [.c c224] (initEnv [.sl .sh (l.map encL),.func 225 [.ptr 0 0]]) ⟨[t.cells],[],[]⟩ (fun r=>r=(.ret (.bool (bearsB l t)),⟨[t.cells],[],[]⟩)):=by
  exact let ζ1:Heap:={boxes:=[t.cells],toks:=[],loops:=[]:Heap};gG 60 [] trivial (.effY h0<|.fin ((.ret (.bool (decide ((0:Int)≤c))),{boxes:=[[.str t.key,.str t.val,.bool t.hard]],toks:=[],loops:=[]:Heap})) (by simp+zetaDelta [←hf,Taint.cells]))
 obtain⟨r,h,rfl⟩:=key
 exact h
theorem bears_any(l:List Tol)(t:Taint)(hl:l.length<9223372036854775807):Gives cfg 157 [.sl .sh (l.map encL),encT t] (.bool (bearsB l t)):=by
 refine Gives.run (l157 _ _) ?_
 have h0:=does_callE (xs:=[.sl .sh (l.map encL),.func 225 [.ptr 0 0]]) (caps:=[]) (bears_has l t hl) rfl rfl
 generalize bearsB l t=b at h0⊢
 rw[show trunc (⟨[t.cells],[],[]⟩:Heap).boxes.length (⟨[t.cells],[],[]⟩:Heap).toks.length (shutA (.bool b)) ⟨[t.cells],[],[]⟩=⟨[t.cells],[],[]⟩from rfl,show shutA (.bool b)=.bool b from rfl]at h0
 exact let ζ1:Heap:={boxes:=[t.cells],toks:=[],loops:=[]:Heap};gG 60 [] trivial (.effY h0<|.fin ((.ret (.bool b),{boxes:=[[.str t.key,.str t.val,.bool t.hard]],toks:=[],loops:=[]:Heap})) rfl)
def worstB(l:List Tol)(t:List Taint):Option Taint:=t.find? fun x=>x.hard&& !bearsB l x
theorem worst_loop(l:List Tol)(t:List Taint)(hl:l.length<9223372036854775807)(hn:t.length<9223372036854775807):∀(post:List Taint)(i:Nat)(bs:List (List AV))(hd:t.drop i=post)(T:Env)
 (hT:Has T [(0,.sl .sh (l.map encL)),(4,.ptr 0 0),(8,.sl .sh (t.map encT)),(9,.int .i64 t.length),(10,.int .i64 i)]),
 Goes cfg a84 k84_0 T ⟨[.str [],.str [],.bool false]::bs,[],[]⟩ (IsRet (worstV (worstB l post))):=by
 intro post
 induction post with
 |nil=>
  intro i bs hd T hT
  have hge:=drop_ge hd
  exact let ζ1:Heap:={boxes:=[.str [],.str [],.bool false]::bs,toks:=[],loops:=[]:Heap};gG 60 _ hT (.no (dF ((↑i:Int)<(↑t.length:Int)))<|.store (show storeA 3 ζ1 (.ptr 0 0) (.agg [.str [],.str [],.bool false])=some (ζ1)from store_box2 (cs:=[.str [],.str [],.bool false]) (cs':=[.str [],.str [],.bool false]) (by simp+zetaDelta) rfl (by simp+zetaDelta [List.set_append]))<|.fin ((.ret (.tuple [.agg [.str [],.str [],.bool false],.bool false]),ζ1)) rfl)
 |cons x post ih=>
  intro i bs hd T hT
  have hlt:=drop_lt hd
  have hnx:=drop_next hd
  have hb:=bears_any l x hl
  have ih':=ih (i+1) (bs++[x.cells]) hnx
  cases hh:x.hard with
  |false=>
   have e:worstB l (x::post)=worstB l post:=by simp[worstB,List.find?_cons,hh]
   rw[e]
   exact let ζ1:List AV:=[.str x.key,.str x.val,.bool x.hard];let ζ2:Heap:={boxes:=[.str [],.str [],.bool false]::(bs++[ζ1]),toks:=[],loops:=[]:Heap};gG 90 _ hT (.yes (dT ((↑i:Int)<(↑t.length:Int)))<|.idx (iR 3 encT hd)<|.load (rfl:loadA true 3 {boxes:=[.str [],.str [],.bool false]::bs,toks:=[],loops:=[]:Heap} (.ref ζ1)=some (.agg ζ1))<|.store (show storeA 3 {boxes:=[.str [],.str [],.bool false]::(bs++[[AV.str [],.str [],.bool false]]),toks:=[],loops:=[]:Heap} (.ptr ([.str [],.str [],.bool false]::bs).length 0) (.agg ζ1)=some (ζ2)from store_box2 (cs:=[.str [],.str [],.bool false]) (cs':=ζ1) (by simp+zetaDelta) rfl (by simp+zetaDelta [List.set_append]))<|.load (show loadA false 1 ζ2 (.ptr ([.str [],.str [],.bool false]::bs).length 2)=some (.bool x.hard)from load_box (cs:=ζ1) (by simp+zetaDelta) rfl)<|.no (show(x.hard)=false from Bool.eq_false_iff.2 (by simp+zetaDelta [hh]))<|.ff<|.bin (iI i)<|.cutQ k84_0 [(0,.sl .sh (l.map encL)),(4,.ptr 0 0),(8,.sl .sh (t.map encT)),(9,.int .i64 (↑t.length)),(10,.int .i64 (↑(i+1)))] (ζ2) (fun T hT=>(ih' T hT)))
  |true=>
   cases hbb:bearsB l x with
   |true=>
    rw[hbb]at hb
    have e:worstB l (x::post)=worstB l post:=by simp[worstB,List.find?_cons,hh,hbb]
    rw[e]
    exact let ζ1:List AV:=[.str x.key,.str x.val,.bool x.hard];let ζ2:Heap:={boxes:=[.str [],.str [],.bool false]::(bs++[ζ1]),toks:=[],loops:=[]:Heap};gG 90 _ hT (.yes (dT ((↑i:Int)<(↑t.length:Int)))<|.idx (iR 3 encT hd)<|.load (rfl:loadA true 3 {boxes:=[.str [],.str [],.bool false]::bs,toks:=[],loops:=[]:Heap} (.ref ζ1)=some (.agg ζ1))<|.store (show storeA 3 {boxes:=[.str [],.str [],.bool false]::(bs++[[AV.str [],.str [],.bool false]]),toks:=[],loops:=[]:Heap} (.ptr ([.str [],.str [],.bool false]::bs).length 0) (.agg ζ1)=some (ζ2)from store_box2 (cs:=[.str [],.str [],.bool false]) (cs':=ζ1) (by simp+zetaDelta) rfl (by simp+zetaDelta [List.set_append]))<|.load (show loadA false 1 ζ2 (.ptr ([.str [],.str [],.bool false]::bs).length 2)=some (.bool x.hard)from load_box (cs:=ζ1) (by simp+zetaDelta) rfl)<|.yes (show(x.hard)=true from(by omega))<|.load (show loadA true 3 ζ2 (.ptr ([.str [],.str [],.bool false]::bs).length 0)=some (.agg ζ1)from load_box (cs:=ζ1) (by simp+zetaDelta) rfl)<|.callK ([.sl .sh (l.map encL),.agg ζ1]) (.bool true) hb<|.ff<|.bin (iI i)<|.cutQ k84_0 [(0,.sl .sh (l.map encL)),(4,.ptr 0 0),(8,.sl .sh (t.map encT)),(9,.int .i64 (↑t.length)),(10,.int .i64 (↑(i+1)))] (ζ2) (fun T hT=>(ih' T hT)))
   |false=>
    rw[hbb]at hb
    have e:worstB l (x::post)=some x:=by simp[worstB,List.find?_cons,hh,hbb]
    rw[e]
    exact let ζ1:List AV:=[.str x.key,.str x.val,.bool x.hard];let ζ2:Heap:={boxes:=[.str [],.str [],.bool false]::(bs++[ζ1]),toks:=[],loops:=[]:Heap};let ζ3:Heap:={boxes:=ζ1::(bs++[ζ1]),toks:=[],loops:=[]:Heap};gG 90 _ hT (.yes (dT ((↑i:Int)<(↑t.length:Int)))<|.idx (iR 3 encT hd)<|.load (rfl:loadA true 3 {boxes:=[.str [],.str [],.bool false]::bs,toks:=[],loops:=[]:Heap} (.ref ζ1)=some (.agg ζ1))<|.store (show storeA 3 {boxes:=[.str [],.str [],.bool false]::(bs++[[AV.str [],.str [],.bool false]]),toks:=[],loops:=[]:Heap} (.ptr ([.str [],.str [],.bool false]::bs).length 0) (.agg ζ1)=some (ζ2)from store_box2 (cs:=[.str [],.str [],.bool false]) (cs':=ζ1) (by simp+zetaDelta) rfl (by simp+zetaDelta [List.set_append]))<|.load (show loadA false 1 ζ2 (.ptr ([.str [],.str [],.bool false]::bs).length 2)=some (.bool x.hard)from load_box (cs:=ζ1) (by simp+zetaDelta) rfl)<|.yes (show(x.hard)=true from(by omega))<|.load (show loadA true 3 ζ2 (.ptr ([.str [],.str [],.bool false]::bs).length 0)=some (.agg ζ1)from load_box (cs:=ζ1) (by simp+zetaDelta) rfl)<|.callK ([.sl .sh (l.map encL),.agg ζ1]) (.bool false) hb<|.tt<|.load (show loadA true 3 ζ2 (.ptr ([.str [],.str [],.bool false]::bs).length 0)=some (.agg ζ1)from load_box (cs:=ζ1) (by simp+zetaDelta) rfl)<|.store (show storeA 3 ζ2 (.ptr 0 0) (.agg ζ1)=some (ζ3)from store_box2 (cs:=[.str [],.str [],.bool false]) (cs':=ζ1) (by simp+zetaDelta) rfl (by simp+zetaDelta [List.set_append]))<|.fin ((.ret (.tuple [.agg ζ1,.bool true]),ζ3)) rfl)
theorem worst_any(l:List Tol)(t:List Taint)(hl:l.length<9223372036854775807)(hn:t.length<9223372036854775807):Gives cfg 84 [.sl .sh (l.map encL),.sl .sh (t.map encT)] (worstV (worstB l t)):=by
 refine Gives.run (l84 _ _) ?_
 have h:=worst_loop l t hl hn t 0 [] rfl
 exact gG 60 [] trivial (.len (lM .sh encT t)<|.cutQ k84_0 [(0,.sl .sh (l.map encL)),(4,.ptr 0 0),(8,.sl .sh (t.map encT)),(9,.int .i64 (↑t.length)),(10,.int .i64 0)] ({boxes:=[[.str [],.str [],.bool false]],toks:=[],loops:=[]:Heap}) (fun T hT=>(h T hT)))
end Go.Aa.T
set_option linter.unusedVariables false
set_option linter.unusedSimpArgs false
set_option maxRecDepth 100000
namespace Go.Aa.T
open Go.Aa Go.Proofs
end Go.Aa.T
set_option linter.unusedVariables false
set_option linter.unusedSimpArgs false
set_option maxRecDepth 100000
namespace Go.Aa.T
open Go.Aa Go.Proofs
def kD:Bool→Nat→SK
 |true,t=>.own t
 |false,_=>.full
instance(b:Bool)(t:Nat)(l:List AV):Shut (.sl (kD b t) l) (.sl .sh l):=⟨by cases b<;>exact⟨rfl,rfl⟩⟩
def DomP(key:List UInt8)(acc:List (List UInt8))(post:List Node)(r:ARes×Heap):Prop:=
 ∃l,Rise l∧(∀x,x∈l↔x∈acc∨x∈valsOf key post)∧∃b t,IsRet (.sl (kD b t) (l.map .str)) r
theorem DomP.conv{key:List UInt8}{acc acc':List (List UInt8)}{post post':List Node}(h:∀x,(x∈acc'∨x∈valsOf key post')↔(x∈acc∨x∈valsOf key post))(r:ARes×Heap)(hr:DomP key acc' post' r):DomP key acc post r:=by
 obtain⟨l,h1,h2,h3⟩:=hr
 exact⟨l,h1,fun x=>(h2 x).trans (h x),h3⟩
section
variable{B:List (List AV)}{tk:List Nat}{acc:List (List UInt8)}{v:List UInt8}{j:Nat}
end
end Go.Aa.T
set_option linter.unusedVariables false
set_option linter.unusedSimpArgs false
set_option maxRecDepth 100000
namespace Go.Aa.T
open Go.Aa Go.Proofs
end Go.Aa.T
set_option linter.unusedVariables false
set_option linter.unusedSimpArgs false
set_option maxRecDepth 100000
namespace Go.Aa.T
open Go.Aa Go.Proofs
theorem gf157{s:St}{key:List UInt8}{l:List AV}(h:GivesF cfg 161 [encSt s,.str key] (.sl .sh l))(H:Heap):Does cfg (.call (.c (.func 161 [])) [.c (encSt s),.c (.str key)]) H (.sl .sh l) H:=does_callF h rfl rfl H
def leastS(f:List UInt8→Nat)(own:List UInt8):List (List UInt8)→Int→Int
 |[],m=>m
 |d::l,m=>leastS f own l (if d=own then m else if(f d:Int)<m then(f d:Int)else m)
def skewS(s:St)(p:Pod)(nm:List UInt8):Int×Bool:=
 if p.key=[]then(0,true)else match domS s nm p.key with
 |none=>(0,false)
 |some own=>((countS s p own:Int)+1-leastS (countS s p) own (domsS s p.key) ((countS s p own:Int)+1),true)
theorem sk_loop(s:St)(p:Pod)(nm own:List UInt8)(ds:List (List UInt8))(hc:∀d,Gives cfg 160 [encSt s,encPd p,.str d] (.int .i64 (countS s p d)))(here:Int)(hh:0≤here∧here≤100000)(hn:ds.length≤1000):
 ∀(post:List (List UInt8))(i:Nat)(hd:ds.drop i=post)(m:Int)(hm:0≤m)(hm2:m≤100000)(T:Env)
 (hT:Has T [(0,.ptr 0 0),(2,.ptr 1 0),(3,.ptr 3 0),(4,.str own),(5,.int .i64 here),(6,.int .i64 m),(23,.sl .sh (ds.map .str)),(24,.int .i64 ds.length),(25,.int .i64 i)]),
 Goes cfg a158 k158_0 T ⟨[(encSt s).cells,(encPd p).cells,[.str nm],[.int .i64 0]],[],[]⟩ (fun r=>r=(.ret (.tuple []),⟨[(encSt s).cells,(encPd p).cells,[.str nm],[.int .i64 (here-leastS (countS s p) own post m)]],[],[]⟩)):=by
 intro post
 induction post with
 |nil=>
  intro i hd m hm hm2 T hT
  have hge:=drop_ge hd
  rw[show leastS (countS s p) own [] m=m from rfl]
  have sb:binA .sub (.int .i64 here) (.int .i64 m)=some (.int .i64 (here-m)):=subI (by omega) (by omega)
  exact gG 60 _ hT (.no (dF ((↑i:Int)<(↑ds.length:Int)))<|.bin sb<|.fin ((.ret (.tuple []),{boxes:=[[.sl .sh (s.nodes.map encN),.sl .sh (s.pods.map encPd),.sl .sh (s.buds.map encB)],[.str p.name,.str p.owner,.int .i64 p.prio,.sl .sh (p.need.map encA),.sl .sh (p.labels.map encP),.sl .sh (p.sel.map encM),.sl .sh (p.tols.map encL),.str p.key,.int .i64 p.most,.str p.node,.bool p.hold],[.str nm],[.int .i64 (here-m)]],toks:=[],loops:=[]:Heap})) rfl)
 |cons d post ih=>
  intro i hd m hm hm2 T hT
  have hlt:=drop_lt hd
  have hnx:=drop_next hd
  have hxi:idxA 1 (.sl .sh (ds.map .str)) (.int .i64 (i:Nat))=some (.ref [.str d]):=idx_row (f:=AV.str) hd rfl
  by_cases h:d=own
  ·have e:leastS (countS s p) own (d::post) m=leastS (countS s p) own post m:=by simp only[leastS,if_pos h]
   rw[e]
   have ih':=ih (i+1) hnx m hm hm2
   subst h
   exact gG 120 _ hT (.yes (dT ((↑i:Int)<(↑ds.length:Int)))<|.idx hxi<|.no (show(!d==d)=false from by have hh:(d==d)=true:=(by simp);simp[hh])<|.bin (iI i)<|.cutQ k158_0 [(0,.ptr 0 0),(2,.ptr 1 0),(3,.ptr 3 0),(4,.str d),(5,.int .i64 here),(6,.int .i64 m),(23,.sl .sh (List.map .str ds)),(24,.int .i64 (↑ds.length)),(25,.int .i64 (↑(i+1)))] ({boxes:=[[.sl .sh (s.nodes.map encN),.sl .sh (s.pods.map encPd),.sl .sh (s.buds.map encB)],[.str p.name,.str p.owner,.int .i64 p.prio,.sl .sh (p.need.map encA),.sl .sh (p.labels.map encP),.sl .sh (p.sel.map encM),.sl .sh (p.tols.map encL),.str p.key,.int .i64 p.most,.str p.node,.bool p.hold],[.str nm],[.int .i64 0]],toks:=[],loops:=[]:Heap}) (fun T hT=>(ih' T hT)))
  ·have hcd:=hc d
   generalize hq:countS s p d=c at hcd
   have e:leastS (countS s p) own (d::post) m=leastS (countS s p) own post (if(c:Int)<m then(c:Int)else m):=by simp only[leastS,if_neg h,hq]
   rw[e]
   have ih':=ih (i+1) hnx (if(c:Int)<m then(c:Int)else m) (by split<;>omega) (by split<;>omega)
   have ih':∀T,Has T [(0,.ptr 0 0),(2,.ptr 1 0),(3,.ptr 3 0),(4,.str own),(5,.int .i64 here),(6,.int .i64 (if false=true then(if(c:Int)>m then(c:Int)else m)else if(c:Int)<m then(c:Int)else m)),(23,.sl .sh (ds.map .str)),(24,.int .i64 ds.length),(25,.int .i64 ((i+1:Nat):Int))]→_:=ih'
   exact let ζ1:List AV:=[.str p.name,.str p.owner,.int .i64 p.prio,.sl .sh (p.need.map encA),.sl .sh (p.labels.map encP),.sl .sh (p.sel.map encM),.sl .sh (p.tols.map encL),.str p.key,.int .i64 p.most,.str p.node,.bool p.hold];let ζ2:List AV:=[.sl .sh (s.nodes.map encN),.sl .sh (s.pods.map encPd),.sl .sh (s.buds.map encB)];gG 120 _ hT (.yes (dT ((↑i:Int)<(↑ds.length:Int)))<|.idx hxi<|.yes (show(!d==own)=true from by have hh:¬((d==own)=true):=(by simpa using h);simp[hh])<|.callK ([.agg ζ2,.agg ζ1,.str d]) (.int .i64 ↑c) hcd<|.bin (iI i)<|.cutQ k158_0 [(0,.ptr 0 0),(2,.ptr 1 0),(3,.ptr 3 0),(4,.str own),(5,.int .i64 here),(6,.int .i64 (if false=true then if(↑c:Int)>m then(↑c:Int)else m else if(↑c:Int)<m then(↑c:Int)else m)),(23,.sl .sh (List.map .str ds)),(24,.int .i64 (↑ds.length)),(25,.int .i64 (↑(i+1)))] ({boxes:=[ζ2,ζ1,[.str nm],[.int .i64 0]],toks:=[],loops:=[]:Heap}) (fun T hT=>(ih' T hT)))
theorem doms_len(s:St)(key:List UInt8):(domsS s key).length≤s.nodes.length:=by
 have h1:=vals_len key s.nodes
 have h2:=uq_len (isort (valsOf key s.nodes))
 rw[isort_length]at h2
 unfold domsS namesOf
 omega
theorem sk_all(s:St)(p:Pod)(nm:List UInt8)(hp:s.pods.length≤1000)(hs:s.nodes.length≤1000)(hl:∀n∈s.nodes,n.labels.length<9223372036854775807)(hk:¬p.key=[]):
 ∃e H1,Goes cfg a158 [.c c158] (initEnv [.ptr 0 0,.ptr 2 0,.ptr 1 0,.ptr 3 0]) ⟨[(encSt s).cells,(encPd p).cells,[.str nm],[.int .i64 0]],[],[]⟩ (fun r=>((e=0∧r.1=.ret (.tuple []))∨(e≠0∧r.1=.pan (stopV e)))∧r.2=H1∧trunc 4 0 (.int .i64 e) H1=⟨[(encSt s).cells,(encPd p).cells,[.str nm],[.int .i64 (skewS s p nm).1]],[],[]⟩)∧(skewS s p nm).2=decide (e=0):=by
 cases hd:domS s nm p.key with
 |none=>
  have hn:=dom_none s nm p.key (by omega) hl hd
  have e1:skewS s p nm=(0,false):=by unfold skewS;rw[if_neg hk,hd]
  rw[e1]
  refine⟨10,⟨[(encSt s).cells,(encPd p).cells,[.str nm],[.int .i64 0]],[],[]⟩,?_,rfl⟩
  exact let ζ1:List AV:=[.sl .sh (s.nodes.map encN),.sl .sh (s.pods.map encPd),.sl .sh (s.buds.map encB)];gG 90 [] trivial (.callP ([.agg ζ1,.str nm,.str p.key]) ({boxes:=[ζ1,[.str p.name,.str p.owner,.int .i64 p.prio,.sl .sh (p.need.map encA),.sl .sh (p.labels.map encP),.sl .sh (p.sel.map encM),.sl .sh (p.tols.map encL),.str p.key,.int .i64 p.most,.str p.node,.bool p.hold],[.str nm],[.int .i64 0]],toks:=[],loops:=[]:Heap}) hn ⟨rfl,rfl⟩ rfl (by exact⟨.inr ⟨by decide,rfl⟩,rfl,trunc_self⟩))
 |some own=>
  have hy:=dom_some s nm p.key own (by omega) hl hd
  have hc:=fun d=>count_any s p d hp (by omega) hl
  have hcl:countS s p own≤s.pods.length:=List.length_filter_le _ _
  have e1:skewS s p nm=((countS s p own:Int)+1-leastS (countS s p) own (domsS s p.key) ((countS s p own:Int)+1),true):=by unfold skewS;rw[if_neg hk,hd]
  rw[e1]
  have dl:=doms_len s p.key
  have ds:=doms_any s p.key hs hl
  have hco:=hc own
  have lo:=sk_loop s p nm own (domsS s p.key) hc ((countS s p own:Int)+1) (by omega) (by omega) (domsS s p.key) 0 rfl ((countS s p own:Int)+1) (by omega) (by omega)
  refine⟨0,⟨[(encSt s).cells,(encPd p).cells,[.str nm],[.int .i64 ((countS s p own:Int)+1-leastS (countS s p) own (domsS s p.key) ((countS s p own:Int)+1))]],[],[]⟩,?_,rfl⟩
  have key:Goes cfg a158 [.c c158] (initEnv [.ptr 0 0,.ptr 2 0,.ptr 1 0,.ptr 3 0]) ⟨[(encSt s).cells,(encPd p).cells,[.str nm],[.int .i64 0]],[],[]⟩ (fun r=>r=(.ret (.tuple []),⟨[(encSt s).cells,(encPd p).cells,[.str nm],[.int .i64 ((countS s p own:Int)+1-leastS (countS s p) own (domsS s p.key) ((countS s p own:Int)+1))]],[],[]⟩)):=by
   generalize leastS (countS s p) own (domsS s p.key) ((countS s p own:Int)+1)=le at lo⊢
   generalize domsS s p.key=dd at*
   generalize countS s p own=c at*
   have ad:binA .add (.int .i64 (c:Int)) (.int .i64 1)=some (.int .i64 ((c:Int)+1)):=addI (by omega) (by omega)
   exact let ζ2:List AV:=[.sl .sh (s.nodes.map encN),.sl .sh (s.pods.map encPd),.sl .sh (s.buds.map encB)];let ζ1:Heap:={boxes:=[ζ2,[.str p.name,.str p.owner,.int .i64 p.prio,.sl .sh (p.need.map encA),.sl .sh (p.labels.map encP),.sl .sh (p.sel.map encM),.sl .sh (p.tols.map encL),.str p.key,.int .i64 p.most,.str p.node,.bool p.hold],[.str nm],[.int .i64 0]],toks:=[],loops:=[]:Heap};gG 90 [] trivial (.callK ([.agg ζ2,.str nm,.str p.key]) (.str own) hy<|.callK ([.agg ζ2,.agg [.str p.name,.str p.owner,.int .i64 p.prio,.sl .sh (p.need.map encA),.sl .sh (p.labels.map encP),.sl .sh (p.sel.map encM),.sl .sh (p.tols.map encL),.str p.key,.int .i64 p.most,.str p.node,.bool p.hold],.str own]) (.int .i64 ↑c) hco<|.bin ad<|.effY (show Does cfg (.call (.c (.func 161 [])) [.c (encSt s),.c (.str p.key)]) ζ1 (.sl .sh (List.map .str dd)) ζ1 from gf157 ds _)<|.len (lM .sh .str dd)<|.cutQ k158_0 [(0,.ptr 0 0),(2,.ptr 1 0),(3,.ptr 3 0),(4,.str own),(5,.int .i64 ((↑c:Int)+(1:Int))),(6,.int .i64 ((↑c:Int)+(1:Int))),(23,.sl .sh (List.map .str dd)),(24,.int .i64 (↑dd.length)),(25,.int .i64 0)] (ζ1) (fun T hT=>(lo T hT)))
  exact Goes.imp key fun r hr=>by subst hr;exact⟨.inl ⟨rfl,rfl⟩,rfl,trunc_self⟩
theorem skew_any(s:St)(p:Pod)(nm:List UInt8)(hp:s.pods.length≤1000)(hs:s.nodes.length≤1000)(hl:∀n∈s.nodes,n.labels.length<9223372036854775807):
 Gives cfg 85 [encSt s,encPd p,.str nm] (.tuple [.int .i64 (skewS s p nm).1,.bool (skewS s p nm).2]):=by
 by_cases hk:p.key=[]
 ·have e:skewS s p nm=(0,true):=by unfold skewS;rw[if_pos hk]
  rw[e]
  refine Gives.run (l85 _ _) ?_
  exact gG 60 [] trivial (.yes (show(p.key==[])=true from(by simp[hk]))<|.fin ((.ret (.tuple [.int .i64 0,.bool true]),{boxes:=[[.sl .sh (s.nodes.map encN),.sl .sh (s.pods.map encPd),.sl .sh (s.buds.map encB)],[.str p.name,.str p.owner,.int .i64 p.prio,.sl .sh (p.need.map encA),.sl .sh (p.labels.map encP),.sl .sh (p.sel.map encM),.sl .sh (p.tols.map encL),.str p.key,.int .i64 p.most,.str p.node,.bool p.hold],[.str nm]],toks:=[],loops:=[]:Heap})) rfl)
 ·refine Gives.run (l85 _ _) ?_
  obtain⟨e,H1,⟨⟨a,H2⟩,hr,hR,hH,ht2⟩,h2⟩:=sk_all s p nm hp hs hl hk
  simp only at hH
  subst hH
  rw[h2]
  have ht:lim cfg (.fn 66) [.func 158 [.ptr 0 0,.ptr 2 0,.ptr 1 0,.ptr 3 0]] ⟨[(encSt s).cells,(encPd p).cells,[.str nm],[.int .i64 0]],[],[]⟩=some (.ret (.int .i64 e),H2):=by
   rw[lim_try rfl,l158,hr]
   rcases hR with⟨h0,h1⟩|⟨h0,h1⟩
   ·simp only at h1;subst h1;subst h0;rfl
   ·simp only at h1;subst h1;rfl
  have hd:=does_callE (xs:=[.func 158 [.ptr 0 0,.ptr 2 0,.ptr 1 0,.ptr 3 0]]) (caps:=[]) ht rfl rfl
  rw[show shutA (.int .i64 e)=.int .i64 e from rfl,show trunc (⟨[(encSt s).cells,(encPd p).cells,[.str nm],[.int .i64 0]],[],[]⟩:Heap).boxes.length (⟨[(encSt s).cells,(encPd p).cells,[.str nm],[.int .i64 0]],[],[]⟩:Heap).toks.length (.int .i64 e) H2=⟨[(encSt s).cells,(encPd p).cells,[.str nm],[.int .i64 (skewS s p nm).1]],[],[]⟩from ht2]at hd
  generalize(skewS s p nm).1=sk at hd⊢
  exact gG 120 [] trivial (.no (show(p.key==[])=false from Bool.eq_false_iff.2 (by simp[hk]))<|.effY hd<|.fin ((.ret (.tuple [.int .i64 sk,.bool (e==(0:Int))]),{boxes:=[[.sl .sh (s.nodes.map encN),.sl .sh (s.pods.map encPd),.sl .sh (s.buds.map encB)],[.str p.name,.str p.owner,.int .i64 p.prio,.sl .sh (p.need.map encA),.sl .sh (p.labels.map encP),.sl .sh (p.sel.map encM),.sl .sh (p.tols.map encL),.str p.key,.int .i64 p.most,.str p.node,.bool p.hold],[.str nm],[.int .i64 sk]],toks:=[],loops:=[]:Heap})) rfl)
end Go.Aa.T
set_option linter.unusedVariables false
set_option linter.unusedSimpArgs false
set_option maxRecDepth 100000
namespace Go.Aa.T
open Go.Aa Go.Proofs
structure PdIn(p:Pod):Prop where
 need:p.need.length<9223372036854775807
 labels:p.labels.length<9223372036854775807
 sel:p.sel.length<9223372036854775807
 tols:p.tols.length<9223372036854775807
structure NdIn(n:Node):Prop where
 labels:n.labels.length<9223372036854775807
 taints:n.taints.length<9223372036854775807
end Go.Aa.T
set_option linter.unusedVariables false
set_option linter.unusedSimpArgs false
set_option maxRecDepth 100000
namespace Go.Aa.T
open Go.Aa Go.Proofs
theorem drop_drop(s:St)(a b:List UInt8):dropS (dropS s a) b=dropS (dropS s b) a:=by
 unfold dropS offP
 simp only[List.filter_filter,Bool.and_comm]
end Go.Aa.T
set_option linter.unusedVariables false
set_option linter.unusedSimpArgs false
set_option maxRecDepth 100000
namespace Go.Aa.T
open Go.Aa Go.Proofs
end Go.Aa.T
set_option linter.unusedVariables false
set_option linter.unusedSimpArgs false
set_option maxRecDepth 100000
namespace Go.Aa.T
open Go.Aa Go.Proofs
theorem few_nd{s:St}(fs:FewS s):∀n∈s.nodes,NdIn n:=fun n hn=>by
 have f:=fewNd (fs.node n hn)
 exact⟨by have:=f.labels;omega,by have:=f.taints;omega⟩
theorem few_pd{p:Pod}(h:fewPd p=true):PdIn p:=by
 have f:=fewPod h
 exact⟨by have:=f.need;omega,by have:=f.labels;omega,by have:=f.sel;omega,by have:=f.tols;omega⟩
end Go.Aa.T
set_option linter.unusedVariables false
set_option linter.unusedSimpArgs false
set_option maxRecDepth 100000
namespace Go.Aa.T
open Go.Aa Go.Proofs
end Go.Aa.T
set_option linter.unusedVariables false
set_option linter.unusedSimpArgs false
set_option maxRecDepth 100000
namespace Go.Aa.T
open Go.Aa Go.Proofs
end Go.Aa.T
set_option linter.unusedVariables false
set_option linter.unusedSimpArgs false
set_option maxRecDepth 100000
namespace Go.Aa.T
open Go.Aa Go.Proofs
def encJ(n:Int):AV:=.int .i64 n
end Go.Aa.T
set_option linter.unusedVariables false
set_option linter.unusedSimpArgs false
set_option maxRecDepth 100000
namespace Go.Aa.T
open Go.Aa Go.Proofs
def ovB(hi x:AV):Bool:=decide (0<cmp x hi)
def geB(lo x:AV):Bool:=decide (0≤cmp x lo)
def lvS(us:List AV)(lo hi:AV):Int:=if us.any (ovB hi)=true then 2 else if us=[]then 1 else if us.any (geB lo)=true then 1 else 0
def lvN(s:St)(nm:List UInt8)(lo hi:AV):Int:=lvS (usL s nm) lo hi
theorem ov_one{lo hi:AV}(hh:Fl hi)(S:List AV)(y:AV)(hy:Fl y):Does cfg (.call (.c (.func 57 [.ptr 1 0])) [.c y]) ⟨[S,[lo,hi]],[],[]⟩ (.bool (ovB hi y)) ⟨[S,[lo,hi]],[],[]⟩:=by
 have hc:=compare_any hy hh
 haveI:=hh.C
 haveI:=hy.C
 have key:Goes cfg a57 [.c c57] (initEnv [y,.ptr 1 0]) ⟨[S,[lo,hi]],[],[]⟩ (fun r=>r=(.ret (.bool (ovB hi y)),⟨[S,[lo,hi]],[],[]⟩)):=by
  unfold ovB
  generalize cmp y hi=q at hc⊢
  exact gG 60 [] trivial (.callG ([y,hi]) (.int .i64 q) hc Shuts.p ⟨rfl,rfl⟩<|.fin ((.ret (.bool (decide ((0:Int)<q))),{boxes:=[S,[lo,hi]],toks:=[],loops:=[]:Heap})) rfl)
 obtain⟨r,h,rfl⟩:=key
 have h2:lim cfg (.fn 57) ([y]++[.ptr 1 0]) ⟨[S,[lo,hi]],[],[]⟩=some (.ret (.bool (ovB hi y)),⟨[S,[lo,hi]],[],[]⟩):=by
  rw[l57];exact h
 have h3:=does_callE h2 (by show [shutA y]=[y];rw[hy.shut]) (Bool.and_false _)
 rwa [show shutA (.bool (ovB hi y))=.bool (ovB hi y)from rfl,trunc_self]at h3
theorem ge_one{lo hi:AV}(hh:Fl lo)(S:List AV)(y:AV)(hy:Fl y):Does cfg (.call (.c (.func 58 [.ptr 1 0])) [.c y]) ⟨[S,[lo,hi]],[],[]⟩ (.bool (geB lo y)) ⟨[S,[lo,hi]],[],[]⟩:=by
 have hc:=compare_any hy hh
 haveI:=hh.C
 haveI:=hy.C
 have key:Goes cfg a58 [.c c58] (initEnv [y,.ptr 1 0]) ⟨[S,[lo,hi]],[],[]⟩ (fun r=>r=(.ret (.bool (geB lo y)),⟨[S,[lo,hi]],[],[]⟩)):=by
  unfold geB
  generalize cmp y lo=q at hc⊢
  exact gG 60 [] trivial (.callG ([y,lo]) (.int .i64 q) hc Shuts.p ⟨rfl,rfl⟩<|.fin ((.ret (.bool (decide ((0:Int)≤q))),{boxes:=[S,[lo,hi]],toks:=[],loops:=[]:Heap})) rfl)
 obtain⟨r,h,rfl⟩:=key
 have h2:lim cfg (.fn 58) ([y]++[.ptr 1 0]) ⟨[S,[lo,hi]],[],[]⟩=some (.ret (.bool (geB lo y)),⟨[S,[lo,hi]],[],[]⟩):=by
  rw[l58];exact h
 have h3:=does_callE h2 (by show [shutA y]=[y];rw[hy.shut]) (Bool.and_false _)
 rwa [show shutA (.bool (geB lo y))=.bool (geB lo y)from rfl,trunc_self]at h3
theorem lv_any(s:St)(hs:StIn s)(hc:∀n∈s.nodes,n.cap.length≤1000)(nm:List UInt8){lo hi:AV}(hl:Fl lo)(hh:Fl hi):Gives cfg 18 [encSt s,.str nm,.agg [lo,hi]] (.int .i64 (lvN s nm lo hi)):=by
 refine Gives.run (l18 _ _) ?_
 have h1:=usL_any s hs hc nm
 have fl:=usL_fl s nm
 have hn:=usL_len hs nm
 unfold lvN
 generalize usL s nm=us at h1 fl hn⊢
 have d1:=anyFl (ov_one (lo:=lo) hh (encSt s).cells) us fl hn
 have d2:=anyFl (ge_one (hi:=hi) hl (encSt s).cells) us fl hn
 have h1:Gives cfg 55 [encSt s,.str nm] (rowF id us):=h1
 have e:us.map id=us:=List.map_id us
 have h1':∃k,Gives cfg 55 [encSt s,.str nm] (.sl k us)∧shutA (.sl k us)=.sl .sh us:=by
  refine⟨skF us,?_,by cases us<;>rfl⟩
  unfold rowF at h1
  rwa [e]at h1
 obtain⟨k,h2,h3⟩:=h1'
 haveI:Res (.sl k us) (.sl .sh us):=⟨h3,rfl⟩
 unfold lvS
 by_cases a:us.any (ovB hi)=true
 ·rw[if_pos a]
  rw[a]at d1
  exact let ζ1:List AV:=[.sl .sh (s.nodes.map encN),.sl .sh (s.pods.map encPd),.sl .sh (s.buds.map encB)];let ζ2:Heap:={boxes:=[(encSt s).cells,[lo,hi]],toks:=[],loops:=[]:Heap};gG 60 [] trivial (.callG ([.agg ζ1,.str nm]) (.sl .sh us) h2 ⟨rfl,rfl⟩ Res.p<|.effY d1<|.tt<|.fin ((.ret (.int .i64 2),{boxes:=[ζ1,[lo,hi]],toks:=[],loops:=[]:Heap})) rfl)
 ·rw[if_neg a]
  rw[Bool.not_eq_true]at a
  rw[a]at d1
  by_cases b:us=[]
  ·rw[if_pos b]
   have b':us.length=0:=by rw[b];rfl
   exact let ζ1:List AV:=[.sl .sh (s.nodes.map encN),.sl .sh (s.pods.map encPd),.sl .sh (s.buds.map encB)];let ζ2:Heap:={boxes:=[(encSt s).cells,[lo,hi]],toks:=[],loops:=[]:Heap};gG 60 [] trivial (.callG ([.agg ζ1,.str nm]) (.sl .sh us) h2 ⟨rfl,rfl⟩ Res.p<|.effY d1<|.ff<|.len (show lenA false (.sl .sh us)=some (.int .i64 (↑us.length))from len_sl _ _)<|.yes (show((↑us.length:Int)==(0:Int))=true from(by simp+zetaDelta [b']))<|.tt<|.fin ((.ret (.int .i64 1),{boxes:=[ζ1,[lo,hi]],toks:=[],loops:=[]:Heap})) rfl)
  ·rw[if_neg b]
   have b':¬us.length=0:=by simpa using b
   by_cases g:us.any (geB lo)=true
   ·rw[if_pos g]
    rw[g]at d2
    exact let ζ1:Heap:={boxes:=[(encSt s).cells,[lo,hi]],toks:=[],loops:=[]:Heap};let ζ2:List AV:=[.sl .sh (s.nodes.map encN),.sl .sh (s.pods.map encPd),.sl .sh (s.buds.map encB)];gG 60 [] trivial (.callG ([.agg ζ2,.str nm]) (.sl .sh us) h2 ⟨rfl,rfl⟩ Res.p<|.effY d1<|.ff<|.len (show lenA false (.sl .sh us)=some (.int .i64 (↑us.length))from len_sl _ _)<|.no (show((↑us.length:Int)==(0:Int))=false from Bool.eq_false_iff.2 (by simp+zetaDelta [b']))<|.effY d2<|.tt<|.fin ((.ret (.int .i64 1),{boxes:=[ζ2,[lo,hi]],toks:=[],loops:=[]:Heap})) rfl)
   ·rw[if_neg g]
    rw[Bool.not_eq_true]at g
    rw[g]at d2
    exact let ζ1:Heap:={boxes:=[(encSt s).cells,[lo,hi]],toks:=[],loops:=[]:Heap};let ζ2:List AV:=[.sl .sh (s.nodes.map encN),.sl .sh (s.pods.map encPd),.sl .sh (s.buds.map encB)];gG 60 [] trivial (.callG ([.agg ζ2,.str nm]) (.sl .sh us) h2 ⟨rfl,rfl⟩ Res.p<|.effY d1<|.ff<|.len (show lenA false (.sl .sh us)=some (.int .i64 (↑us.length))from len_sl _ _)<|.no (show((↑us.length:Int)==(0:Int))=false from Bool.eq_false_iff.2 (by simp+zetaDelta [b']))<|.effY d2<|.ff<|.fin ((.ret (.int .i64 0),{boxes:=[ζ2,[lo,hi]],toks:=[],loops:=[]:Heap})) rfl)
theorem bldF{lo hi:AV}(hl:Fl lo)(hh:Fl hi)(H:Heap):Does cfg (.build [.flt 0,.flt 0] [(0,1,.c lo),(1,1,.c hi)]) H (.agg [lo,hi]) H:=fun T=>by
 cases hl<;>cases hh<;>rfl
end Go.Aa.T
set_option linter.unusedVariables false
set_option linter.unusedSimpArgs false
set_option maxRecDepth 100000
namespace Go.Aa.T
open Go.Aa Go.Proofs
theorem capl{s:St}(fs:FewS s):∀n∈s.nodes,n.cap.length≤1000:=fun n hn=>by have:=(fewNd (fs.node n hn)).cap;omega
end Go.Aa.T
set_option linter.unusedVariables false
set_option linter.unusedSimpArgs false
set_option maxRecDepth 100000
namespace Go.Aa.T
open Go.Aa Go.Proofs
theorem fl_of{b:Nat}(h:(Lit.float .f64 b).wf=true):Fl (Go.Aa.fltOf b):=by
 unfold Go.Aa.fltOf
 split
 ·exact .nan
 ·rename_i hn
  exact .flt b (by simpa[NN]using hn) (by simpa[Lit.wf]using h)
theorem tyFl{k:Nat}{x:AV}(hx:TyV Tryz.prog (k+1) 27 x):Fl x:=by
 obtain⟨b,rfl,hw⟩:=tyv_float Tryz.underlying27 hx
 exact fl_of hw
end Go.Aa.T
