import Derived.Test.YthlhlfiklmmenaaGreatDoorYsank
set_option linter.unusedVariables false
set_option linter.unusedSimpArgs false
set_option maxRecDepth 100000
namespace Go.Aa.T
open Go.Aa Go.Proofs
def kV(s:St)(nm key:List UInt8):Option (List UInt8):=match cL Node.name s.nodes nm with
 |none=>none
 |some n=>oD n.labels key
theorem yh(s:St)(nm key v:List UInt8)(hs:s.nodes.length<9223372036854775807)(hl:∀n∈s.nodes,n.labels.length<9223372036854775807)(h:kV s nm key=some v):aq cfg 159 [aB s,.str nm,.str key] (.str v):=by
 refine aq.run (QL _ _) ?_
 have f:=iS s.nodes nm hs
 unfold kV at h
 cases hf:cL Node.name s.nodes nm with
 |none=>rw[hf]at h;cases h
 |some n=>
  rw[hf]at f h
  have g:=pR n.labels key (hl n (lZ hf))
  simp only at h
  rw[h]at g
  have g:aq cfg 223 [.sl .sh (n.labels.map aI),.str key] (.tuple [.str v,.bool true]):=g
  exact let ag:List AV:=[.str n.name,.sl .sh (n.cap.map ai),.sl .sh (n.labels.map aI),.sl .sh (n.aV.map bu),.bool n.br];let ax:List AV:=[.sl .sh (n.labels.map aI),.str key];let aS:List AV:=[.sl .sh (s.nodes.map aA),.str nm];gG 90 [] trivial (.aG (aS) (.tuple [.agg ag,.bool true]) f<|.aG (ax) (.tuple [.str v,.bool true]) g<|.ff<|.fin ((.ret (.str v),{boxes:=[[.sl .sh (s.nodes.map aA),.sl .sh (s.aj.map af),.sl .sh (s.aY.map aP)],ag],toks:=[],loops:=[]:Heap})) rfl)
theorem yj(s:St)(nm key:List UInt8)(hs:s.nodes.length<9223372036854775807)(hl:∀n∈s.nodes,n.labels.length<9223372036854775807)(h:kV s nm key=none):kf cfg 159 [aB s,.str nm,.str key] (iA 10):=by
 refine kf.run (QL _ _) ?_
 have f:=iS s.nodes nm hs
 have SL:kf cfg 68 [.int .i64 10] (iA 10):=gj (by decide)
 unfold kV at h
 cases hf:cL Node.name s.nodes nm with
 |none=>
  rw[hf]at f
  have g:aq cfg 223 [.sl .sh [],.str key] (.tuple [.str [],.bool false]):=pR [] key (by simp)
  exact let ag:List AV:=[.str [],.sl .sh [],.sl .sh [],.sl .sh [],.bool false];let ax:List AV:=[.sl .sh (s.nodes.map aA),.str nm];gG 90 [] trivial (.aG (ax) (.tuple [.agg ag,.bool false]) f<|.aG ([.sl .sh [],.str key]) (.tuple [.str [],.bool false]) g<|.tt<|.jP ([.int .i64 10]) ({boxes:=[[.sl .sh (s.nodes.map aA),.sl .sh (s.aj.map af),.sl .sh (s.aY.map aP)],ag],toks:=[],loops:=[]:Heap}) SL ⟨rfl,rfl⟩ rfl rfl)
 |some n=>
  rw[hf]at f h
  have g:=pR n.labels key (hl n (lZ hf))
  simp only at h
  rw[h]at g
  have g:aq cfg 223 [.sl .sh (n.labels.map aI),.str key] (.tuple [.str [],.bool false]):=g
  exact let ag:List AV:=[.str n.name,.sl .sh (n.cap.map ai),.sl .sh (n.labels.map aI),.sl .sh (n.aV.map bu),.bool n.br];let ax:List AV:=[.sl .sh (n.labels.map aI),.str key];let aS:List AV:=[.sl .sh (s.nodes.map aA),.str nm];gG 90 [] trivial (.aG (aS) (.tuple [.agg ag,.bool true]) f<|.aG (ax) (.tuple [.str [],.bool false]) g<|.tt<|.jP ([.int .i64 10]) ({boxes:=[[.sl .sh (s.nodes.map aA),.sl .sh (s.aj.map af),.sl .sh (s.aY.map aP)],ag],toks:=[],loops:=[]:Heap}) SL ⟨rfl,rfl⟩ rfl rfl)
def NV(e:Int)(H:Heap)(r:cZ×Heap):Prop:=(e=0∧r=(.ret (.tuple []),H))∨(e≠0∧r=(.cS (iA e),H))
theorem Kb(s:St)(p x:cT)(d v:List UInt8)(ex:List (List AV))(hs:s.nodes.length<9223372036854775807)(hl:∀n∈s.nodes,n.labels.length<9223372036854775807)(h:kV s x.node p.key=some v):
 bA cfg a226 [.c Cj] (ay [.ptr 0 0,.ptr (ex.length+3) 0,.ptr 1 0,.ptr 2 0]) ⟨(aB s).cells::(af p).cells::[.str d]::(ex++[(af x).cells]),[],[]⟩ (NV (if v=d then 0 else 10) ⟨(aB s).cells::(af p).cells::[.str d]::(ex++[(af x).cells]),[],[]⟩):=by
 have hd:=yh s x.node p.key v hs hl h
 have SL:kf cfg 68 [.int .i64 10] (iA 10):=gj (by decide)
 by_cases hv:v=d
 ·subst hv
  rw[if_pos rfl]
  exact let ax:List AV:=[.sl .sh (s.nodes.map aA),.sl .sh (s.aj.map af),.sl .sh (s.aY.map aP)];let ag:Heap:={boxes:=ax::[.str p.name,.str p.owner,.int .i64 p.prio,.sl .sh (p.need.map ai),.sl .sh (p.labels.map aI),.sl .sh (p.bS.map aX),.sl .sh (p.bh.map aQ),.str p.key,.int .i64 p.most,.str p.node,.bool p.hold]::[.str v]::(ex++[[AV.str x.name,.str x.owner,.int .i64 x.prio,.sl .sh (x.need.map ai),.sl .sh (x.labels.map aI),.sl .sh (x.bS.map aX),.sl .sh (x.bh.map aQ),.str x.key,.int .i64 x.most,.str x.node,.bool x.hold]]),toks:=[],loops:=[]:Heap};gG 90 [] trivial (.load (lB true 3 ag 0 0 (.agg ax) ax)<|.load (lB false 1 ag (ex.length+3) 9 (.str x.node) [.str x.name,.str x.owner,.int .i64 x.prio,.sl .sh (x.need.map ai),.sl .sh (x.labels.map aI),.sl .sh (x.bS.map aX),.sl .sh (x.bh.map aQ),.str x.key,.int .i64 x.most,.str x.node,.bool x.hold])<|.load (lB false 1 ag 1 7 (.str p.key) [.str p.name,.str p.owner,.int .i64 p.prio,.sl .sh (p.need.map ai),.sl .sh (p.labels.map aI),.sl .sh (p.bS.map aX),.sl .sh (p.bh.map aQ),.str p.key,.int .i64 p.most,.str p.node,.bool p.hold])<|.aG ([.agg ax,.str x.node,.str p.key]) (.str v) hd<|.load (lB false 1 ag 2 0 (.str v) [.str v])<|.no (show(!v==v)=false from by have hh:(v==v)=true:=(by simp+zetaDelta);simp[hh])<|.fin ((.ret (.tuple []),ag)) (by exact .inl ⟨rfl,rfl⟩))
 ·rw[if_neg hv]
  exact let ax:List AV:=[.sl .sh (s.nodes.map aA),.sl .sh (s.aj.map af),.sl .sh (s.aY.map aP)];let ag:Heap:={boxes:=ax::[.str p.name,.str p.owner,.int .i64 p.prio,.sl .sh (p.need.map ai),.sl .sh (p.labels.map aI),.sl .sh (p.bS.map aX),.sl .sh (p.bh.map aQ),.str p.key,.int .i64 p.most,.str p.node,.bool p.hold]::[.str d]::(ex++[[AV.str x.name,.str x.owner,.int .i64 x.prio,.sl .sh (x.need.map ai),.sl .sh (x.labels.map aI),.sl .sh (x.bS.map aX),.sl .sh (x.bh.map aQ),.str x.key,.int .i64 x.most,.str x.node,.bool x.hold]]),toks:=[],loops:=[]:Heap};gG 90 [] trivial (.load (lB true 3 ag 0 0 (.agg ax) ax)<|.load (lB false 1 ag (ex.length+3) 9 (.str x.node) [.str x.name,.str x.owner,.int .i64 x.prio,.sl .sh (x.need.map ai),.sl .sh (x.labels.map aI),.sl .sh (x.bS.map aX),.sl .sh (x.bh.map aQ),.str x.key,.int .i64 x.most,.str x.node,.bool x.hold])<|.load (lB false 1 ag 1 7 (.str p.key) [.str p.name,.str p.owner,.int .i64 p.prio,.sl .sh (p.need.map ai),.sl .sh (p.labels.map aI),.sl .sh (p.bS.map aX),.sl .sh (p.bh.map aQ),.str p.key,.int .i64 p.most,.str p.node,.bool p.hold])<|.aG ([.agg ax,.str x.node,.str p.key]) (.str v) hd<|.load (lB false 1 ag 2 0 (.str d) [.str d])<|.yes (show(!v==d)=true from by have hh:¬((v==d)=true):=(by simpa using hv);simp[hh])<|.jP ([.int .i64 10]) (ag) SL ⟨rfl,rfl⟩ rfl (by exact .inr ⟨by decide,rfl⟩))
def vz:List aK:=[⟨some 4,.load true 3 (.t 0),none,[]⟩,⟨some 5,.bn 9 1 (.t 1),none,[]⟩,⟨some 6,.load false 1 (.t 5),none,[1]⟩,⟨some 7,.bn 7 1 (.t 2),none,[]⟩,⟨some 8,.load false 1 (.t 7),none,[3]⟩,⟨some 9,.call (.c (.func 159 [])) [(.t 4),(.t 6),(.t 8)],none,[3,4,1,2,0]⟩,⟨some 10,.load false 1 (.t 3),none,[]⟩,⟨some 11,.bin .neq (.t 9) (.t 10),none,[6,0,2,1,4,3,5]⟩]
theorem Kc(s:St)(p x:cT)(d:List UInt8)(ex:List (List AV))(hs:s.nodes.length<9223372036854775807)(hl:∀n∈s.nodes,n.labels.length<9223372036854775807)(h:kV s x.node p.key=none)(T:Env)(t0:T 0=.ptr 0 0)(t1:T 1=.ptr (ex.length+3) 0)(t2:T 2=.ptr 1 0)(t3:T 3=.ptr 2 0):
 dK (lim cfg) true vz T ⟨(aB s).cells::(af p).cells::[.str d]::(ex++[(af x).cells]),[],[]⟩=
 some (.cS (iA 10) ⟨(aB s).cells::(af p).cells::[.str d]::(ex++[(af x).cells]),[],[]⟩):=by
 have hb:(⟨(aB s).cells::(af p).cells::[.str d]::(ex++[(af x).cells]),[],[]⟩:Heap).boxes[ex.length+3]?=some (af x).cells:=by
  show((aB s).cells::(af p).cells::[.str d]::(ex++[(af x).cells]))[ex.length+3]?=_
  rw[List.getElem?_cons_succ,List.getElem?_cons_succ,List.getElem?_cons_succ,List.getElem?_append_right (Nat.le_refl _),Nat.sub_self];rfl
 have hp:=yj s x.node p.key hs hl h
 have m2:=fun T H=>Lg (xs:=[aB s,.str x.node,.str p.key]) hp ⟨rfl,rfl⟩ rfl H T
 have l1:=fun T=>nP (H:=⟨(aB s).cells::(af p).cells::[.str d]::(ex++[(af x).cells]),[],[]⟩) (k:=0) (agg:=true) (n:=3) (off:=0) (v:=aB s) (cs:=(aB s).cells) rfl rfl T
 have l2:=fun T=>nP (agg:=false) (n:=1) (off:=9) (v:=.str x.node) hb rfl T
 have l3:=fun T=>nP (H:=⟨(aB s).cells::(af p).cells::[.str d]::(ex++[(af x).cells]),[],[]⟩) (k:=1) (agg:=false) (n:=1) (off:=7) (v:=.str p.key) (cs:=(af p).cells) rfl rfl T
 have l4:=fun T=>nP (H:=⟨(aB s).cells::(af p).cells::[.str d]::(ex++[(af x).cells]),[],[]⟩) (k:=2) (agg:=false) (n:=1) (off:=0) (v:=.str d) (cs:=[.str d]) rfl rfl T
 generalize(⟨(aB s).cells::(af p).cells::[.str d]::(ex++[(af x).cells]),[],[]⟩:Heap)=H at l1 l2 l3 l4⊢
 have st:∀(T:Env)(o:gy)(q:gy)(r:Option Out),ic T o=q→aM (lim cfg) q T H=r→aM (lim cfg) o T H=r:=fun T o q r h1 h2=>by
  rw[←nC _ T T,h1];exact h2
 change dJ (lim cfg) 0 vz none T H=_
 unfold vz
 refine Eq.trans (lN (u:=aB s) (H':=H) rfl ?h) ?_
 case h=>exact st _ _ _ _ (by simp only[ic,cl,ev,t0]) (l1 _)
 refine Eq.trans (lN (u:=.ptr (ex.length+3) 9) (H':=H) rfl ?h) ?_
 case h=>simp[aM,aR,cj,ev,aU,hO,t1,BR]
 refine Eq.trans (lN (u:=.str x.node) (H':=H) rfl ?h) ?_
 case h=>exact st _ _ _ _ (by simp[ic,cl,ev,aU,hO]) (l2 _)
 refine Eq.trans (lN (u:=.ptr 1 7) (H':=H) rfl ?h) ?_
 case h=>simp[aM,aR,cj,ev,aU,hO,t2,BR]
 refine Eq.trans (lN (u:=.str p.key) (H':=H) rfl ?h) ?_
 case h=>exact st _ _ _ _ (by simp[ic,cl,ev,aU,hO]) (l3 _)
 refine Eq.trans (He (v:=iA 10) (H':=H) rfl ?h) ?_
 case h=>exact st _ _ _ _ (by simp[ic,cl,ev,aU,hO]) (m2 _ _)
 refine Eq.trans (Dg (u:=.str d) (H':=H) rfl rfl ?h) ?_
 case h=>exact st _ _ _ _ (by simp[ic,cl,ev,aU,hO,t3]) (l4 _)
 refine Eq.trans (Df rfl) ?_
 rfl
theorem NW(s:St)(p x:cT)(d:List UInt8)(ex:List (List AV))(hs:s.nodes.length<9223372036854775807)(hl:∀n∈s.nodes,n.labels.length<9223372036854775807)(h:kV s x.node p.key=none):
 bA cfg a226 [.c Cj] (ay [.ptr 0 0,.ptr (ex.length+3) 0,.ptr 1 0,.ptr 2 0]) ⟨(aB s).cells::(af p).cells::[.str d]::(ex++[(af x).cells]),[],[]⟩ (NV 10 ⟨(aB s).cells::(af p).cells::[.str d]::(ex++[(af x).cells]),[],[]⟩):=by
 have r:=Kc s p x d ex hs hl h (ay [.ptr 0 0,.ptr (ex.length+3) 0,.ptr 1 0,.ptr 2 0]) rfl rfl rfl rfl
 refine⟨_,?_,.inr ⟨by decide,rfl⟩⟩
 unfold Cj
 rw[wT]
 erw [o6]
 change(match dK (lim cfg) true vz _ _ with|some (.env T' H')=>_|some (.cS v H')=>_|none=>_)=_
 rw[r]
def bV(s:St)(p:cT)(d:List UInt8)(x:cT):Bool:= !(p.owner==[]|| !(x.owner==p.owner)||x.hold||x.name==p.name||x.node==[])&&kV s x.node p.key==some d
def bW(s:St)(p:cT)(d:List UInt8):Nat:=(s.aj.filter (bV s p d)).length
theorem Kd(s:St)(p x:cT)(d:List UInt8)(ex:List (List AV))(hs:s.nodes.length<9223372036854775807)(hl:∀n∈s.nodes,n.labels.length<9223372036854775807):
 cv cfg (.call (.c (.func 66 [])) [.c (.func 226 [.ptr 0 0,.ptr (ex.length+3) 0,.ptr 1 0,.ptr 2 0])]) ⟨(aB s).cells::(af p).cells::[.str d]::(ex++[(af x).cells]),[],[]⟩
  (.int .i64 (if kV s x.node p.key=some d then 0 else 10)) ⟨(aB s).cells::(af p).cells::[.str d]::(ex++[(af x).cells]),[],[]⟩:=by
 obtain⟨e,he,r,hr,hR⟩:∃e,(if kV s x.node p.key=some d then(0:Int)else 10)=e∧bA cfg a226 [.c Cj] (ay [.ptr 0 0,.ptr (ex.length+3) 0,.ptr 1 0,.ptr 2 0]) ⟨(aB s).cells::(af p).cells::[.str d]::(ex++[(af x).cells]),[],[]⟩ (NV e ⟨(aB s).cells::(af p).cells::[.str d]::(ex++[(af x).cells]),[],[]⟩):=by
  refine⟨_,rfl,?_⟩
  cases hv:kV s x.node p.key with
  |none=>rw[if_neg (by simp)];exact NW s p x d ex hs hl hv
  |some v=>
   have:=Kb s p x d v ex hs hl hv
   by_cases h:v=d
   ·rw[if_pos h]at this;rw[if_pos (by rw[h])];exact this
   ·rw[if_neg h]at this;rw[if_neg (by simpa using h)];exact this
 rw[he]
 generalize(⟨(aB s).cells::(af p).cells::[.str d]::(ex++[(af x).cells]),[],[]⟩:Heap)=H at hr hR⊢
 have ht:lim cfg (.fn 66) [.func 226 [.ptr 0 0,.ptr (ex.length+3) 0,.ptr 1 0,.ptr 2 0]] H=some (.ret (.int .i64 e),H):=by
  rw[ke rfl,UN,hr]
  rcases hR with⟨h0,h1⟩|⟨h0,h1⟩
  ·subst h1;subst h0;rfl
  ·subst h1;rfl
 have hd:=bU (xs:=[.func 226 [.ptr 0 0,.ptr (ex.length+3) 0,.ptr 1 0,.ptr 2 0]]) (caps:=[]) ht rfl rfl
 rwa [show bz (.int .i64 e)=.int .i64 e from rfl,dc]at hd
theorem HG(s:St)(p:cT)(d:List UInt8)(hp:s.aj.length≤1000)(hs:s.nodes.length<9223372036854775807)(hl:∀n∈s.nodes,n.labels.length<9223372036854775807):
 ∀(post:List cT)(i:Nat)(hd:s.aj.drop i=post)(n:Nat)(hn:n≤i)(ex:List (List AV))(T:Env)
 (hT:Has T [(3,.ptr 0 0),(4,.ptr 1 0),(5,.ptr 2 0),(7,.int .i64 n),(11,.sl .sh (s.aj.map af)),(12,.int .i64 s.aj.length),(13,.int .i64 i)]),
 bA cfg a160 kr T ⟨(aB s).cells::(af p).cells::[.str d]::ex,[],[]⟩ (aJ (.int .i64 ((n+(post.filter (bV s p d)).length:Nat):Int))):=by
 intro post
 induction post with
 |nil=>
  intro i hd n hn ex T hT
  have hge:=bf hd
  rw[show n+(([]:List cT).filter (bV s p d)).length=n by simp]
  exact gG 60 _ hT (.no (dF ((↑i:Int)<(↑s.aj.length:Int)))<|.fin ((.ret (.int .i64 ↑n),{boxes:=[.sl .sh (s.nodes.map aA),.sl .sh (s.aj.map af),.sl .sh (s.aY.map aP)]::[.str p.name,.str p.owner,.int .i64 p.prio,.sl .sh (p.need.map ai),.sl .sh (p.labels.map aI),.sl .sh (p.bS.map aX),.sl .sh (p.bh.map aQ),.str p.key,.int .i64 p.most,.str p.node,.bool p.hold]::[.str d]::ex,toks:=[],loops:=[]:Heap})) rfl)
 |cons x post ih=>
  intro i hd n hn ex T hT
  have hlt:=bg hd
  have cq:=aL hd
  have cn:cc 11 (.sl .sh (s.aj.map af)) (.int .i64 (i:Nat))=some (.ref (af x).cells):=bx (f:=af) hd rfl
  have ct:=Kd s p x d ex hs hl
  have HH:=ih (i+1) cq n (by omega) (ex++[(af x).cells])
  by_cases q1:p.owner=[]
  ·have e:n+((x::post).filter (bV s p d)).length=n+(post.filter (bV s p d)).length:=by simp[List.filter_cons,bV,q1]
   rw[e]
   exact let ag:List AV:=[.str p.name,.str p.owner,.int .i64 p.prio,.sl .sh (p.need.map ai),.sl .sh (p.labels.map aI),.sl .sh (p.bS.map aX),.sl .sh (p.bh.map aQ),.str p.key,.int .i64 p.most,.str p.node,.bool p.hold];let ax:List AV:=[.str x.name,.str x.owner,.int .i64 x.prio,.sl .sh (x.need.map ai),.sl .sh (x.labels.map aI),.sl .sh (x.bS.map aX),.sl .sh (x.bh.map aQ),.str x.key,.int .i64 x.most,.str x.node,.bool x.hold];let aS:List AV:=[.sl .sh (s.nodes.map aA),.sl .sh (s.aj.map af),.sl .sh (s.aY.map aP)];let bt:Heap:={boxes:=aS::ag::[.str d]::(ex++[ax]),toks:=[],loops:=[]:Heap};let bR:List AV:=[.str [],.str [],.int .i64 0,.sl .full [],.sl .full [],.sl .full [],.sl .full [],.str [],.int .i64 0,.str [],.bool false];gG 160 _ hT (.yes (dT ((↑i:Int)<(↑s.aj.length:Int)))<|.idx cn<|.load (rfl:ak true 11 {boxes:=aS::ag::[.str d]::ex,toks:=[],loops:=[]:Heap} (.ref ax)=some (.agg ax))<|.store (show aW 11 {boxes:=aS::ag::[.str d]::(ex++[bR]),toks:=[],loops:=[]:Heap} (.ptr (aS::ag::[.str d]::ex).length 0) (.agg ax)=some (bt)from aC (cs:=bR) (cs':=ax) (by simp+zetaDelta) rfl (by simp+zetaDelta [List.set_append]))<|.load (lB false 1 bt 1 1 (.str p.owner) ag)<|.yes (show(p.owner==[])=true from(by simp+zetaDelta [q1]))<|.tt<|.tt<|.tt<|.tt<|.bin (iI i)<|.aT kr [(3,.ptr 0 0),(4,.ptr 1 0),(5,.ptr 2 0),(7,.int .i64 ↑n),(11,.sl .sh (s.aj.map af)),(12,.int .i64 (↑s.aj.length)),(13,.int .i64 (↑(i+1)))] (bt) (fun T hT=>(HH T hT)))
  ·by_cases q2:x.owner=p.owner
   ·cases q3:x.hold with
    |true=>
     have e:n+((x::post).filter (bV s p d)).length=n+(post.filter (bV s p d)).length:=by simp[List.filter_cons,bV,q3]
     rw[e]
     exact let ax:List AV:=[.str p.name,.str p.owner,.int .i64 p.prio,.sl .sh (p.need.map ai),.sl .sh (p.labels.map aI),.sl .sh (p.bS.map aX),.sl .sh (p.bh.map aQ),.str p.key,.int .i64 p.most,.str p.node,.bool p.hold];let aS:List AV:=[.str x.name,.str x.owner,.int .i64 x.prio,.sl .sh (x.need.map ai),.sl .sh (x.labels.map aI),.sl .sh (x.bS.map aX),.sl .sh (x.bh.map aQ),.str x.key,.int .i64 x.most,.str x.node,.bool x.hold];let bt:List AV:=[.sl .sh (s.nodes.map aA),.sl .sh (s.aj.map af),.sl .sh (s.aY.map aP)];let ag:Heap:={boxes:=bt::ax::[.str d]::(ex++[aS]),toks:=[],loops:=[]:Heap};let bR:List AV:=[.str [],.str [],.int .i64 0,.sl .full [],.sl .full [],.sl .full [],.sl .full [],.str [],.int .i64 0,.str [],.bool false];gG 160 _ hT (.yes (dT ((↑i:Int)<(↑s.aj.length:Int)))<|.idx cn<|.load (rfl:ak true 11 {boxes:=bt::ax::[.str d]::ex,toks:=[],loops:=[]:Heap} (.ref aS)=some (.agg aS))<|.store (show aW 11 {boxes:=bt::ax::[.str d]::(ex++[bR]),toks:=[],loops:=[]:Heap} (.ptr (bt::ax::[.str d]::ex).length 0) (.agg aS)=some (ag)from aC (cs:=bR) (cs':=aS) (by simp+zetaDelta) rfl (by simp+zetaDelta [List.set_append]))<|.load (lB false 1 ag 1 1 (.str p.owner) ax)<|.no (show(p.owner==[])=false from Bool.eq_false_iff.2 (by simp+zetaDelta [q1]))<|.load (show ak false 1 ag (.ptr (bt::ax::[.str d]::ex).length 1)=some (.str x.owner)from ah (cs:=aS) (by simp+zetaDelta) rfl)<|.load (lB false 1 ag 1 1 (.str p.owner) ax)<|.no (show(!x.owner==p.owner)=false from by have hh:(x.owner==p.owner)=true:=(by simp+zetaDelta [q2]);simp[hh])<|.load (show ak false 1 ag (.ptr (bt::ax::[.str d]::ex).length 10)=some (.bool x.hold)from ah (cs:=aS) (by simp+zetaDelta) rfl)<|.yes (show(x.hold)=true from(by omega))<|.tt<|.tt<|.bin (iI i)<|.aT kr [(3,.ptr 0 0),(4,.ptr 1 0),(5,.ptr 2 0),(7,.int .i64 ↑n),(11,.sl .sh (s.aj.map af)),(12,.int .i64 (↑s.aj.length)),(13,.int .i64 (↑(i+1)))] (ag) (fun T hT=>(HH T hT)))
    |false=>
     by_cases q4:x.name=p.name
     ·have e:n+((x::post).filter (bV s p d)).length=n+(post.filter (bV s p d)).length:=by simp[List.filter_cons,bV,q4]
      rw[e]
      exact let ax:List AV:=[.str p.name,.str p.owner,.int .i64 p.prio,.sl .sh (p.need.map ai),.sl .sh (p.labels.map aI),.sl .sh (p.bS.map aX),.sl .sh (p.bh.map aQ),.str p.key,.int .i64 p.most,.str p.node,.bool p.hold];let aS:List AV:=[.str x.name,.str x.owner,.int .i64 x.prio,.sl .sh (x.need.map ai),.sl .sh (x.labels.map aI),.sl .sh (x.bS.map aX),.sl .sh (x.bh.map aQ),.str x.key,.int .i64 x.most,.str x.node,.bool x.hold];let bt:List AV:=[.sl .sh (s.nodes.map aA),.sl .sh (s.aj.map af),.sl .sh (s.aY.map aP)];let ag:Heap:={boxes:=bt::ax::[.str d]::(ex++[aS]),toks:=[],loops:=[]:Heap};let bR:List AV:=[.str [],.str [],.int .i64 0,.sl .full [],.sl .full [],.sl .full [],.sl .full [],.str [],.int .i64 0,.str [],.bool false];gG 160 _ hT (.yes (dT ((↑i:Int)<(↑s.aj.length:Int)))<|.idx cn<|.load (rfl:ak true 11 {boxes:=bt::ax::[.str d]::ex,toks:=[],loops:=[]:Heap} (.ref aS)=some (.agg aS))<|.store (show aW 11 {boxes:=bt::ax::[.str d]::(ex++[bR]),toks:=[],loops:=[]:Heap} (.ptr (bt::ax::[.str d]::ex).length 0) (.agg aS)=some (ag)from aC (cs:=bR) (cs':=aS) (by simp+zetaDelta) rfl (by simp+zetaDelta [List.set_append]))<|.load (lB false 1 ag 1 1 (.str p.owner) ax)<|.no (show(p.owner==[])=false from Bool.eq_false_iff.2 (by simp+zetaDelta [q1]))<|.load (show ak false 1 ag (.ptr (bt::ax::[.str d]::ex).length 1)=some (.str x.owner)from ah (cs:=aS) (by simp+zetaDelta) rfl)<|.load (lB false 1 ag 1 1 (.str p.owner) ax)<|.no (show(!x.owner==p.owner)=false from by have hh:(x.owner==p.owner)=true:=(by simp+zetaDelta [q2]);simp[hh])<|.load (show ak false 1 ag (.ptr (bt::ax::[.str d]::ex).length 10)=some (.bool x.hold)from ah (cs:=aS) (by simp+zetaDelta) rfl)<|.no (show(x.hold)=false from Bool.eq_false_iff.2 (by simp+zetaDelta [q3]))<|.load (show ak false 1 ag (.ptr (bt::ax::[.str d]::ex).length 0)=some (.str x.name)from ah (cs:=aS) (by simp+zetaDelta) rfl)<|.load (lB false 1 ag 1 0 (.str p.name) ax)<|.yes (show(x.name==p.name)=true from(by simp+zetaDelta [q4]))<|.tt<|.bin (iI i)<|.aT kr [(3,.ptr 0 0),(4,.ptr 1 0),(5,.ptr 2 0),(7,.int .i64 ↑n),(11,.sl .sh (s.aj.map af)),(12,.int .i64 (↑s.aj.length)),(13,.int .i64 (↑(i+1)))] (ag) (fun T hT=>(HH T hT)))
     ·by_cases q5:x.node=[]
      ·have e:n+((x::post).filter (bV s p d)).length=n+(post.filter (bV s p d)).length:=by simp[List.filter_cons,bV,q5]
       rw[e]
       exact let ax:List AV:=[.str p.name,.str p.owner,.int .i64 p.prio,.sl .sh (p.need.map ai),.sl .sh (p.labels.map aI),.sl .sh (p.bS.map aX),.sl .sh (p.bh.map aQ),.str p.key,.int .i64 p.most,.str p.node,.bool p.hold];let aS:List AV:=[.str x.name,.str x.owner,.int .i64 x.prio,.sl .sh (x.need.map ai),.sl .sh (x.labels.map aI),.sl .sh (x.bS.map aX),.sl .sh (x.bh.map aQ),.str x.key,.int .i64 x.most,.str x.node,.bool x.hold];let bt:List AV:=[.sl .sh (s.nodes.map aA),.sl .sh (s.aj.map af),.sl .sh (s.aY.map aP)];let ag:Heap:={boxes:=bt::ax::[.str d]::(ex++[aS]),toks:=[],loops:=[]:Heap};let bR:List AV:=[.str [],.str [],.int .i64 0,.sl .full [],.sl .full [],.sl .full [],.sl .full [],.str [],.int .i64 0,.str [],.bool false];gG 160 _ hT (.yes (dT ((↑i:Int)<(↑s.aj.length:Int)))<|.idx cn<|.load (rfl:ak true 11 {boxes:=bt::ax::[.str d]::ex,toks:=[],loops:=[]:Heap} (.ref aS)=some (.agg aS))<|.store (show aW 11 {boxes:=bt::ax::[.str d]::(ex++[bR]),toks:=[],loops:=[]:Heap} (.ptr (bt::ax::[.str d]::ex).length 0) (.agg aS)=some (ag)from aC (cs:=bR) (cs':=aS) (by simp+zetaDelta) rfl (by simp+zetaDelta [List.set_append]))<|.load (lB false 1 ag 1 1 (.str p.owner) ax)<|.no (show(p.owner==[])=false from Bool.eq_false_iff.2 (by simp+zetaDelta [q1]))<|.load (show ak false 1 ag (.ptr (bt::ax::[.str d]::ex).length 1)=some (.str x.owner)from ah (cs:=aS) (by simp+zetaDelta) rfl)<|.load (lB false 1 ag 1 1 (.str p.owner) ax)<|.no (show(!x.owner==p.owner)=false from by have hh:(x.owner==p.owner)=true:=(by simp+zetaDelta [q2]);simp[hh])<|.load (show ak false 1 ag (.ptr (bt::ax::[.str d]::ex).length 10)=some (.bool x.hold)from ah (cs:=aS) (by simp+zetaDelta) rfl)<|.no (show(x.hold)=false from Bool.eq_false_iff.2 (by simp+zetaDelta [q3]))<|.load (show ak false 1 ag (.ptr (bt::ax::[.str d]::ex).length 0)=some (.str x.name)from ah (cs:=aS) (by simp+zetaDelta) rfl)<|.load (lB false 1 ag 1 0 (.str p.name) ax)<|.no (show(x.name==p.name)=false from Bool.eq_false_iff.2 (by simp+zetaDelta [q4]))<|.load (show ak false 1 ag (.ptr (bt::ax::[.str d]::ex).length 9)=some (.str x.node)from ah (cs:=aS) (by simp+zetaDelta) rfl)<|.yes (show(x.node==[])=true from(by simp+zetaDelta [q5]))<|.bin (iI i)<|.aT kr [(3,.ptr 0 0),(4,.ptr 1 0),(5,.ptr 2 0),(7,.int .i64 ↑n),(11,.sl .sh (s.aj.map af)),(12,.int .i64 (↑s.aj.length)),(13,.int .i64 (↑(i+1)))] (ag) (fun T hT=>(HH T hT)))
      ·by_cases q6:kV s x.node p.key=some d
       ·have e:n+((x::post).filter (bV s p d)).length=(n+1)+(post.filter (bV s p d)).length:=by simp[List.filter_cons,bV,q1,q2,q3,q4,q5,q6];omega
        rw[e]
        rw[if_pos q6]at ct
        have ih1:=ih (i+1) cq (n+1) (by omega) (ex++[(af x).cells])
        exact let ax:List AV:=[.str p.name,.str p.owner,.int .i64 p.prio,.sl .sh (p.need.map ai),.sl .sh (p.labels.map aI),.sl .sh (p.bS.map aX),.sl .sh (p.bh.map aQ),.str p.key,.int .i64 p.most,.str p.node,.bool p.hold];let aS:List AV:=[.str x.name,.str x.owner,.int .i64 x.prio,.sl .sh (x.need.map ai),.sl .sh (x.labels.map aI),.sl .sh (x.bS.map aX),.sl .sh (x.bh.map aQ),.str x.key,.int .i64 x.most,.str x.node,.bool x.hold];let bt:List AV:=[.sl .sh (s.nodes.map aA),.sl .sh (s.aj.map af),.sl .sh (s.aY.map aP)];let ag:Heap:={boxes:=bt::ax::[.str d]::(ex++[aS]),toks:=[],loops:=[]:Heap};let bR:List AV:=[.str [],.str [],.int .i64 0,.sl .full [],.sl .full [],.sl .full [],.sl .full [],.str [],.int .i64 0,.str [],.bool false];let dm:Heap:={boxes:=(aB s).cells::(af p).cells::[.str d]::(ex++[(af x).cells]),toks:=[],loops:=[]:Heap};gG 160 _ hT (.yes (dT ((↑i:Int)<(↑s.aj.length:Int)))<|.idx cn<|.load (rfl:ak true 11 {boxes:=bt::ax::[.str d]::ex,toks:=[],loops:=[]:Heap} (.ref aS)=some (.agg aS))<|.store (show aW 11 {boxes:=bt::ax::[.str d]::(ex++[bR]),toks:=[],loops:=[]:Heap} (.ptr (bt::ax::[.str d]::ex).length 0) (.agg aS)=some (ag)from aC (cs:=bR) (cs':=aS) (by simp+zetaDelta) rfl (by simp+zetaDelta [List.set_append]))<|.load (lB false 1 ag 1 1 (.str p.owner) ax)<|.no (show(p.owner==[])=false from Bool.eq_false_iff.2 (by simp+zetaDelta [q1]))<|.load (show ak false 1 ag (.ptr (bt::ax::[.str d]::ex).length 1)=some (.str x.owner)from ah (cs:=aS) (by simp+zetaDelta) rfl)<|.load (lB false 1 ag 1 1 (.str p.owner) ax)<|.no (show(!x.owner==p.owner)=false from by have hh:(x.owner==p.owner)=true:=(by simp+zetaDelta [q2]);simp[hh])<|.load (show ak false 1 ag (.ptr (bt::ax::[.str d]::ex).length 10)=some (.bool x.hold)from ah (cs:=aS) (by simp+zetaDelta) rfl)<|.no (show(x.hold)=false from Bool.eq_false_iff.2 (by simp+zetaDelta [q3]))<|.load (show ak false 1 ag (.ptr (bt::ax::[.str d]::ex).length 0)=some (.str x.name)from ah (cs:=aS) (by simp+zetaDelta) rfl)<|.load (lB false 1 ag 1 0 (.str p.name) ax)<|.no (show(x.name==p.name)=false from Bool.eq_false_iff.2 (by simp+zetaDelta [q4]))<|.load (show ak false 1 ag (.ptr (bt::ax::[.str d]::ex).length 9)=some (.str x.node)from ah (cs:=aS) (by simp+zetaDelta) rfl)<|.no (show(x.node==[])=false from Bool.eq_false_iff.2 (by simp+zetaDelta [q5]))<|.cw ct<|.tt<|.bin (iI n)<|.bin (iI i)<|.aT kr [(3,.ptr 0 0),(4,.ptr 1 0),(5,.ptr 2 0),(7,.int .i64 (↑(n+1):Int)),(11,.sl .sh (s.aj.map af)),(12,.int .i64 (↑s.aj.length)),(13,.int .i64 (↑(i+1)))] (ag) (fun T hT=>(ih1 T hT)))
       ·have e:n+((x::post).filter (bV s p d)).length=n+(post.filter (bV s p d)).length:=by simp[List.filter_cons,bV,q6]
        rw[e]
        rw[if_neg q6]at ct
        exact let ax:List AV:=[.str p.name,.str p.owner,.int .i64 p.prio,.sl .sh (p.need.map ai),.sl .sh (p.labels.map aI),.sl .sh (p.bS.map aX),.sl .sh (p.bh.map aQ),.str p.key,.int .i64 p.most,.str p.node,.bool p.hold];let aS:List AV:=[.str x.name,.str x.owner,.int .i64 x.prio,.sl .sh (x.need.map ai),.sl .sh (x.labels.map aI),.sl .sh (x.bS.map aX),.sl .sh (x.bh.map aQ),.str x.key,.int .i64 x.most,.str x.node,.bool x.hold];let bt:List AV:=[.sl .sh (s.nodes.map aA),.sl .sh (s.aj.map af),.sl .sh (s.aY.map aP)];let ag:Heap:={boxes:=bt::ax::[.str d]::(ex++[aS]),toks:=[],loops:=[]:Heap};let bR:List AV:=[.str [],.str [],.int .i64 0,.sl .full [],.sl .full [],.sl .full [],.sl .full [],.str [],.int .i64 0,.str [],.bool false];let dm:Heap:={boxes:=(aB s).cells::(af p).cells::[.str d]::(ex++[(af x).cells]),toks:=[],loops:=[]:Heap};gG 160 _ hT (.yes (dT ((↑i:Int)<(↑s.aj.length:Int)))<|.idx cn<|.load (rfl:ak true 11 {boxes:=bt::ax::[.str d]::ex,toks:=[],loops:=[]:Heap} (.ref aS)=some (.agg aS))<|.store (show aW 11 {boxes:=bt::ax::[.str d]::(ex++[bR]),toks:=[],loops:=[]:Heap} (.ptr (bt::ax::[.str d]::ex).length 0) (.agg aS)=some (ag)from aC (cs:=bR) (cs':=aS) (by simp+zetaDelta) rfl (by simp+zetaDelta [List.set_append]))<|.load (lB false 1 ag 1 1 (.str p.owner) ax)<|.no (show(p.owner==[])=false from Bool.eq_false_iff.2 (by simp+zetaDelta [q1]))<|.load (show ak false 1 ag (.ptr (bt::ax::[.str d]::ex).length 1)=some (.str x.owner)from ah (cs:=aS) (by simp+zetaDelta) rfl)<|.load (lB false 1 ag 1 1 (.str p.owner) ax)<|.no (show(!x.owner==p.owner)=false from by have hh:(x.owner==p.owner)=true:=(by simp+zetaDelta [q2]);simp[hh])<|.load (show ak false 1 ag (.ptr (bt::ax::[.str d]::ex).length 10)=some (.bool x.hold)from ah (cs:=aS) (by simp+zetaDelta) rfl)<|.no (show(x.hold)=false from Bool.eq_false_iff.2 (by simp+zetaDelta [q3]))<|.load (show ak false 1 ag (.ptr (bt::ax::[.str d]::ex).length 0)=some (.str x.name)from ah (cs:=aS) (by simp+zetaDelta) rfl)<|.load (lB false 1 ag 1 0 (.str p.name) ax)<|.no (show(x.name==p.name)=false from Bool.eq_false_iff.2 (by simp+zetaDelta [q4]))<|.load (show ak false 1 ag (.ptr (bt::ax::[.str d]::ex).length 9)=some (.str x.node)from ah (cs:=aS) (by simp+zetaDelta) rfl)<|.no (show(x.node==[])=false from Bool.eq_false_iff.2 (by simp+zetaDelta [q5]))<|.cw ct<|.ff<|.bin (iI i)<|.aT kr [(3,.ptr 0 0),(4,.ptr 1 0),(5,.ptr 2 0),(7,.int .i64 ↑n),(11,.sl .sh (s.aj.map af)),(12,.int .i64 (↑s.aj.length)),(13,.int .i64 (↑(i+1)))] (ag) (fun T hT=>(HH T hT)))
   ·have e:n+((x::post).filter (bV s p d)).length=n+(post.filter (bV s p d)).length:=by simp[List.filter_cons,bV,q2]
    rw[e]
    exact let ax:List AV:=[.str p.name,.str p.owner,.int .i64 p.prio,.sl .sh (p.need.map ai),.sl .sh (p.labels.map aI),.sl .sh (p.bS.map aX),.sl .sh (p.bh.map aQ),.str p.key,.int .i64 p.most,.str p.node,.bool p.hold];let aS:List AV:=[.str x.name,.str x.owner,.int .i64 x.prio,.sl .sh (x.need.map ai),.sl .sh (x.labels.map aI),.sl .sh (x.bS.map aX),.sl .sh (x.bh.map aQ),.str x.key,.int .i64 x.most,.str x.node,.bool x.hold];let bt:List AV:=[.sl .sh (s.nodes.map aA),.sl .sh (s.aj.map af),.sl .sh (s.aY.map aP)];let ag:Heap:={boxes:=bt::ax::[.str d]::(ex++[aS]),toks:=[],loops:=[]:Heap};let bR:List AV:=[.str [],.str [],.int .i64 0,.sl .full [],.sl .full [],.sl .full [],.sl .full [],.str [],.int .i64 0,.str [],.bool false];gG 160 _ hT (.yes (dT ((↑i:Int)<(↑s.aj.length:Int)))<|.idx cn<|.load (rfl:ak true 11 {boxes:=bt::ax::[.str d]::ex,toks:=[],loops:=[]:Heap} (.ref aS)=some (.agg aS))<|.store (show aW 11 {boxes:=bt::ax::[.str d]::(ex++[bR]),toks:=[],loops:=[]:Heap} (.ptr (bt::ax::[.str d]::ex).length 0) (.agg aS)=some (ag)from aC (cs:=bR) (cs':=aS) (by simp+zetaDelta) rfl (by simp+zetaDelta [List.set_append]))<|.load (lB false 1 ag 1 1 (.str p.owner) ax)<|.no (show(p.owner==[])=false from Bool.eq_false_iff.2 (by simp+zetaDelta [q1]))<|.load (show ak false 1 ag (.ptr (bt::ax::[.str d]::ex).length 1)=some (.str x.owner)from ah (cs:=aS) (by simp+zetaDelta) rfl)<|.load (lB false 1 ag 1 1 (.str p.owner) ax)<|.yes (show(!x.owner==p.owner)=true from by have hh:¬((x.owner==p.owner)=true):=(by simp+zetaDelta [q2]);simp[hh])<|.tt<|.tt<|.tt<|.bin (iI i)<|.aT kr [(3,.ptr 0 0),(4,.ptr 1 0),(5,.ptr 2 0),(7,.int .i64 ↑n),(11,.sl .sh (s.aj.map af)),(12,.int .i64 (↑s.aj.length)),(13,.int .i64 (↑(i+1)))] (ag) (fun T hT=>(HH T hT)))
theorem Ds(s:St)(p:cT)(d:List UInt8)(hp:s.aj.length≤1000)(hs:s.nodes.length<9223372036854775807)(hl:∀n∈s.nodes,n.labels.length<9223372036854775807):
 aq cfg 160 [aB s,af p,.str d] (.int .i64 (bW s p d)):=by
 refine aq.run (Uh _ _) ?_
 have h:=HG s p d hp hs hl s.aj 0 rfl 0 (by omega) []
 rw[Nat.zero_add]at h
 unfold bW
 exact gG 60 [] trivial (.len (lM .sh af s.aj)<|.aT kr [(3,.ptr 0 0),(4,.ptr 1 0),(5,.ptr 2 0),(7,.int .i64 0),(11,.sl .sh (s.aj.map af)),(12,.int .i64 (↑s.aj.length)),(13,.int .i64 0)] ({boxes:=[[.sl .sh (s.nodes.map aA),.sl .sh (s.aj.map af),.sl .sh (s.aY.map aP)],[.str p.name,.str p.owner,.int .i64 p.prio,.sl .sh (p.need.map ai),.sl .sh (p.labels.map aI),.sl .sh (p.bS.map aX),.sl .sh (p.bh.map aQ),.str p.key,.int .i64 p.most,.str p.node,.bool p.hold],[.str d]],toks:=[],loops:=[]:Heap}) (fun T hT=>(h T hT)))
end Go.Aa.T
namespace Go.Aa.T
open Go.Aa Go.Proofs
def eA(key:List UInt8)(l:List Node):List (List UInt8):=l.filterMap fun n=>oD n.labels key
def gq(s:St)(key:List UInt8):List (List UInt8):=cy (eA key s.nodes)
theorem HI(key:List UInt8)(l:List Node):(eA key l).length≤l.length:=List.length_filterMap_le _ _
theorem NX(s:St)(acc:List (List UInt8))(B:List (List AV))(kk:Nat)(hB:acc=[]∨B[kk]?=some (acc.map .str))(hl:acc.length≤100000)(T:Env)(i:Nat)(hi:s.nodes.length≤i)
 (hT:Has T [(5,rM kk acc),(11,.sl .sh (s.nodes.map aA)),(12,.int .i64 s.nodes.length),(13,.int .i64 i)]):bA cfg Ci mR T ⟨B,[],[]⟩ (CT acc):=by
 cases acc with
 |nil=>
  have h1:=(fR tQ [.sl .full []] rfl rfl rfl rfl ⟨B,[],[]⟩).2
  have h2:=(fR nM [.sl .full []] rfl rfl rfl rfl ⟨B,[],[]⟩).2
  exact let ag:Heap:={boxes:=B,toks:=[],loops:=[]:Heap};gG 60 _ hT (.no (dF ((↑i:Int)<(↑s.nodes.length:Int)))<|.cw h1<|.cw h2<|.fin ((.ret (.sl .sh []),ag)) (by exact⟨_,rfl,rfl⟩))
 |cons x l=>
  have hk:B[kk]?=some ((x::l).map .str):=by simpa using hB
  have h1:=tP hk (by simp) (by omega)
  have hkl:kk<B.length:=(List.getElem?_eq_some_iff.1 hk).1
  obtain⟨m,C,h2,h3,h4,h5⟩:=pq kk (x::l).length B (by omega) hkl (ep (x::l)) (gf _) (by simp)
  rw[List.length_cons]at h1 h2 h5
  have hout:dR ⟨B.set kk (C.map .str),[],[]⟩ (.cY kk 0 m 1)=some (.sl .sh ((cy (x::l)).map .str)):=by
   have:=xG (bs:=B.set kk (C.map .str)) (tk:=[]) (ls:=[]) (kk:=kk) (n:=m) (List.getElem?_set_self hkl) (by simpa using h4) (l6 C)
   rw[this,←List.map_take,h3];rfl
  exact let ag:Heap:={boxes:=B.set kk (List.map .str (ep (x::l))),toks:=[],loops:=[]:Heap};let ax:Heap:={boxes:=B.set kk (List.map .str C),toks:=[],loops:=[]:Heap};gG 60 _ hT (.no (dF ((↑i:Int)<(↑s.nodes.length:Int)))<|.cw h1<|.cw h2<|.fin ((.ret (.cY kk 0 m 1),ax)) (by exact⟨_,rfl,hout⟩))
theorem Ke(s:St)(key:List UInt8)(hs:s.nodes.length≤1000)(hl:∀n∈s.nodes,n.labels.length<9223372036854775807):∀(post:List Node)(i:Nat)(hd:s.nodes.drop i=post)(hi:i≤s.nodes.length)(acc:List (List UInt8))(B:List (List AV))(kk:Nat)(hB:acc=[]∨B[kk]?=some (acc.map .str))(hl:acc.length≤i)(T:Env)
 (hT:Has T [(1,.str key),(5,rM kk acc),(11,.sl .sh (s.nodes.map aA)),(12,.int .i64 s.nodes.length),(13,.int .i64 i)]),bA cfg Ci mR T ⟨B,[],[]⟩ (CT (acc++eA key post)):=by
 intro post
 induction post with
 |nil=>
  intro i hd hi acc B kk hB hl T hT
  have hge:=bf hd
  rw[show acc++eA key []=acc by simp[eA]]
  exact NX s acc B kk hB (by omega) T i hge hT.2
 |cons x post ih=>
  intro i hd hi acc B kk hB LH T hT
  have hlt:=bg hd
  have cq:=aL hd
  have cn:cc 5 (.sl .sh (s.nodes.map aA)) (.int .i64 (i:Nat))=some (.ref (aA x).cells):=bx (f:=aA) hd rfl
  have g:=pR x.labels key (hl x (eo hd))
  cases hv:oD x.labels key with
  |none=>
   rw[hv]at g
   have g:aq cfg 223 [.sl .sh (x.labels.map aI),.str key] (.tuple [.str [],.bool false]):=g
   have g2:=fun H=>(fR g [.sl .sh (x.labels.map aI),.str key] rfl rfl rfl rfl H).2
   have e:acc++eA key (x::post)=acc++eA key post:=by simp[eA,hv]
   rw[e]
   have S6:acc=[]∨(B++[(aA x).cells])[kk]?=some (acc.map .str):=by
    rcases hB with h|h
    ·exact .inl h
    ·exact .inr (by rw[List.getElem?_append_left (List.getElem?_eq_some_iff.1 h).1,h])
   have cQ:=ih (i+1) cq hlt acc (B++[(aA x).cells]) kk S6 (by omega)
   exact let ag:List AV:=[.str x.name,.sl .sh (x.cap.map ai),.sl .sh (x.labels.map aI),.sl .sh (x.aV.map bu),.bool x.br];let ax:Heap:={boxes:=B++[ag],toks:=[],loops:=[]:Heap};let aS:List AV:=[.str [],.sl .full [],.sl .full [],.sl .full [],.bool false];gG 120 _ hT (.yes (dT ((↑i:Int)<(↑s.nodes.length:Int)))<|.idx cn<|.load (rfl:ak true 5 {boxes:=B,toks:=[],loops:=[]:Heap} (.ref ag)=some (.agg ag))<|.store (show aW 5 {boxes:=B++[aS],toks:=[],loops:=[]:Heap} (.ptr B.length 0) (.agg ag)=some (ax)from aC (cs:=aS) (cs':=ag) (by simp+zetaDelta) rfl (by simp+zetaDelta [List.set_append]))<|.load (lB false 1 ax B.length 2 (.sl .sh (x.labels.map aI)) ag)<|.cw (show cv cfg (.c6 (.c (.func 223 [])) (List.map .c [.sl .sh (x.labels.map aI),.str key])) ax (.tuple [.str [],.bool false]) ax from g2 _)<|.ff<|.bin (iI i)<|.aT mR [(1,.str key),(5,rM kk acc),(11,.sl .sh (s.nodes.map aA)),(12,.int .i64 (↑s.nodes.length)),(13,.int .i64 (↑(i+1)))] (ax) (fun T hT=>(cQ T hT)))
  |some v=>
   rw[hv]at g
   have g:aq cfg 223 [.sl .sh (x.labels.map aI),.str key] (.tuple [.str v,.bool true]):=g
   have g2:=fun H=>(fR g [.sl .sh (x.labels.map aI),.str key] rfl rfl rfl rfl H).2
   have e:acc++eA key (x::post)=(acc++[v])++eA key post:=by simp[eA,hv]
   rw[e]
   cases acc with
   |nil=>
    have ap:=tN (es:=1) (b:=16) (B:=B++[(aA x).cells]) (tk:=[]) (ls:=[]) (v:=.str v) (sk:=.full) rfl rfl (by omega)
    have cQ:=ih (i+1) cq hlt [v] (B++[(aA x).cells]++[[AV.str v]]) (B++[(aA x).cells]).length (.inr (by simp)) (by simp)
    exact let ag:List AV:=[.str x.name,.sl .sh (x.cap.map ai),.sl .sh (x.labels.map aI),.sl .sh (x.aV.map bu),.bool x.br];let ax:Heap:={boxes:=B++[ag],toks:=[],loops:=[]:Heap};let aS:List AV:=[.str [],.sl .full [],.sl .full [],.sl .full [],.bool false];gG 120 _ hT (.yes (dT ((↑i:Int)<(↑s.nodes.length:Int)))<|.idx cn<|.load (rfl:ak true 5 {boxes:=B,toks:=[],loops:=[]:Heap} (.ref ag)=some (.agg ag))<|.store (show aW 5 {boxes:=B++[aS],toks:=[],loops:=[]:Heap} (.ptr B.length 0) (.agg ag)=some (ax)from aC (cs:=aS) (cs':=ag) (by simp+zetaDelta) rfl (by simp+zetaDelta [List.set_append]))<|.load (lB false 1 ax B.length 2 (.sl .sh (x.labels.map aI)) ag)<|.cw (show cv cfg (.c6 (.c (.func 223 [])) (List.map .c [.sl .sh (x.labels.map aI),.str key])) ax (.tuple [.str v,.bool true]) ax from g2 _)<|.tt<|.cw ap<|.bin (iI i)<|.aT mR [(1,.str key),(5,.cY (B++[ag]).length 0 1 1),(11,.sl .sh (s.nodes.map aA)),(12,.int .i64 (↑s.nodes.length)),(13,.int .i64 (↑(i+1)))] ({boxes:=B++[ag]++[[AV.str v]],toks:=[],loops:=[]:Heap}) (fun T hT=>(cQ T hT)))
   |cons y l=>
    have hk:B[kk]?=some ((y::l).map .str):=by simpa using hB
    have hk2:(B++[(aA x).cells])[kk]?=some ((y::l).map .str):=by rw[List.getElem?_append_left (List.getElem?_eq_some_iff.1 hk).1,hk]
    have ap:=rC (es:=1) (b:=16) (n:=l.length+1) (tk:=[]) (ls:=[]) (v:=.str v) (sk:=.full) hk2 (by simp) (by omega) (l6 _) rfl rfl (by simp at LH;omega)
    obtain⟨D,hD⟩:∃D,D=(y::l).map AV.str++(AV.str v).cells:=⟨_,rfl⟩
    rw[←hD]at ap
    have cQ:=ih (i+1) cq hlt ((y::l)++[v]) ((B++[(aA x).cells]).set kk []++[D]) (B++[(aA x).cells]).length (.inr (by
     rw[List.getElem?_append_right (by simp),hD];simp[AV.cells])) (by simp at LH⊢;omega)
    have er:rM (B++[(aA x).cells]).length ((y::l)++[v])=.cY (B++[(aA x).cells]).length 0 (l.length+1+1) 1:=by simp[rM]
    rw[er]at cQ
    exact let ag:List AV:=[.str x.name,.sl .sh (x.cap.map ai),.sl .sh (x.labels.map aI),.sl .sh (x.aV.map bu),.bool x.br];let ax:Heap:={boxes:=B++[ag],toks:=[],loops:=[]:Heap};let aS:Heap:={boxes:=(B++[(aA x).cells]).set kk []++[D],toks:=[],loops:=[]:Heap};let bt:List AV:=[.str [],.sl .full [],.sl .full [],.sl .full [],.bool false];gG 120 _ hT (.yes (dT ((↑i:Int)<(↑s.nodes.length:Int)))<|.idx cn<|.load (rfl:ak true 5 {boxes:=B,toks:=[],loops:=[]:Heap} (.ref ag)=some (.agg ag))<|.store (show aW 5 {boxes:=B++[bt],toks:=[],loops:=[]:Heap} (.ptr B.length 0) (.agg ag)=some (ax)from aC (cs:=bt) (cs':=ag) (by simp+zetaDelta) rfl (by simp+zetaDelta [List.set_append]))<|.load (lB false 1 ax B.length 2 (.sl .sh (x.labels.map aI)) ag)<|.cw (show cv cfg (.c6 (.c (.func 223 [])) (List.map .c [.sl .sh (x.labels.map aI),.str key])) ax (.tuple [.str v,.bool true]) ax from g2 _)<|.tt<|.cw ap<|.bin (iI i)<|.aT mR [(1,.str key),(5,.cY (B++[ag]).length 0 (l.length+1+1) 1),(11,.sl .sh (s.nodes.map aA)),(12,.int .i64 (↑s.nodes.length)),(13,.int .i64 (↑(i+1)))] (aS) (fun T hT=>(cQ T hT)))
theorem HJ(s:St)(key:List UInt8)(hs:s.nodes.length≤1000)(hl:∀n∈s.nodes,n.labels.length<9223372036854775807):kg cfg 161 [aB s,.str key] (.sl .sh ((gq s key).map .str)):=by
 refine kg.run (Ui _ _) ?_
 have h:=Ke s key hs hl s.nodes 0 rfl (Nat.zero_le _) [] [(aB s).cells] 0 (.inl rfl) (by simp)
 have h:∀T,Has T [(1,.str key),(5,.sl .full []),(11,.sl .sh (s.nodes.map aA)),(12,.int .i64 s.nodes.length),(13,.int .i64 (0:Nat))]→bA cfg Ci mR T ⟨[(aB s).cells],[],[]⟩ (CT (eA key s.nodes)):=h
 exact gG 60 [] trivial (.len (lM .sh aA s.nodes)<|.aT mR [(1,.str key),(5,.sl .full []),(11,.sl .sh (s.nodes.map aA)),(12,.int .i64 (↑s.nodes.length)),(13,.int .i64 0)] ({boxes:=[[.sl .sh (s.nodes.map aA),.sl .sh (s.aj.map af),.sl .sh (s.aY.map aP)]],toks:=[],loops:=[]:Heap}) (fun T hT=>(h T hT)))
end Go.Aa.T
namespace Go.Aa.T
open Go.Aa Go.Proofs
section
variable{H:Heap}{g:FuncId}{k:Nat}{p:je→Bool}
theorem Dt(hd:∀y:je,cv cfg (.call (.c (.func g [.ptr k 0])) [.c (aQ y)]) H (.bool (p y)) H)(l:List je)(hn:l.length<9223372036854775807):∀(post:List je)(i:Nat)(gU:l.drop i=post)(T:Env)
 (hT:Has T [(0,.sl .sh (l.map aQ)),(1,.func g [.ptr k 0]),(7,.int .i64 l.length),(8,.int .i64 i)]),
 bA cfg Fx z8 T H (fun r=>r=(.ret (.int .i64 (bF p post i)),H)):=by
 intro post
 induction post with
 |nil=>
  intro i gU T hT
  have hge:=bf gU
  exact gG 60 _ hT (.no (dF ((↑i:Int)<(↑l.length:Int)))<|.fin ((.ret (.int .i64 (-1:Int)),H)) rfl)
 |cons x post ih=>
  intro i gU T hT
  have hlt:=bg gU
  have cq:=aL gU
  have nI:=hd x
  cases hp:p x with
  |true=>
   rw[hp]at nI
   have e:bF p (x::post) i=i:=by simp[bF,hp]
   rw[e]
   exact let ag:List AV:=[.str x.key,.str x.val,.bool x.any];gG 60 _ hT (.yes (dT ((↑i:Int)<(↑l.length:Int)))<|.idx (iR 3 aQ gU)<|.load (rfl:ak true 3 H (.ref ag)=some (.agg ag))<|.cw nI<|.tt<|.fin ((.ret (.int .i64 ↑i),H)) rfl)
  |false=>
   rw[hp]at nI
   have e:bF p (x::post) i=bF p post (i+1):=by simp[bF,hp]
   rw[e]
   exact let ag:List AV:=[.str x.key,.str x.val,.bool x.any];gG 60 _ hT (.yes (dT ((↑i:Int)<(↑l.length:Int)))<|.idx (iR 3 aQ gU)<|.load (rfl:ak true 3 H (.ref ag)=some (.agg ag))<|.cw nI<|.ff<|.bin (iI i)<|.aT z8 [(0,.sl .sh (l.map aQ)),(1,.func g [.ptr k 0]),(7,.int .i64 (↑l.length)),(8,.int .i64 (↑(i+1)))] (H) (fun T hT=>(ih (i+1) cq T hT)))
theorem Vw(hd:∀y:je,cv cfg (.call (.c (.func g [.ptr k 0])) [.c (aQ y)]) H (.bool (p y)) H)(l:List je)(hn:l.length<9223372036854775807):
 lim cfg (.fn 269) [.sl .sh (l.map aQ),.func g [.ptr k 0]] H=some (.ret (.int .i64 (bF p l 0)),H):=by
 rw[U3]
 have h:=Dt hd l hn l 0 rfl
 have key:bA cfg Fx [.c MN] (ay [.sl .sh (l.map aQ),.func g [.ptr k 0]]) H (fun r=>r=(.ret (.int .i64 (bF p l 0)),H)):=by
  exact gG 60 [] trivial (.len (lM .sh aQ l)<|.aT z8 [(0,.sl .sh (l.map aQ)),(1,.func g [.ptr k 0]),(7,.int .i64 (↑l.length)),(8,.int .i64 0)] (H) (fun T hT=>(h T hT)))
 obtain⟨r,h,rfl⟩:=key
 exact h
end
theorem Du(t:cR)(y:je):cv cfg (.call (.c (.func 225 [.ptr 0 0])) [.c (aQ y)]) ⟨[t.cells],[],[]⟩ (.bool (eS y t)) ⟨[t.cells],[],[]⟩:=by
 have key:bA cfg Jb [.c MD] (ay [aQ y,.ptr 0 0]) ⟨[t.cells],[],[]⟩ (fun r=>r=(.ret (.bool (eS y t)),⟨[t.cells]++[(aQ y).cells],[],[]⟩)):=by
  by_cases h1:y.key=[]
  ·by_cases h2:y.any=true
   ·have e:eS y t=true:=by simp[eS,h1,h2]
    rw[e]
    exact gG 60 [] trivial (.yes (show(y.key==[])=true from(by simpa using h1))<|.tt<|.yes (show(y.any)=true from(by simpa using h2))<|.fin ((.ret (.bool true),{boxes:=[[.str t.key,.str t.val,.bool t.dB],[.str y.key,.str y.val,.bool y.any]],toks:=[],loops:=[]:Heap})) rfl)
   ·have e:eS y t=(y.val==t.val):=by simp[eS,h1,h2]
    rw[e]
    exact gG 60 [] trivial (.yes (show(y.key==[])=true from(by simpa using h1))<|.tt<|.no (show(y.any)=false from Bool.eq_false_iff.2 (by simpa using h2))<|.fin ((.ret (.bool (y.val==t.val)),{boxes:=[[.str t.key,.str t.val,.bool t.dB],[.str y.key,.str y.val,.bool y.any]],toks:=[],loops:=[]:Heap})) rfl)
  ·by_cases h3:y.key=t.key
   ·by_cases h2:y.any=true
    ·have e:eS y t=true:=by simp[eS,h3,h2]
     rw[e]
     exact gG 60 [] trivial (.no (show(y.key==[])=false from Bool.eq_false_iff.2 (by simpa using h1))<|.yes (show(y.key==t.key)=true from(by simpa using h3))<|.yes (show(y.any)=true from(by simpa using h2))<|.fin ((.ret (.bool true),{boxes:=[[.str t.key,.str t.val,.bool t.dB],[.str y.key,.str y.val,.bool y.any]],toks:=[],loops:=[]:Heap})) rfl)
    ·have e:eS y t=(y.val==t.val):=by simp[eS,h3,h2]
     rw[e]
     exact gG 60 [] trivial (.no (show(y.key==[])=false from Bool.eq_false_iff.2 (by simpa using h1))<|.yes (show(y.key==t.key)=true from(by simpa using h3))<|.no (show(y.any)=false from Bool.eq_false_iff.2 (by simpa using h2))<|.fin ((.ret (.bool (y.val==t.val)),{boxes:=[[.str t.key,.str t.val,.bool t.dB],[.str y.key,.str y.val,.bool y.any]],toks:=[],loops:=[]:Heap})) rfl)
   ·have e:eS y t=false:=by simp[eS,h1,h3]
    rw[e]
    exact gG 60 [] trivial (.no (show(y.key==[])=false from Bool.eq_false_iff.2 (by simpa using h1))<|.no (show(y.key==t.key)=false from Bool.eq_false_iff.2 (by simpa using h3))<|.fin ((.ret (.bool false),{boxes:=[[.str t.key,.str t.val,.bool t.dB],[.str y.key,.str y.val,.bool y.any]],toks:=[],loops:=[]:Heap})) rfl)
 obtain⟨r,h,rfl⟩:=key
 have h2:lim cfg (.fn 225) ([aQ y]++[.ptr 0 0]) ⟨[t.cells],[],[]⟩=some (.ret (.bool (eS y t)),⟨[t.cells]++[(aQ y).cells],[],[]⟩):=by
  rw[UM];exact h
 have hd:=bU h2 rfl rfl
 rwa [show bz (.bool (eS y t))=.bool (eS y t)from rfl,lH (bs:=[t.cells]) (ex:=[(aQ y).cells]) (ts:=[]) rfl]at hd
def dW(l:List je)(t:cR):Bool:=l.any fun y=>eS y t
theorem Dv(l:List je)(t:cR)(hl:l.length<9223372036854775807):lim cfg (.fn 224) [.sl .sh (l.map aQ),.func 225 [.ptr 0 0]] ⟨[t.cells],[],[]⟩=some (.ret (.bool (dW l t)),⟨[t.cells],[],[]⟩):=by
 rw[UL]
 have h0:=bU (xs:=[.sl .sh (l.map aQ),.func 225 [.ptr 0 0]]) (caps:=[]) (Vw (g:=225) (k:=0) (Du t) l hl) rfl rfl
 rw[show bz (.int .i64 (bF (fun y:je=>eS y t) l 0))=.int .i64 (bF (fun y:je=>eS y t) l 0)from rfl,
  show de (⟨[t.cells],[],[]⟩:Heap).boxes.length (⟨[t.cells],[],[]⟩:Heap).toks.length (.int .i64 (bF (fun y:je=>eS y t) l 0)) ⟨[t.cells],[],[]⟩=⟨[t.cells],[],[]⟩from rfl]at h0
 have hf:decide (0≤bF (fun y:je=>eS y t) l 0)=dW l t:=gV (fun y:je=>eS y t) l 0
 generalize bF (fun y:je=>eS y t) l 0=c at h0 hf
 have key:bA cfg Ja [.c MC] (ay [.sl .sh (l.map aQ),.func 225 [.ptr 0 0]]) ⟨[t.cells],[],[]⟩ (fun r=>r=(.ret (.bool (dW l t)),⟨[t.cells],[],[]⟩)):=by
  exact let ag:Heap:={boxes:=[t.cells],toks:=[],loops:=[]:Heap};gG 60 [] trivial (.cw h0<|.fin ((.ret (.bool (decide ((0:Int)≤c))),{boxes:=[[.str t.key,.str t.val,.bool t.dB]],toks:=[],loops:=[]:Heap})) (by simp+zetaDelta [←hf,cR.cells]))
 obtain⟨r,h,rfl⟩:=key
 exact h
theorem bears_any(l:List je)(t:cR)(hl:l.length<9223372036854775807):aq cfg 157 [.sl .sh (l.map aQ),bu t] (.bool (dW l t)):=by
 refine aq.run (Uf _ _) ?_
 have h0:=bU (xs:=[.sl .sh (l.map aQ),.func 225 [.ptr 0 0]]) (caps:=[]) (Dv l t hl) rfl rfl
 generalize dW l t=b at h0⊢
 rw[show de (⟨[t.cells],[],[]⟩:Heap).boxes.length (⟨[t.cells],[],[]⟩:Heap).toks.length (bz (.bool b)) ⟨[t.cells],[],[]⟩=⟨[t.cells],[],[]⟩from rfl,show bz (.bool b)=.bool b from rfl]at h0
 exact let ag:Heap:={boxes:=[t.cells],toks:=[],loops:=[]:Heap};gG 60 [] trivial (.cw h0<|.fin ((.ret (.bool b),{boxes:=[[.str t.key,.str t.val,.bool t.dB]],toks:=[],loops:=[]:Heap})) rfl)
def cP(l:List je)(t:List cR):Option cR:=t.find? fun x=>x.dB&& !dW l x
theorem Ay(l:List je)(t:List cR)(hl:l.length<9223372036854775807)(hn:t.length<9223372036854775807):∀(post:List cR)(i:Nat)(bs:List (List AV))(hd:t.drop i=post)(T:Env)
 (hT:Has T [(0,.sl .sh (l.map aQ)),(4,.ptr 0 0),(8,.sl .sh (t.map bu)),(9,.int .i64 t.length),(10,.int .i64 i)]),
 bA cfg SB Bj T ⟨[.str [],.str [],.bool false]::bs,[],[]⟩ (aJ (lG (cP l post))):=by
 intro post
 induction post with
 |nil=>
  intro i bs hd T hT
  have hge:=bf hd
  exact let ag:Heap:={boxes:=[.str [],.str [],.bool false]::bs,toks:=[],loops:=[]:Heap};gG 60 _ hT (.no (dF ((↑i:Int)<(↑t.length:Int)))<|.store (show aW 3 ag (.ptr 0 0) (.agg [.str [],.str [],.bool false])=some (ag)from aC (cs:=[.str [],.str [],.bool false]) (cs':=[.str [],.str [],.bool false]) (by simp+zetaDelta) rfl (by simp+zetaDelta [List.set_append]))<|.fin ((.ret (.tuple [.agg [.str [],.str [],.bool false],.bool false]),ag)) rfl)
 |cons x post ih=>
  intro i bs hd T hT
  have hlt:=bg hd
  have cq:=aL hd
  have hb:=bears_any l x hl
  have cQ:=ih (i+1) (bs++[x.cells]) cq
  cases hh:x.dB with
  |false=>
   have e:cP l (x::post)=cP l post:=by simp[cP,List.find?_cons,hh]
   rw[e]
   exact let ag:List AV:=[.str x.key,.str x.val,.bool x.dB];let ax:Heap:={boxes:=[.str [],.str [],.bool false]::(bs++[ag]),toks:=[],loops:=[]:Heap};gG 90 _ hT (.yes (dT ((↑i:Int)<(↑t.length:Int)))<|.idx (iR 3 bu hd)<|.load (rfl:ak true 3 {boxes:=[.str [],.str [],.bool false]::bs,toks:=[],loops:=[]:Heap} (.ref ag)=some (.agg ag))<|.store (show aW 3 {boxes:=[.str [],.str [],.bool false]::(bs++[[AV.str [],.str [],.bool false]]),toks:=[],loops:=[]:Heap} (.ptr ([.str [],.str [],.bool false]::bs).length 0) (.agg ag)=some (ax)from aC (cs:=[.str [],.str [],.bool false]) (cs':=ag) (by simp+zetaDelta) rfl (by simp+zetaDelta [List.set_append]))<|.load (show ak false 1 ax (.ptr ([.str [],.str [],.bool false]::bs).length 2)=some (.bool x.dB)from ah (cs:=ag) (by simp+zetaDelta) rfl)<|.no (show(x.dB)=false from Bool.eq_false_iff.2 (by simp+zetaDelta [hh]))<|.ff<|.bin (iI i)<|.aT Bj [(0,.sl .sh (l.map aQ)),(4,.ptr 0 0),(8,.sl .sh (t.map bu)),(9,.int .i64 (↑t.length)),(10,.int .i64 (↑(i+1)))] (ax) (fun T hT=>(cQ T hT)))
  |true=>
   cases yR:dW l x with
   |true=>
    rw[yR]at hb
    have e:cP l (x::post)=cP l post:=by simp[cP,List.find?_cons,hh,yR]
    rw[e]
    exact let ag:List AV:=[.str x.key,.str x.val,.bool x.dB];let ax:Heap:={boxes:=[.str [],.str [],.bool false]::(bs++[ag]),toks:=[],loops:=[]:Heap};gG 90 _ hT (.yes (dT ((↑i:Int)<(↑t.length:Int)))<|.idx (iR 3 bu hd)<|.load (rfl:ak true 3 {boxes:=[.str [],.str [],.bool false]::bs,toks:=[],loops:=[]:Heap} (.ref ag)=some (.agg ag))<|.store (show aW 3 {boxes:=[.str [],.str [],.bool false]::(bs++[[AV.str [],.str [],.bool false]]),toks:=[],loops:=[]:Heap} (.ptr ([.str [],.str [],.bool false]::bs).length 0) (.agg ag)=some (ax)from aC (cs:=[.str [],.str [],.bool false]) (cs':=ag) (by simp+zetaDelta) rfl (by simp+zetaDelta [List.set_append]))<|.load (show ak false 1 ax (.ptr ([.str [],.str [],.bool false]::bs).length 2)=some (.bool x.dB)from ah (cs:=ag) (by simp+zetaDelta) rfl)<|.yes (show(x.dB)=true from(by omega))<|.load (show ak true 3 ax (.ptr ([.str [],.str [],.bool false]::bs).length 0)=some (.agg ag)from ah (cs:=ag) (by simp+zetaDelta) rfl)<|.aG ([.sl .sh (l.map aQ),.agg ag]) (.bool true) hb<|.ff<|.bin (iI i)<|.aT Bj [(0,.sl .sh (l.map aQ)),(4,.ptr 0 0),(8,.sl .sh (t.map bu)),(9,.int .i64 (↑t.length)),(10,.int .i64 (↑(i+1)))] (ax) (fun T hT=>(cQ T hT)))
   |false=>
    rw[yR]at hb
    have e:cP l (x::post)=some x:=by simp[cP,List.find?_cons,hh,yR]
    rw[e]
    exact let ag:List AV:=[.str x.key,.str x.val,.bool x.dB];let ax:Heap:={boxes:=[.str [],.str [],.bool false]::(bs++[ag]),toks:=[],loops:=[]:Heap};let aS:Heap:={boxes:=ag::(bs++[ag]),toks:=[],loops:=[]:Heap};gG 90 _ hT (.yes (dT ((↑i:Int)<(↑t.length:Int)))<|.idx (iR 3 bu hd)<|.load (rfl:ak true 3 {boxes:=[.str [],.str [],.bool false]::bs,toks:=[],loops:=[]:Heap} (.ref ag)=some (.agg ag))<|.store (show aW 3 {boxes:=[.str [],.str [],.bool false]::(bs++[[AV.str [],.str [],.bool false]]),toks:=[],loops:=[]:Heap} (.ptr ([.str [],.str [],.bool false]::bs).length 0) (.agg ag)=some (ax)from aC (cs:=[.str [],.str [],.bool false]) (cs':=ag) (by simp+zetaDelta) rfl (by simp+zetaDelta [List.set_append]))<|.load (show ak false 1 ax (.ptr ([.str [],.str [],.bool false]::bs).length 2)=some (.bool x.dB)from ah (cs:=ag) (by simp+zetaDelta) rfl)<|.yes (show(x.dB)=true from(by omega))<|.load (show ak true 3 ax (.ptr ([.str [],.str [],.bool false]::bs).length 0)=some (.agg ag)from ah (cs:=ag) (by simp+zetaDelta) rfl)<|.aG ([.sl .sh (l.map aQ),.agg ag]) (.bool false) hb<|.tt<|.load (show ak true 3 ax (.ptr ([.str [],.str [],.bool false]::bs).length 0)=some (.agg ag)from ah (cs:=ag) (by simp+zetaDelta) rfl)<|.store (show aW 3 ax (.ptr 0 0) (.agg ag)=some (aS)from aC (cs:=[.str [],.str [],.bool false]) (cs':=ag) (by simp+zetaDelta) rfl (by simp+zetaDelta [List.set_append]))<|.fin ((.ret (.tuple [.agg ag,.bool true]),aS)) rfl)
theorem ua(l:List je)(t:List cR)(hl:l.length<9223372036854775807)(hn:t.length<9223372036854775807):aq cfg 84 [.sl .sh (l.map aQ),.sl .sh (t.map bu)] (lG (cP l t)):=by
 refine aq.run (Ys _ _) ?_
 have h:=Ay l t hl hn t 0 [] rfl
 exact gG 60 [] trivial (.len (lM .sh bu t)<|.aT Bj [(0,.sl .sh (l.map aQ)),(4,.ptr 0 0),(8,.sl .sh (t.map bu)),(9,.int .i64 (↑t.length)),(10,.int .i64 0)] ({boxes:=[[.str [],.str [],.bool false]],toks:=[],loops:=[]:Heap}) (fun T hT=>(h T hT)))
end Go.Aa.T

