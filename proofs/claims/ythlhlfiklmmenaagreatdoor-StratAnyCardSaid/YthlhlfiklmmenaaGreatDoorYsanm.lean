import Derived.Test.YthlhlfiklmmenaaGreatDoorYsanl
set_option linter.unusedVariables false
set_option linter.unusedSimpArgs false
set_option maxRecDepth 100000
namespace Go.Aa.T
open Go.Aa Go.Proofs
theorem ym(l:List je)(t:cR)(hn:l.length<9223372036854775807):∀(post:List je)(i:Nat)(hd:l.drop i=post)(T:Env)(hT:Has T [(0,.sl .sh (l.map aQ)),(3,.ptr 0 0),(5,.int .i64 i)]),
 bA cfg IZ rq T ⟨[t.cells],[],[]⟩ (aJ (.bool (dW post t))):=by
 intro post
 induction post with
 |nil=>
  intro i hd T hT
  have hge:=bf hd
  exact gG 60 _ hT (.len (lM .sh aQ l)<|.no (dF ((↑i:Int)<(↑l.length:Int)))<|.fin ((.ret (.bool false),{boxes:=[[.str t.key,.str t.val,.bool t.dB]],toks:=[],loops:=[]:Heap})) rfl)
 |cons x post ih=>
  intro i hd T hT
  have hlt:=bg hd
  have cq:=aL hd
  have e:dW (x::post) t=(eS x t||dW post t):=rfl
  rw[e]
  have cn:cc 3 (.sl .sh (l.map aQ)) (.int .i64 (i:Nat))=some (.ref (aQ x).cells):=bx (f:=aQ) hd rfl
  have cQ:=ih (i+1) cq
  by_cases h1:x.key=[]
  ·by_cases h2:x.any=true
   ·have e:(eS x t||dW post t)=true:=by simp[eS,h1,h2]
    rw[e]
    exact gG 120 _ hT (.len (lM .sh aQ l)<|.yes (dT ((↑i:Int)<(↑l.length:Int)))<|.idx cn<|.yes (show(x.key==[])=true from(by simp[h1]))<|.tt<|.idx cn<|.yes (show(x.any)=true from(by omega))<|.tt<|.fin ((.ret (.bool true),{boxes:=[[.str t.key,.str t.val,.bool t.dB]],toks:=[],loops:=[]:Heap})) rfl)
   ·by_cases h4:x.val=t.val
    ·have e:(eS x t||dW post t)=true:=by simp[eS,h1,h4]
     rw[e]
     exact gG 120 _ hT (.len (lM .sh aQ l)<|.yes (dT ((↑i:Int)<(↑l.length:Int)))<|.idx cn<|.yes (show(x.key==[])=true from(by simp[h1]))<|.tt<|.idx cn<|.no (show(x.any)=false from Bool.eq_false_iff.2 (by omega))<|.idx cn<|.yes (show(x.val==t.val)=true from(by simp[h4]))<|.fin ((.ret (.bool true),{boxes:=[[.str t.key,.str t.val,.bool t.dB]],toks:=[],loops:=[]:Heap})) rfl)
    ·have e:(eS x t||dW post t)=dW post t:=by simp[eS,h1,h2,h4]
     rw[e]
     exact gG 120 _ hT (.len (lM .sh aQ l)<|.yes (dT ((↑i:Int)<(↑l.length:Int)))<|.idx cn<|.yes (show(x.key==[])=true from(by simp[h1]))<|.tt<|.idx cn<|.no (show(x.any)=false from Bool.eq_false_iff.2 (by omega))<|.idx cn<|.no (show(x.val==t.val)=false from Bool.eq_false_iff.2 (by simp[h4]))<|.bin (iI i)<|.aT rq [(0,.sl .sh (l.map aQ)),(3,.ptr 0 0),(5,.int .i64 (↑(i+1)))] ({boxes:=[[.str t.key,.str t.val,.bool t.dB]],toks:=[],loops:=[]:Heap}) (fun T hT=>(cQ T hT)))
  ·by_cases h3:x.key=t.key
   ·by_cases h2:x.any=true
    ·have e:(eS x t||dW post t)=true:=by simp[eS,h3,h2]
     rw[e]
     exact gG 120 _ hT (.len (lM .sh aQ l)<|.yes (dT ((↑i:Int)<(↑l.length:Int)))<|.idx cn<|.no (show(x.key==[])=false from Bool.eq_false_iff.2 (by simp[h1]))<|.idx cn<|.yes (show(x.key==t.key)=true from(by simp[h3]))<|.idx cn<|.yes (show(x.any)=true from(by omega))<|.tt<|.fin ((.ret (.bool true),{boxes:=[[.str t.key,.str t.val,.bool t.dB]],toks:=[],loops:=[]:Heap})) rfl)
    ·by_cases h4:x.val=t.val
     ·have e:(eS x t||dW post t)=true:=by simp[eS,h3,h4]
      rw[e]
      exact gG 120 _ hT (.len (lM .sh aQ l)<|.yes (dT ((↑i:Int)<(↑l.length:Int)))<|.idx cn<|.no (show(x.key==[])=false from Bool.eq_false_iff.2 (by simp[h1]))<|.idx cn<|.yes (show(x.key==t.key)=true from(by simp[h3]))<|.idx cn<|.no (show(x.any)=false from Bool.eq_false_iff.2 (by omega))<|.idx cn<|.yes (show(x.val==t.val)=true from(by simp[h4]))<|.fin ((.ret (.bool true),{boxes:=[[.str t.key,.str t.val,.bool t.dB]],toks:=[],loops:=[]:Heap})) rfl)
     ·have e:(eS x t||dW post t)=dW post t:=by simp[eS,h3,h2,h4]
      rw[e]
      exact gG 120 _ hT (.len (lM .sh aQ l)<|.yes (dT ((↑i:Int)<(↑l.length:Int)))<|.idx cn<|.no (show(x.key==[])=false from Bool.eq_false_iff.2 (by simp[h1]))<|.idx cn<|.yes (show(x.key==t.key)=true from(by simp[h3]))<|.idx cn<|.no (show(x.any)=false from Bool.eq_false_iff.2 (by omega))<|.idx cn<|.no (show(x.val==t.val)=false from Bool.eq_false_iff.2 (by simp[h4]))<|.bin (iI i)<|.aT rq [(0,.sl .sh (l.map aQ)),(3,.ptr 0 0),(5,.int .i64 (↑(i+1)))] ({boxes:=[[.str t.key,.str t.val,.bool t.dB]],toks:=[],loops:=[]:Heap}) (fun T hT=>(cQ T hT)))
   ·have e:(eS x t||dW post t)=dW post t:=by simp[eS,h1,h3]
    rw[e]
    exact gG 120 _ hT (.len (lM .sh aQ l)<|.yes (dT ((↑i:Int)<(↑l.length:Int)))<|.idx cn<|.no (show(x.key==[])=false from Bool.eq_false_iff.2 (by simp[h1]))<|.idx cn<|.no (show(x.key==t.key)=false from Bool.eq_false_iff.2 (by simp[h3]))<|.ff<|.bin (iI i)<|.aT rq [(0,.sl .sh (l.map aQ)),(3,.ptr 0 0),(5,.int .i64 (↑(i+1)))] ({boxes:=[[.str t.key,.str t.val,.bool t.dB]],toks:=[],loops:=[]:Heap}) (fun T hT=>(cQ T hT)))
theorem NY(l:List je)(t:cR)(hn:l.length<9223372036854775807):aq cfg 149 [.sl .sh (l.map aQ),bu t] (.bool (dW l t)):=by
 refine aq.run (Ud _ _) ?_
 have h:=ym l t hn l 0 rfl
 exact gG 60 [] trivial (.aT rq [(0,.sl .sh (l.map aQ)),(3,.ptr 0 0),(5,.int .i64 0)] ({boxes:=[[.str t.key,.str t.val,.bool t.dB]],toks:=[],loops:=[]:Heap}) (fun T hT=>(h T hT)))
theorem yo(l:List je)(t:List cR)(hl:l.length<9223372036854775807)(hn:t.length<9223372036854775807):∀(post:List cR)(i:Nat)(hd:t.drop i=post)(T:Env)
 (hT:Has T [(0,.sl .sh (l.map aQ)),(1,.sl .sh (t.map bu)),(4,.ptr 0 0),(6,.int .i64 i)]),
 bA cfg Sx Bh T ⟨[[.str [],.str [],.bool false]],[],[]⟩ (aJ (lG (cP l post))):=by
 intro post
 induction post with
 |nil=>
  intro i hd T hT
  have hge:=bf hd
  exact gG 60 _ hT (.len (lM .sh bu t)<|.no (dF ((↑i:Int)<(↑t.length:Int)))<|.fin ((.ret (.tuple [.agg [.str [],.str [],.bool false],.bool false]),{boxes:=[[.str [],.str [],.bool false]],toks:=[],loops:=[]:Heap})) rfl)
 |cons x post ih=>
  intro i hd T hT
  have hlt:=bg hd
  have cq:=aL hd
  have cn:cc 3 (.sl .sh (t.map bu)) (.int .i64 (i:Nat))=some (.ref (bu x).cells):=bx (f:=bu) hd rfl
  have hb:=NY l x hl
  have cQ:=ih (i+1) cq
  cases hh:x.dB with
  |false=>
   have e:cP l (x::post)=cP l post:=by simp[cP,List.find?_cons,hh]
   rw[e]
   exact gG 90 _ hT (.len (lM .sh bu t)<|.yes (dT ((↑i:Int)<(↑t.length:Int)))<|.idx cn<|.no (show(x.dB)=false from Bool.eq_false_iff.2 (by simp[hh]))<|.ff<|.bin (iI i)<|.aT Bh [(0,.sl .sh (l.map aQ)),(1,.sl .sh (t.map bu)),(4,.ptr 0 0),(6,.int .i64 (↑(i+1)))] ({boxes:=[[.str [],.str [],.bool false]],toks:=[],loops:=[]:Heap}) (fun T hT=>(cQ T hT)))
  |true=>
   cases yR:dW l x with
   |true=>
    rw[yR]at hb
    have e:cP l (x::post)=cP l post:=by simp[cP,List.find?_cons,hh,yR]
    rw[e]
    exact gG 90 _ hT (.len (lM .sh bu t)<|.yes (dT ((↑i:Int)<(↑t.length:Int)))<|.idx cn<|.yes (show(x.dB)=true from(by omega))<|.idx cn<|.aG ([.sl .sh (l.map aQ),.agg [.str x.key,.str x.val,.bool x.dB]]) (.bool true) hb<|.ff<|.bin (iI i)<|.aT Bh [(0,.sl .sh (l.map aQ)),(1,.sl .sh (t.map bu)),(4,.ptr 0 0),(6,.int .i64 (↑(i+1)))] ({boxes:=[[.str [],.str [],.bool false]],toks:=[],loops:=[]:Heap}) (fun T hT=>(cQ T hT)))
   |false=>
    rw[yR]at hb
    have e:cP l (x::post)=some x:=by simp[cP,List.find?_cons,hh,yR]
    rw[e]
    exact let ag:List AV:=[.str x.key,.str x.val,.bool x.dB];gG 90 _ hT (.len (lM .sh bu t)<|.yes (dT ((↑i:Int)<(↑t.length:Int)))<|.idx cn<|.yes (show(x.dB)=true from(by omega))<|.idx cn<|.aG ([.sl .sh (l.map aQ),.agg ag]) (.bool false) hb<|.tt<|.idx cn<|.fin ((.ret (.tuple [.agg ag,.bool true]),{boxes:=[ag],toks:=[],loops:=[]:Heap})) rfl)
theorem NZ(l:List je)(t:List cR)(hl:l.length<9223372036854775807)(hn:t.length<9223372036854775807):aq cfg 74 [.sl .sh (l.map aQ),.sl .sh (t.map bu)] (lG (cP l t)):=by
 refine aq.run (Ym _ _) ?_
 have h:=yo l t hl hn t 0 rfl
 exact gG 60 [] trivial (.aT Bh [(0,.sl .sh (l.map aQ)),(1,.sl .sh (t.map bu)),(4,.ptr 0 0),(6,.int .i64 0)] ({boxes:=[[.str [],.str [],.bool false]],toks:=[],loops:=[]:Heap}) (fun T hT=>(h T hT)))
theorem uc(s:St)(nm key:List UInt8)(hs:s.nodes.length<9223372036854775807)(hl:∀n∈s.nodes,n.labels.length<9223372036854775807):
 (cL Node.name s.nodes nm=none∧kV s nm key=none∧aq cfg 73 [.sl .sh (s.nodes.map aA),.str nm] (mU none)∧aq cfg 219 [.sl .sh [],.str key] (.tuple [.str [],.bool false]))∨
 ∃n:Node,aq cfg 73 [.sl .sh (s.nodes.map aA),.str nm] (mU (some n))∧((kV s nm key=none∧aq cfg 219 [.sl .sh (n.labels.map aI),.str key] (.tuple [.str [],.bool false]))∨∃v,kV s nm key=some v∧aq cfg 219 [.sl .sh (n.labels.map aI),.str key] (.tuple [.str v,.bool true])):=by
 have f:=iT s.nodes nm hs
 unfold kV
 cases hf:cL Node.name s.nodes nm with
 |none=>
  rw[hf]at f
  exact .inl ⟨rfl,rfl,f,Nr [] key (by simp)⟩
 |some n=>
  rw[hf]at f
  refine .inr ⟨n,f,?_⟩
  have g:=Nr n.labels key (hl n (lZ hf))
  simp only
  cases hv:oD n.labels key with
  |none=>rw[hv]at g;exact .inl ⟨rfl,g⟩
  |some v=>rw[hv]at g;exact .inr ⟨v,rfl,g⟩
theorem Dw(s:St)(p:cT)(d:List UInt8)(ho:¬p.owner=[])(hp:s.aj.length≤1000)(hs:s.nodes.length<9223372036854775807)(hl:∀n∈s.nodes,n.labels.length<9223372036854775807):
 ∀(post:List cT)(i:Nat)(hd:s.aj.drop i=post)(n:Nat)(hn:n≤i)(ex:List (List AV))(T:Env)
 (hT:Has T [(2,.str d),(3,.ptr 0 0),(4,.ptr 1 0),(7,.int .i64 n),(8,.int .i64 i)]),
 bA cfg Fc ij T ⟨(aB s).cells::(af p).cells::ex,[],[]⟩ (aJ (.int .i64 ((n+(post.filter (bV s p d)).length:Nat):Int))):=by
 intro post
 induction post with
 |nil=>
  intro i hd n hn ex T hT
  have hge:=bf hd
  rw[show n+(([]:List cT).filter (bV s p d)).length=n by simp]
  exact let ag:Heap:={boxes:=[.sl .sh (s.nodes.map aA),.sl .sh (s.aj.map af),.sl .sh (s.aY.map aP)]::[.str p.name,.str p.owner,.int .i64 p.prio,.sl .sh (p.need.map ai),.sl .sh (p.labels.map aI),.sl .sh (p.bS.map aX),.sl .sh (p.bh.map aQ),.str p.key,.int .i64 p.most,.str p.node,.bool p.hold]::ex,toks:=[],loops:=[]:Heap};gG 60 _ hT (.load (lB false 1 ag 0 1 (.sl .sh (s.aj.map af)) [.sl .sh (s.nodes.map aA),.sl .sh (s.aj.map af),.sl .sh (s.aY.map aP)])<|.len (lM .sh af s.aj)<|.no (dF ((↑i:Int)<(↑s.aj.length:Int)))<|.ff<|.fin ((.ret (.int .i64 ↑n),ag)) rfl)
 |cons x post ih=>
  intro i hd n hn ex T hT
  have hlt:=bg hd
  have cq:=aL hd
  have cn:cc 11 (.sl .sh (s.aj.map af)) (.int .i64 (i:Nat))=some (.ref (af x).cells):=bx (f:=af) hd rfl
  have HH:=ih (i+1) cq n (by omega) (ex++[(af x).cells])
  by_cases q2:x.owner=p.owner
  ·cases q3:x.hold with
   |true=>
    have e:n+((x::post).filter (bV s p d)).length=n+(post.filter (bV s p d)).length:=by simp[List.filter_cons,bV,q3]
    rw[e]
    exact let ag:List AV:=[.str p.name,.str p.owner,.int .i64 p.prio,.sl .sh (p.need.map ai),.sl .sh (p.labels.map aI),.sl .sh (p.bS.map aX),.sl .sh (p.bh.map aQ),.str p.key,.int .i64 p.most,.str p.node,.bool p.hold];let ax:List AV:=[.str x.name,.str x.owner,.int .i64 x.prio,.sl .sh (x.need.map ai),.sl .sh (x.labels.map aI),.sl .sh (x.bS.map aX),.sl .sh (x.bh.map aQ),.str x.key,.int .i64 x.most,.str x.node,.bool x.hold];let aS:List AV:=[.sl .sh (s.nodes.map aA),.sl .sh (s.aj.map af),.sl .sh (s.aY.map aP)];let bt:Heap:={boxes:=aS::ag::(ex++[ax]),toks:=[],loops:=[]:Heap};let bR:Heap:={boxes:=aS::ag::ex,toks:=[],loops:=[]:Heap};let dm:List AV:=[.str [],.str [],.int .i64 0,.sl .full [],.sl .full [],.sl .full [],.sl .full [],.str [],.int .i64 0,.str [],.bool false];gG 160 _ hT (.load (lB false 1 bR 0 1 (.sl .sh (s.aj.map af)) aS)<|.len (lM .sh af s.aj)<|.yes (dT ((↑i:Int)<(↑s.aj.length:Int)))<|.load (lB false 1 bR 1 1 (.str p.owner) ag)<|.yes (show(!p.owner==[])=true from by have hh:¬((p.owner==[])=true):=(by simp+zetaDelta [ho]);simp[hh])<|.load (lB false 1 bR 0 1 (.sl .sh (s.aj.map af)) aS)<|.idx cn<|.load (rfl:ak true 11 bR (.ref ax)=some (.agg ax))<|.store (show aW 11 {boxes:=aS::ag::(ex++[dm]),toks:=[],loops:=[]:Heap} (.ptr (aS::ag::ex).length 0) (.agg ax)=some (bt)from aC (cs:=dm) (cs':=ax) (by simp+zetaDelta) rfl (by simp+zetaDelta [List.set_append]))<|.load (show ak false 1 bt (.ptr (aS::ag::ex).length 1)=some (.str x.owner)from ah (cs:=ax) (by simp+zetaDelta) rfl)<|.load (lB false 1 bt 1 1 (.str p.owner) ag)<|.no (show(!x.owner==p.owner)=false from by have hh:(x.owner==p.owner)=true:=(by simp+zetaDelta [q2]);simp[hh])<|.load (show ak false 1 bt (.ptr (aS::ag::ex).length 10)=some (.bool x.hold)from ah (cs:=ax) (by simp+zetaDelta) rfl)<|.yes (show(x.hold)=true from(by omega))<|.tt<|.tt<|.bin (iI i)<|.aT ij [(2,.str d),(3,.ptr 0 0),(4,.ptr 1 0),(7,.int .i64 ↑n),(8,.int .i64 (↑(i+1)))] (bt) (fun T hT=>(HH T hT)))
   |false=>
    by_cases q4:x.name=p.name
    ·have e:n+((x::post).filter (bV s p d)).length=n+(post.filter (bV s p d)).length:=by simp[List.filter_cons,bV,q4]
     rw[e]
     exact let ag:List AV:=[.str p.name,.str p.owner,.int .i64 p.prio,.sl .sh (p.need.map ai),.sl .sh (p.labels.map aI),.sl .sh (p.bS.map aX),.sl .sh (p.bh.map aQ),.str p.key,.int .i64 p.most,.str p.node,.bool p.hold];let ax:List AV:=[.str x.name,.str x.owner,.int .i64 x.prio,.sl .sh (x.need.map ai),.sl .sh (x.labels.map aI),.sl .sh (x.bS.map aX),.sl .sh (x.bh.map aQ),.str x.key,.int .i64 x.most,.str x.node,.bool x.hold];let aS:List AV:=[.sl .sh (s.nodes.map aA),.sl .sh (s.aj.map af),.sl .sh (s.aY.map aP)];let bt:Heap:={boxes:=aS::ag::(ex++[ax]),toks:=[],loops:=[]:Heap};let bR:Heap:={boxes:=aS::ag::ex,toks:=[],loops:=[]:Heap};let dm:List AV:=[.str [],.str [],.int .i64 0,.sl .full [],.sl .full [],.sl .full [],.sl .full [],.str [],.int .i64 0,.str [],.bool false];gG 160 _ hT (.load (lB false 1 bR 0 1 (.sl .sh (s.aj.map af)) aS)<|.len (lM .sh af s.aj)<|.yes (dT ((↑i:Int)<(↑s.aj.length:Int)))<|.load (lB false 1 bR 1 1 (.str p.owner) ag)<|.yes (show(!p.owner==[])=true from by have hh:¬((p.owner==[])=true):=(by simp+zetaDelta [ho]);simp[hh])<|.load (lB false 1 bR 0 1 (.sl .sh (s.aj.map af)) aS)<|.idx cn<|.load (rfl:ak true 11 bR (.ref ax)=some (.agg ax))<|.store (show aW 11 {boxes:=aS::ag::(ex++[dm]),toks:=[],loops:=[]:Heap} (.ptr (aS::ag::ex).length 0) (.agg ax)=some (bt)from aC (cs:=dm) (cs':=ax) (by simp+zetaDelta) rfl (by simp+zetaDelta [List.set_append]))<|.load (show ak false 1 bt (.ptr (aS::ag::ex).length 1)=some (.str x.owner)from ah (cs:=ax) (by simp+zetaDelta) rfl)<|.load (lB false 1 bt 1 1 (.str p.owner) ag)<|.no (show(!x.owner==p.owner)=false from by have hh:(x.owner==p.owner)=true:=(by simp+zetaDelta [q2]);simp[hh])<|.load (show ak false 1 bt (.ptr (aS::ag::ex).length 10)=some (.bool x.hold)from ah (cs:=ax) (by simp+zetaDelta) rfl)<|.no (show(x.hold)=false from Bool.eq_false_iff.2 (by simp+zetaDelta [q3]))<|.load (show ak false 1 bt (.ptr (aS::ag::ex).length 0)=some (.str x.name)from ah (cs:=ax) (by simp+zetaDelta) rfl)<|.load (lB false 1 bt 1 0 (.str p.name) ag)<|.yes (show(x.name==p.name)=true from(by simp+zetaDelta [q4]))<|.tt<|.bin (iI i)<|.aT ij [(2,.str d),(3,.ptr 0 0),(4,.ptr 1 0),(7,.int .i64 ↑n),(8,.int .i64 (↑(i+1)))] (bt) (fun T hT=>(HH T hT)))
    ·by_cases q5:x.node=[]
     ·have e:n+((x::post).filter (bV s p d)).length=n+(post.filter (bV s p d)).length:=by simp[List.filter_cons,bV,q5]
      rw[e]
      exact let ag:List AV:=[.str p.name,.str p.owner,.int .i64 p.prio,.sl .sh (p.need.map ai),.sl .sh (p.labels.map aI),.sl .sh (p.bS.map aX),.sl .sh (p.bh.map aQ),.str p.key,.int .i64 p.most,.str p.node,.bool p.hold];let ax:List AV:=[.str x.name,.str x.owner,.int .i64 x.prio,.sl .sh (x.need.map ai),.sl .sh (x.labels.map aI),.sl .sh (x.bS.map aX),.sl .sh (x.bh.map aQ),.str x.key,.int .i64 x.most,.str x.node,.bool x.hold];let aS:List AV:=[.sl .sh (s.nodes.map aA),.sl .sh (s.aj.map af),.sl .sh (s.aY.map aP)];let bt:Heap:={boxes:=aS::ag::(ex++[ax]),toks:=[],loops:=[]:Heap};let bR:Heap:={boxes:=aS::ag::ex,toks:=[],loops:=[]:Heap};let dm:List AV:=[.str [],.str [],.int .i64 0,.sl .full [],.sl .full [],.sl .full [],.sl .full [],.str [],.int .i64 0,.str [],.bool false];gG 160 _ hT (.load (lB false 1 bR 0 1 (.sl .sh (s.aj.map af)) aS)<|.len (lM .sh af s.aj)<|.yes (dT ((↑i:Int)<(↑s.aj.length:Int)))<|.load (lB false 1 bR 1 1 (.str p.owner) ag)<|.yes (show(!p.owner==[])=true from by have hh:¬((p.owner==[])=true):=(by simp+zetaDelta [ho]);simp[hh])<|.load (lB false 1 bR 0 1 (.sl .sh (s.aj.map af)) aS)<|.idx cn<|.load (rfl:ak true 11 bR (.ref ax)=some (.agg ax))<|.store (show aW 11 {boxes:=aS::ag::(ex++[dm]),toks:=[],loops:=[]:Heap} (.ptr (aS::ag::ex).length 0) (.agg ax)=some (bt)from aC (cs:=dm) (cs':=ax) (by simp+zetaDelta) rfl (by simp+zetaDelta [List.set_append]))<|.load (show ak false 1 bt (.ptr (aS::ag::ex).length 1)=some (.str x.owner)from ah (cs:=ax) (by simp+zetaDelta) rfl)<|.load (lB false 1 bt 1 1 (.str p.owner) ag)<|.no (show(!x.owner==p.owner)=false from by have hh:(x.owner==p.owner)=true:=(by simp+zetaDelta [q2]);simp[hh])<|.load (show ak false 1 bt (.ptr (aS::ag::ex).length 10)=some (.bool x.hold)from ah (cs:=ax) (by simp+zetaDelta) rfl)<|.no (show(x.hold)=false from Bool.eq_false_iff.2 (by simp+zetaDelta [q3]))<|.load (show ak false 1 bt (.ptr (aS::ag::ex).length 0)=some (.str x.name)from ah (cs:=ax) (by simp+zetaDelta) rfl)<|.load (lB false 1 bt 1 0 (.str p.name) ag)<|.no (show(x.name==p.name)=false from Bool.eq_false_iff.2 (by simp+zetaDelta [q4]))<|.load (show ak false 1 bt (.ptr (aS::ag::ex).length 9)=some (.str x.node)from ah (cs:=ax) (by simp+zetaDelta) rfl)<|.yes (show(x.node==[])=true from(by simp+zetaDelta [q5]))<|.bin (iI i)<|.aT ij [(2,.str d),(3,.ptr 0 0),(4,.ptr 1 0),(7,.int .i64 ↑n),(8,.int .i64 (↑(i+1)))] (bt) (fun T hT=>(HH T hT)))
     ·rcases uc s x.node p.key hs hl with⟨-,h1,h2,h3⟩|⟨nd,h2,⟨h1,h3⟩|⟨v,h1,h3⟩⟩
      ·have e:n+((x::post).filter (bV s p d)).length=n+(post.filter (bV s p d)).length:=by simp[List.filter_cons,bV,h1]
       rw[e]
       have ih1:=ih (i+1) cq n (by omega) (ex++[(af x).cells,[.str [],.sl .sh [],.sl .sh [],.sl .sh [],.bool false]])
       exact let ag:List AV:=[.str p.name,.str p.owner,.int .i64 p.prio,.sl .sh (p.need.map ai),.sl .sh (p.labels.map aI),.sl .sh (p.bS.map aX),.sl .sh (p.bh.map aQ),.str p.key,.int .i64 p.most,.str p.node,.bool p.hold];let ax:List AV:=[.str x.name,.str x.owner,.int .i64 x.prio,.sl .sh (x.need.map ai),.sl .sh (x.labels.map aI),.sl .sh (x.bS.map aX),.sl .sh (x.bh.map aQ),.str x.key,.int .i64 x.most,.str x.node,.bool x.hold];let aS:List AV:=[.sl .sh (s.nodes.map aA),.sl .sh (s.aj.map af),.sl .sh (s.aY.map aP)];let bt:Heap:={boxes:=aS::ag::(ex++[ax]),toks:=[],loops:=[]:Heap};let bR:List AV:=[.str [],.sl .sh [],.sl .sh [],.sl .sh [],.bool false];let dm:Heap:={boxes:=aS::ag::(ex++[ax,bR]),toks:=[],loops:=[]:Heap};let eH:Heap:={boxes:=aS::ag::ex,toks:=[],loops:=[]:Heap};let gJ:List AV:=[.str [],.str [],.int .i64 0,.sl .full [],.sl .full [],.sl .full [],.sl .full [],.str [],.int .i64 0,.str [],.bool false];let jC:List AV:=[.str [],.sl .full [],.sl .full [],.sl .full [],.bool false];let gY:List AV:=[.sl .sh (s.nodes.map aA),.str x.node];gG 200 _ hT (.load (lB false 1 eH 0 1 (.sl .sh (s.aj.map af)) aS)<|.len (lM .sh af s.aj)<|.yes (dT ((↑i:Int)<(↑s.aj.length:Int)))<|.load (lB false 1 eH 1 1 (.str p.owner) ag)<|.yes (show(!p.owner==[])=true from by have hh:¬((p.owner==[])=true):=(by simp+zetaDelta [ho]);simp[hh])<|.load (lB false 1 eH 0 1 (.sl .sh (s.aj.map af)) aS)<|.idx cn<|.load (rfl:ak true 11 eH (.ref ax)=some (.agg ax))<|.store (show aW 11 {boxes:=aS::ag::(ex++[gJ]),toks:=[],loops:=[]:Heap} (.ptr (aS::ag::ex).length 0) (.agg ax)=some (bt)from aC (cs:=gJ) (cs':=ax) (by simp+zetaDelta) rfl (by simp+zetaDelta [List.set_append]))<|.load (show ak false 1 bt (.ptr (aS::ag::ex).length 1)=some (.str x.owner)from ah (cs:=ax) (by simp+zetaDelta) rfl)<|.load (lB false 1 bt 1 1 (.str p.owner) ag)<|.no (show(!x.owner==p.owner)=false from by have hh:(x.owner==p.owner)=true:=(by simp+zetaDelta [q2]);simp[hh])<|.load (show ak false 1 bt (.ptr (aS::ag::ex).length 10)=some (.bool x.hold)from ah (cs:=ax) (by simp+zetaDelta) rfl)<|.no (show(x.hold)=false from Bool.eq_false_iff.2 (by simp+zetaDelta [q3]))<|.load (show ak false 1 bt (.ptr (aS::ag::ex).length 0)=some (.str x.name)from ah (cs:=ax) (by simp+zetaDelta) rfl)<|.load (lB false 1 bt 1 0 (.str p.name) ag)<|.no (show(x.name==p.name)=false from Bool.eq_false_iff.2 (by simp+zetaDelta [q4]))<|.load (show ak false 1 bt (.ptr (aS::ag::ex).length 9)=some (.str x.node)from ah (cs:=ax) (by simp+zetaDelta) rfl)<|.no (show(x.node==[])=false from Bool.eq_false_iff.2 (by simp+zetaDelta [q5]))<|.load (lB false 1 bt 0 0 (.sl .sh (s.nodes.map aA)) aS)<|.load (show ak false 1 bt (.ptr (aS::ag::ex).length 9)=some (.str x.node)from ah (cs:=ax) (by simp+zetaDelta) rfl)<|.aG (gY) (.tuple [.agg bR,.bool false]) h2<|.store (show aW 5 {boxes:=aS::ag::(ex++[ax]++[jC]),toks:=[],loops:=[]:Heap} (.ptr (aS::ag::(ex++[ax])).length 0) (.agg bR)=some (dm)from aC (cs:=jC) (cs':=bR) (by simp+zetaDelta) rfl (by simp+zetaDelta [List.set_append]))<|.load (show ak false 1 dm (.ptr (aS::ag::(ex++[ax])).length 2)=some (.sl .sh [])from ah (cs:=bR) (by simp+zetaDelta) rfl)<|.load (lB false 1 dm 1 7 (.str p.key) ag)<|.aG ([.sl .sh [],.str p.key]) (.tuple [.str [],.bool false]) h3<|.ff<|.ff<|.ff<|.bin (iI i)<|.aT ij [(2,.str d),(3,.ptr 0 0),(4,.ptr 1 0),(7,.int .i64 ↑n),(8,.int .i64 (↑(i+1)))] (dm) (fun T hT=>(ih1 T hT)))
      ·have e:n+((x::post).filter (bV s p d)).length=n+(post.filter (bV s p d)).length:=by simp[List.filter_cons,bV,h1]
       rw[e]
       have ih1:=ih (i+1) cq n (by omega) (ex++[(af x).cells,(aA nd).cells])
       exact let ag:List AV:=[.str p.name,.str p.owner,.int .i64 p.prio,.sl .sh (p.need.map ai),.sl .sh (p.labels.map aI),.sl .sh (p.bS.map aX),.sl .sh (p.bh.map aQ),.str p.key,.int .i64 p.most,.str p.node,.bool p.hold];let ax:List AV:=[.str x.name,.str x.owner,.int .i64 x.prio,.sl .sh (x.need.map ai),.sl .sh (x.labels.map aI),.sl .sh (x.bS.map aX),.sl .sh (x.bh.map aQ),.str x.key,.int .i64 x.most,.str x.node,.bool x.hold];let aS:List AV:=[.sl .sh (s.nodes.map aA),.sl .sh (s.aj.map af),.sl .sh (s.aY.map aP)];let bt:List AV:=[.str nd.name,.sl .sh (nd.cap.map ai),.sl .sh (nd.labels.map aI),.sl .sh (nd.aV.map bu),.bool nd.br];let bR:Heap:={boxes:=aS::ag::(ex++[ax]),toks:=[],loops:=[]:Heap};let dm:Heap:={boxes:=aS::ag::(ex++[ax,bt]),toks:=[],loops:=[]:Heap};let eH:Heap:={boxes:=aS::ag::ex,toks:=[],loops:=[]:Heap};let gJ:List AV:=[.str [],.str [],.int .i64 0,.sl .full [],.sl .full [],.sl .full [],.sl .full [],.str [],.int .i64 0,.str [],.bool false];let jC:List AV:=[.str [],.sl .full [],.sl .full [],.sl .full [],.bool false];let gY:List AV:=[.sl .sh (nd.labels.map aI),.str p.key];let vA:List AV:=[.sl .sh (s.nodes.map aA),.str x.node];gG 200 _ hT (.load (lB false 1 eH 0 1 (.sl .sh (s.aj.map af)) aS)<|.len (lM .sh af s.aj)<|.yes (dT ((↑i:Int)<(↑s.aj.length:Int)))<|.load (lB false 1 eH 1 1 (.str p.owner) ag)<|.yes (show(!p.owner==[])=true from by have hh:¬((p.owner==[])=true):=(by simp+zetaDelta [ho]);simp[hh])<|.load (lB false 1 eH 0 1 (.sl .sh (s.aj.map af)) aS)<|.idx cn<|.load (rfl:ak true 11 eH (.ref ax)=some (.agg ax))<|.store (show aW 11 {boxes:=aS::ag::(ex++[gJ]),toks:=[],loops:=[]:Heap} (.ptr (aS::ag::ex).length 0) (.agg ax)=some (bR)from aC (cs:=gJ) (cs':=ax) (by simp+zetaDelta) rfl (by simp+zetaDelta [List.set_append]))<|.load (show ak false 1 bR (.ptr (aS::ag::ex).length 1)=some (.str x.owner)from ah (cs:=ax) (by simp+zetaDelta) rfl)<|.load (lB false 1 bR 1 1 (.str p.owner) ag)<|.no (show(!x.owner==p.owner)=false from by have hh:(x.owner==p.owner)=true:=(by simp+zetaDelta [q2]);simp[hh])<|.load (show ak false 1 bR (.ptr (aS::ag::ex).length 10)=some (.bool x.hold)from ah (cs:=ax) (by simp+zetaDelta) rfl)<|.no (show(x.hold)=false from Bool.eq_false_iff.2 (by simp+zetaDelta [q3]))<|.load (show ak false 1 bR (.ptr (aS::ag::ex).length 0)=some (.str x.name)from ah (cs:=ax) (by simp+zetaDelta) rfl)<|.load (lB false 1 bR 1 0 (.str p.name) ag)<|.no (show(x.name==p.name)=false from Bool.eq_false_iff.2 (by simp+zetaDelta [q4]))<|.load (show ak false 1 bR (.ptr (aS::ag::ex).length 9)=some (.str x.node)from ah (cs:=ax) (by simp+zetaDelta) rfl)<|.no (show(x.node==[])=false from Bool.eq_false_iff.2 (by simp+zetaDelta [q5]))<|.load (lB false 1 bR 0 0 (.sl .sh (s.nodes.map aA)) aS)<|.load (show ak false 1 bR (.ptr (aS::ag::ex).length 9)=some (.str x.node)from ah (cs:=ax) (by simp+zetaDelta) rfl)<|.aG (vA) (.tuple [.agg bt,.bool true]) h2<|.store (show aW 5 {boxes:=aS::ag::(ex++[ax]++[jC]),toks:=[],loops:=[]:Heap} (.ptr (aS::ag::(ex++[ax])).length 0) (.agg bt)=some (dm)from aC (cs:=jC) (cs':=bt) (by simp+zetaDelta) rfl (by simp+zetaDelta [List.set_append]))<|.load (show ak false 1 dm (.ptr (aS::ag::(ex++[ax])).length 2)=some (.sl .sh (nd.labels.map aI))from ah (cs:=bt) (by simp+zetaDelta) rfl)<|.load (lB false 1 dm 1 7 (.str p.key) ag)<|.aG (gY) (.tuple [.str [],.bool false]) h3<|.tt<|.ff<|.ff<|.bin (iI i)<|.aT ij [(2,.str d),(3,.ptr 0 0),(4,.ptr 1 0),(7,.int .i64 ↑n),(8,.int .i64 (↑(i+1)))] (dm) (fun T hT=>(ih1 T hT)))
      ·by_cases q6:v=d
       ·have e:n+((x::post).filter (bV s p d)).length=(n+1)+(post.filter (bV s p d)).length:=by simp[List.filter_cons,bV,ho,q2,q3,q4,q5,h1,q6];omega
        rw[e]
        have ih1:=ih (i+1) cq (n+1) (by omega) (ex++[(af x).cells,(aA nd).cells])
        exact let ag:List AV:=[.str p.name,.str p.owner,.int .i64 p.prio,.sl .sh (p.need.map ai),.sl .sh (p.labels.map aI),.sl .sh (p.bS.map aX),.sl .sh (p.bh.map aQ),.str p.key,.int .i64 p.most,.str p.node,.bool p.hold];let ax:List AV:=[.str x.name,.str x.owner,.int .i64 x.prio,.sl .sh (x.need.map ai),.sl .sh (x.labels.map aI),.sl .sh (x.bS.map aX),.sl .sh (x.bh.map aQ),.str x.key,.int .i64 x.most,.str x.node,.bool x.hold];let aS:List AV:=[.sl .sh (s.nodes.map aA),.sl .sh (s.aj.map af),.sl .sh (s.aY.map aP)];let bt:List AV:=[.str nd.name,.sl .sh (nd.cap.map ai),.sl .sh (nd.labels.map aI),.sl .sh (nd.aV.map bu),.bool nd.br];let bR:Heap:={boxes:=aS::ag::(ex++[ax]),toks:=[],loops:=[]:Heap};let dm:Heap:={boxes:=aS::ag::(ex++[ax,bt]),toks:=[],loops:=[]:Heap};let eH:Heap:={boxes:=aS::ag::ex,toks:=[],loops:=[]:Heap};let gJ:List AV:=[.str [],.str [],.int .i64 0,.sl .full [],.sl .full [],.sl .full [],.sl .full [],.str [],.int .i64 0,.str [],.bool false];let jC:List AV:=[.str [],.sl .full [],.sl .full [],.sl .full [],.bool false];let gY:List AV:=[.sl .sh (nd.labels.map aI),.str p.key];let vA:List AV:=[.sl .sh (s.nodes.map aA),.str x.node];gG 200 _ hT (.load (lB false 1 eH 0 1 (.sl .sh (s.aj.map af)) aS)<|.len (lM .sh af s.aj)<|.yes (dT ((↑i:Int)<(↑s.aj.length:Int)))<|.load (lB false 1 eH 1 1 (.str p.owner) ag)<|.yes (show(!p.owner==[])=true from by have hh:¬((p.owner==[])=true):=(by simp+zetaDelta [ho]);simp[hh])<|.load (lB false 1 eH 0 1 (.sl .sh (s.aj.map af)) aS)<|.idx cn<|.load (rfl:ak true 11 eH (.ref ax)=some (.agg ax))<|.store (show aW 11 {boxes:=aS::ag::(ex++[gJ]),toks:=[],loops:=[]:Heap} (.ptr (aS::ag::ex).length 0) (.agg ax)=some (bR)from aC (cs:=gJ) (cs':=ax) (by simp+zetaDelta) rfl (by simp+zetaDelta [List.set_append]))<|.load (show ak false 1 bR (.ptr (aS::ag::ex).length 1)=some (.str x.owner)from ah (cs:=ax) (by simp+zetaDelta) rfl)<|.load (lB false 1 bR 1 1 (.str p.owner) ag)<|.no (show(!x.owner==p.owner)=false from by have hh:(x.owner==p.owner)=true:=(by simp+zetaDelta [q2]);simp[hh])<|.load (show ak false 1 bR (.ptr (aS::ag::ex).length 10)=some (.bool x.hold)from ah (cs:=ax) (by simp+zetaDelta) rfl)<|.no (show(x.hold)=false from Bool.eq_false_iff.2 (by simp+zetaDelta [q3]))<|.load (show ak false 1 bR (.ptr (aS::ag::ex).length 0)=some (.str x.name)from ah (cs:=ax) (by simp+zetaDelta) rfl)<|.load (lB false 1 bR 1 0 (.str p.name) ag)<|.no (show(x.name==p.name)=false from Bool.eq_false_iff.2 (by simp+zetaDelta [q4]))<|.load (show ak false 1 bR (.ptr (aS::ag::ex).length 9)=some (.str x.node)from ah (cs:=ax) (by simp+zetaDelta) rfl)<|.no (show(x.node==[])=false from Bool.eq_false_iff.2 (by simp+zetaDelta [q5]))<|.load (lB false 1 bR 0 0 (.sl .sh (s.nodes.map aA)) aS)<|.load (show ak false 1 bR (.ptr (aS::ag::ex).length 9)=some (.str x.node)from ah (cs:=ax) (by simp+zetaDelta) rfl)<|.aG (vA) (.tuple [.agg bt,.bool true]) h2<|.store (show aW 5 {boxes:=aS::ag::(ex++[ax]++[jC]),toks:=[],loops:=[]:Heap} (.ptr (aS::ag::(ex++[ax])).length 0) (.agg bt)=some (dm)from aC (cs:=jC) (cs':=bt) (by simp+zetaDelta) rfl (by simp+zetaDelta [List.set_append]))<|.load (show ak false 1 dm (.ptr (aS::ag::(ex++[ax])).length 2)=some (.sl .sh (nd.labels.map aI))from ah (cs:=bt) (by simp+zetaDelta) rfl)<|.load (lB false 1 dm 1 7 (.str p.key) ag)<|.aG (gY) (.tuple [.str v,.bool true]) h3<|.tt<|.tt<|.yes (show(v==d)=true from(by simp+zetaDelta [q6]))<|.bin (iI n)<|.bin (iI i)<|.aT ij [(2,.str d),(3,.ptr 0 0),(4,.ptr 1 0),(7,.int .i64 (↑(n+1):Int)),(8,.int .i64 (↑(i+1)))] (dm) (fun T hT=>(ih1 T hT)))
       ·have e:n+((x::post).filter (bV s p d)).length=n+(post.filter (bV s p d)).length:=by simp[List.filter_cons,bV,h1,q6]
        rw[e]
        have ih1:=ih (i+1) cq n (by omega) (ex++[(af x).cells,(aA nd).cells])
        exact let ag:List AV:=[.str p.name,.str p.owner,.int .i64 p.prio,.sl .sh (p.need.map ai),.sl .sh (p.labels.map aI),.sl .sh (p.bS.map aX),.sl .sh (p.bh.map aQ),.str p.key,.int .i64 p.most,.str p.node,.bool p.hold];let ax:List AV:=[.str x.name,.str x.owner,.int .i64 x.prio,.sl .sh (x.need.map ai),.sl .sh (x.labels.map aI),.sl .sh (x.bS.map aX),.sl .sh (x.bh.map aQ),.str x.key,.int .i64 x.most,.str x.node,.bool x.hold];let aS:List AV:=[.sl .sh (s.nodes.map aA),.sl .sh (s.aj.map af),.sl .sh (s.aY.map aP)];let bt:List AV:=[.str nd.name,.sl .sh (nd.cap.map ai),.sl .sh (nd.labels.map aI),.sl .sh (nd.aV.map bu),.bool nd.br];let bR:Heap:={boxes:=aS::ag::(ex++[ax]),toks:=[],loops:=[]:Heap};let dm:Heap:={boxes:=aS::ag::(ex++[ax,bt]),toks:=[],loops:=[]:Heap};let eH:Heap:={boxes:=aS::ag::ex,toks:=[],loops:=[]:Heap};let gJ:List AV:=[.str [],.str [],.int .i64 0,.sl .full [],.sl .full [],.sl .full [],.sl .full [],.str [],.int .i64 0,.str [],.bool false];let jC:List AV:=[.str [],.sl .full [],.sl .full [],.sl .full [],.bool false];let gY:List AV:=[.sl .sh (nd.labels.map aI),.str p.key];let vA:List AV:=[.sl .sh (s.nodes.map aA),.str x.node];gG 200 _ hT (.load (lB false 1 eH 0 1 (.sl .sh (s.aj.map af)) aS)<|.len (lM .sh af s.aj)<|.yes (dT ((↑i:Int)<(↑s.aj.length:Int)))<|.load (lB false 1 eH 1 1 (.str p.owner) ag)<|.yes (show(!p.owner==[])=true from by have hh:¬((p.owner==[])=true):=(by simp+zetaDelta [ho]);simp[hh])<|.load (lB false 1 eH 0 1 (.sl .sh (s.aj.map af)) aS)<|.idx cn<|.load (rfl:ak true 11 eH (.ref ax)=some (.agg ax))<|.store (show aW 11 {boxes:=aS::ag::(ex++[gJ]),toks:=[],loops:=[]:Heap} (.ptr (aS::ag::ex).length 0) (.agg ax)=some (bR)from aC (cs:=gJ) (cs':=ax) (by simp+zetaDelta) rfl (by simp+zetaDelta [List.set_append]))<|.load (show ak false 1 bR (.ptr (aS::ag::ex).length 1)=some (.str x.owner)from ah (cs:=ax) (by simp+zetaDelta) rfl)<|.load (lB false 1 bR 1 1 (.str p.owner) ag)<|.no (show(!x.owner==p.owner)=false from by have hh:(x.owner==p.owner)=true:=(by simp+zetaDelta [q2]);simp[hh])<|.load (show ak false 1 bR (.ptr (aS::ag::ex).length 10)=some (.bool x.hold)from ah (cs:=ax) (by simp+zetaDelta) rfl)<|.no (show(x.hold)=false from Bool.eq_false_iff.2 (by simp+zetaDelta [q3]))<|.load (show ak false 1 bR (.ptr (aS::ag::ex).length 0)=some (.str x.name)from ah (cs:=ax) (by simp+zetaDelta) rfl)<|.load (lB false 1 bR 1 0 (.str p.name) ag)<|.no (show(x.name==p.name)=false from Bool.eq_false_iff.2 (by simp+zetaDelta [q4]))<|.load (show ak false 1 bR (.ptr (aS::ag::ex).length 9)=some (.str x.node)from ah (cs:=ax) (by simp+zetaDelta) rfl)<|.no (show(x.node==[])=false from Bool.eq_false_iff.2 (by simp+zetaDelta [q5]))<|.load (lB false 1 bR 0 0 (.sl .sh (s.nodes.map aA)) aS)<|.load (show ak false 1 bR (.ptr (aS::ag::ex).length 9)=some (.str x.node)from ah (cs:=ax) (by simp+zetaDelta) rfl)<|.aG (vA) (.tuple [.agg bt,.bool true]) h2<|.store (show aW 5 {boxes:=aS::ag::(ex++[ax]++[jC]),toks:=[],loops:=[]:Heap} (.ptr (aS::ag::(ex++[ax])).length 0) (.agg bt)=some (dm)from aC (cs:=jC) (cs':=bt) (by simp+zetaDelta) rfl (by simp+zetaDelta [List.set_append]))<|.load (show ak false 1 dm (.ptr (aS::ag::(ex++[ax])).length 2)=some (.sl .sh (nd.labels.map aI))from ah (cs:=bt) (by simp+zetaDelta) rfl)<|.load (lB false 1 dm 1 7 (.str p.key) ag)<|.aG (gY) (.tuple [.str v,.bool true]) h3<|.tt<|.tt<|.no (show(v==d)=false from Bool.eq_false_iff.2 (by simp+zetaDelta [q6]))<|.bin (iI i)<|.aT ij [(2,.str d),(3,.ptr 0 0),(4,.ptr 1 0),(7,.int .i64 ↑n),(8,.int .i64 (↑(i+1)))] (dm) (fun T hT=>(ih1 T hT)))
  ·have e:n+((x::post).filter (bV s p d)).length=n+(post.filter (bV s p d)).length:=by simp[List.filter_cons,bV,q2]
   rw[e]
   exact let ag:List AV:=[.str p.name,.str p.owner,.int .i64 p.prio,.sl .sh (p.need.map ai),.sl .sh (p.labels.map aI),.sl .sh (p.bS.map aX),.sl .sh (p.bh.map aQ),.str p.key,.int .i64 p.most,.str p.node,.bool p.hold];let ax:List AV:=[.str x.name,.str x.owner,.int .i64 x.prio,.sl .sh (x.need.map ai),.sl .sh (x.labels.map aI),.sl .sh (x.bS.map aX),.sl .sh (x.bh.map aQ),.str x.key,.int .i64 x.most,.str x.node,.bool x.hold];let aS:List AV:=[.sl .sh (s.nodes.map aA),.sl .sh (s.aj.map af),.sl .sh (s.aY.map aP)];let bt:Heap:={boxes:=aS::ag::(ex++[ax]),toks:=[],loops:=[]:Heap};let bR:Heap:={boxes:=aS::ag::ex,toks:=[],loops:=[]:Heap};let dm:List AV:=[.str [],.str [],.int .i64 0,.sl .full [],.sl .full [],.sl .full [],.sl .full [],.str [],.int .i64 0,.str [],.bool false];gG 160 _ hT (.load (lB false 1 bR 0 1 (.sl .sh (s.aj.map af)) aS)<|.len (lM .sh af s.aj)<|.yes (dT ((↑i:Int)<(↑s.aj.length:Int)))<|.load (lB false 1 bR 1 1 (.str p.owner) ag)<|.yes (show(!p.owner==[])=true from by have hh:¬((p.owner==[])=true):=(by simp+zetaDelta [ho]);simp[hh])<|.load (lB false 1 bR 0 1 (.sl .sh (s.aj.map af)) aS)<|.idx cn<|.load (rfl:ak true 11 bR (.ref ax)=some (.agg ax))<|.store (show aW 11 {boxes:=aS::ag::(ex++[dm]),toks:=[],loops:=[]:Heap} (.ptr (aS::ag::ex).length 0) (.agg ax)=some (bt)from aC (cs:=dm) (cs':=ax) (by simp+zetaDelta) rfl (by simp+zetaDelta [List.set_append]))<|.load (show ak false 1 bt (.ptr (aS::ag::ex).length 1)=some (.str x.owner)from ah (cs:=ax) (by simp+zetaDelta) rfl)<|.load (lB false 1 bt 1 1 (.str p.owner) ag)<|.yes (show(!x.owner==p.owner)=true from by have hh:¬((x.owner==p.owner)=true):=(by simp+zetaDelta [q2]);simp[hh])<|.tt<|.tt<|.tt<|.bin (iI i)<|.aT ij [(2,.str d),(3,.ptr 0 0),(4,.ptr 1 0),(7,.int .i64 ↑n),(8,.int .i64 (↑(i+1)))] (bt) (fun T hT=>(HH T hT)))
theorem Dx(s:St)(p:cT)(ho:p.owner=[])(hp:s.aj.length≤1000)(T:Env)(hT:Has T [(3,.ptr 0 0),(4,.ptr 1 0),(7,.int .i64 (0:Nat)),(8,.int .i64 (0:Nat))]):
 bA cfg Fc ij T ⟨[(aB s).cells,(af p).cells],[],[]⟩ (aJ (.int .i64 (0:Nat))):=by
 by_cases h0:s.aj.length=0
 ·exact gG 60 _ hT (.len (lM .sh af s.aj)<|.no (dF ((↑(0:Nat):Int)<(↑s.aj.length:Int)))<|.ff<|.fin ((.ret (.int .i64 (↑(0:Nat):Int)),{boxes:=[[.sl .sh (s.nodes.map aA),.sl .sh (s.aj.map af),.sl .sh (s.aY.map aP)],[.str p.name,.str p.owner,.int .i64 p.prio,.sl .sh (p.need.map ai),.sl .sh (p.labels.map aI),.sl .sh (p.bS.map aX),.sl .sh (p.bh.map aQ),.str p.key,.int .i64 p.most,.str p.node,.bool p.hold]],toks:=[],loops:=[]:Heap})) rfl)
 ·exact gG 60 _ hT (.len (lM .sh af s.aj)<|.yes (dT ((↑(0:Nat):Int)<(↑s.aj.length:Int)))<|.no (show(!p.owner==[])=false from by have hh:(p.owner==[])=true:=(by simp;omega);simp[hh])<|.fin ((.ret (.int .i64 (↑(0:Nat):Int)),{boxes:=[[.sl .sh (s.nodes.map aA),.sl .sh (s.aj.map af),.sl .sh (s.aY.map aP)],[.str p.name,.str p.owner,.int .i64 p.prio,.sl .sh (p.need.map ai),.sl .sh (p.labels.map aI),.sl .sh (p.bS.map aX),.sl .sh (p.bh.map aQ),.str p.key,.int .i64 p.most,.str p.node,.bool p.hold]],toks:=[],loops:=[]:Heap})) rfl)
theorem N0(s:St)(p:cT)(d:List UInt8)(hp:s.aj.length≤1000)(hs:s.nodes.length<9223372036854775807)(hl:∀n∈s.nodes,n.labels.length<9223372036854775807):
 aq cfg 220 [aB s,af p,.str d] (.int .i64 (bW s p d)):=by
 refine aq.run (UI _ _) ?_
 by_cases ho:p.owner=[]
 ·have e:bW s p d=0:=by
   unfold bW
   rw[List.length_eq_zero_iff,List.filter_eq_nil_iff]
   intro x _
   simp[bV,ho]
  rw[e]
  have h:=Dx s p ho hp
  exact gG 60 [] trivial (.aT ij [(3,.ptr 0 0),(4,.ptr 1 0),(7,.int .i64 0),(8,.int .i64 0)] ({boxes:=[[.sl .sh (s.nodes.map aA),.sl .sh (s.aj.map af),.sl .sh (s.aY.map aP)],[.str p.name,.str p.owner,.int .i64 p.prio,.sl .sh (p.need.map ai),.sl .sh (p.labels.map aI),.sl .sh (p.bS.map aX),.sl .sh (p.bh.map aQ),.str p.key,.int .i64 p.most,.str p.node,.bool p.hold]],toks:=[],loops:=[]:Heap}) (fun T hT=>(h T hT)))
 ·have h:=Dw s p d ho hp hs hl s.aj 0 rfl 0 (by omega) []
  rw[Nat.zero_add]at h
  unfold bW
  exact gG 60 [] trivial (.aT ij [(2,.str d),(3,.ptr 0 0),(4,.ptr 1 0),(7,.int .i64 0),(8,.int .i64 0)] ({boxes:=[[.sl .sh (s.nodes.map aA),.sl .sh (s.aj.map af),.sl .sh (s.aY.map aP)],[.str p.name,.str p.owner,.int .i64 p.prio,.sl .sh (p.need.map ai),.sl .sh (p.labels.map aI),.sl .sh (p.bS.map aX),.sl .sh (p.bh.map aQ),.str p.key,.int .i64 p.most,.str p.node,.bool p.hold]],toks:=[],loops:=[]:Heap}) (fun T hT=>(h T hT)))
end Go.Aa.T
namespace Go.Aa.T
open Go.Aa Go.Proofs
theorem ud{es b:Nat}{H:Heap}{sk:SK}{ys zs:List AV}(h:(ys.length+zs.length)*b≤140737488355328)(hy:cE es ys=true)(hz:cE es zs=true)(hd:dH zs=true):
 bw es b (cu H ys) (aZ H ys) (.sl sk zs)=some (aZ H (ys++zs),cu H (ys++zs)):=by
 cases ys with
 |nil=>exact w8 (by simpa using h) hz hd
 |cons y ys=>
  have h1:=Js (es:=es) (bytes:=b) (t:=H.toks.length) (H:={H with toks:=H.toks++[(y::ys).length]}) (sk:=sk) (xs:=y::ys) (ys:=zs) (by simp) h hy hz hd
  simp only[aZ,cu]
  rw[h1]
  simp[aZ,cu]
  omega
def kD:Bool→Nat→SK
 |true,t=>.own t
 |false,_=>.full
instance(b:Bool)(t:Nat)(l:List AV):mO (.sl (kD b t) l) (.sl .sh l):=⟨by cases b<;>exact⟨rfl,rfl⟩⟩
def rT(key:List UInt8)(acc:List (List UInt8))(post:List Node)(r:cZ×Heap):Prop:=
 ∃l,gr l∧(∀x,x∈l↔x∈acc∨x∈eA key post)∧∃b t,aJ (.sl (kD b t) (l.map .str)) r
theorem rT.conv{key:List UInt8}{acc acc':List (List UInt8)}{post post':List Node}(h:∀x,(x∈acc'∨x∈eA key post')↔(x∈acc∨x∈eA key post))(r:cZ×Heap)(hr:rT key acc' post' r):rT key acc post r:=by
 obtain⟨l,h1,h2,h3⟩:=hr
 exact⟨l,h1,fun x=>(h2 x).trans (h x),h3⟩
theorem HK{acc:List (List UInt8)}{v:List UInt8}{j:Nat}(hr:gr acc)(h1:∀x∈acc.take j,Op.bytesLess x v=true)(h2:∀x∈acc.drop j,Op.bytesLess v x=true):gr (acc.take j++v::acc.drop j):=by
 have hr':gr (acc.take j++acc.drop j):=by rw[List.take_append_drop];exact hr
 obtain⟨a1,a2,a3⟩:=List.pairwise_append.1 hr'
 refine List.pairwise_append.2 ⟨a1,List.Pairwise.cons h2 a2,fun x hx y hy=> ?_⟩
 rcases List.mem_cons.1 hy with rfl|hy
 ·exact h1 x hx
 ·exact a3 x hx y hy
theorem Kf{acc:List (List UInt8)}{v:List UInt8}{j:Nat}(x:List UInt8):x∈acc.take j++v::acc.drop j↔x=v∨x∈acc:=by
 have:x∈acc↔x∈acc.take j∨x∈acc.drop j:=by
  rw[←List.mem_append,List.take_append_drop]
 rw[List.mem_append,List.mem_cons,this]
 constructor
 ·rintro(h|h|h)
  ·exact .inr (.inl h)
  ·exact .inl h
  ·exact .inr (.inr h)
 ·rintro(h|h|h)
  ·exact .inr (.inl h)
  ·exact .inl h
  ·exact .inr (.inr h)
section
variable{B:List (List AV)}{tk:List Nat}{acc:List (List UInt8)}{v:List UInt8}{j:Nat}
theorem BI(hl:acc.length≤1000):bw 1 16 (⟨B,tk,[]⟩:Heap) (.sl .full []) (.sl .sh ((acc.take j).map .str))=some (aZ ⟨B,tk,[]⟩ ((acc.take j).map .str),cu ⟨B,tk,[]⟩ ((acc.take j).map .str)):=
 w8 (by simp;omega) (dY fun _=>rfl) (qT fun _=>rfl)
theorem BJ(hl:acc.length≤1000):bw 1 16 (cu ⟨B,tk,[]⟩ ((acc.take j).map .str)) (aZ ⟨B,tk,[]⟩ ((acc.take j).map .str)) (.sl .full [.str v])=some (aZ ⟨B,tk,[]⟩ ((acc.take j++[v]).map .str),cu ⟨B,tk,[]⟩ ((acc.take j++[v]).map .str)):=by
 rw[ud (by simp;omega) (dY fun _=>rfl) rfl rfl];simp
theorem ue(hl:acc.length≤1000):bw 1 16 (cu ⟨B,tk,[]⟩ ((acc.take j++[v]).map .str)) (aZ ⟨B,tk,[]⟩ ((acc.take j++[v]).map .str)) (.sl .sh ((acc.drop j).map .str))=some (.sl (kD true tk.length) ((acc.take j++v::acc.drop j).map .str),⟨B,tk++[(acc.take j++v::acc.drop j).length],[]⟩):=by
 rw[ud (by simp;omega) (dY fun _=>rfl) (dY fun _=>rfl) (qT fun _=>rfl)]
 have e:(acc.take j++[v]).map AV.str++(acc.drop j).map AV.str=(acc.take j++v::acc.drop j).map AV.str:=by simp
 rw[e]
 obtain⟨y,ys,hy⟩:∃y ys,acc.take j++v::acc.drop j=y::ys:=by
  cases h:acc.take j++v::acc.drop j with
  |nil=>simp at h
  |cons y ys=>exact⟨y,ys,rfl⟩
 rw[hy]
 simp[aZ,cu,kD]
end
theorem HL(s:St)(key:List UInt8)(hs:s.nodes.length≤500)(hl:∀n∈s.nodes,n.labels.length<9223372036854775807):∀(post:List Node)(i:Nat)(hd:s.nodes.drop i=post)(hi:i≤s.nodes.length)(acc:List (List UInt8))(hr:gr acc)(ha:acc.length≤i)(b:Bool)(t:Nat)(tk:List Nat)(T:Env)
 (hT:Has T [(1,.str key),(2,.ptr 0 0),(5,.sl (kD b t) (acc.map .str)),(6,.int .i64 i)]),bA cfg wR lF T ⟨[(aB s).cells],tk,[]⟩ (rT key acc post):=by
 intro post
 induction post with
 |nil=>
  intro i hd hi acc hr ha b t tk T hT
  have hge:=bf hd
  exact gG 60 _ hT (.len (lM .sh aA s.nodes)<|.no (dF ((↑i:Int)<(↑s.nodes.length:Int)))<|.fin ((.ret (.sl (kD b t) (List.map .str acc)),{boxes:=[[.sl .sh (s.nodes.map aA),.sl .sh (s.aj.map af),.sl .sh (s.aY.map aP)]],toks:=tk,loops:=[]:Heap})) (by exact⟨acc,hr,fun x=>by simp[eA],b,t,rfl⟩))
 |cons x post ih=>
  intro i hd hi acc hr ha b t tk T hT
  have hlt:=bg hd
  have cq:=aL hd
  have cn:cc 5 (.sl .sh (s.nodes.map aA)) (.int .i64 (i:Nat))=some (.ref (aA x).cells):=bx (f:=aA) hd rfl
  have g:=Nr x.labels key (hl x (eo hd))
  cases hv:oD x.labels key with
  |none=>
   rw[hv]at g
   have g:aq cfg 219 [.sl .sh (x.labels.map aI),.str key] (.tuple [.str [],.bool false]):=g
   have cQ:=fun T hT=>bA.imp (ih (i+1) cq (by omega) acc hr (by omega) b t tk T hT) (rT.conv (acc:=acc) (post:=x::post) fun z=>by simp[eA,hv])
   exact let ag:List AV:=[.sl .sh (x.labels.map aI),.str key];gG 120 _ hT (.len (lM .sh aA s.nodes)<|.yes (dT ((↑i:Int)<(↑s.nodes.length:Int)))<|.idx cn<|.aG (ag) (.tuple [.str [],.bool false]) g<|.tt<|.bin (iI i)<|.aT lF [(1,.str key),(2,.ptr 0 0),(5,.sl (kD b t) (List.map .str acc)),(6,.int .i64 (↑(i+1)))] ({boxes:=[[.sl .sh (s.nodes.map aA),.sl .sh (s.aj.map af),.sl .sh (s.aY.map aP)]],toks:=tk,loops:=[]:Heap}) (fun T hT=>(cQ T hT)))
  |some v=>
   rw[hv]at g
   have g:aq cfg 219 [.sl .sh (x.labels.map aI),.str key] (.tuple [.str v,.bool true]):=g
   have hval:∀z,z∈eA key (x::post)↔z=v∨z∈eA key post:=fun z=>by simp[eA,hv]
   have fin:∀j,j≤acc.length→(∀z∈acc.take j,Op.bytesLess z v=true)→(∀z∈acc.drop j,Op.bytesLess v z=true)→∀T,Has T [(1,.str key),(2,.ptr 0 0),(5,.sl (kD true tk.length) ((acc.take j++v::acc.drop j).map .str)),(6,.int .i64 ((i+1:Nat):Int))]→bA cfg wR lF T ⟨[(aB s).cells],tk++[(acc.take j++v::acc.drop j).length],[]⟩ (rT key acc (x::post)):=fun j hj h1 h2 T hT=>
    bA.imp (ih (i+1) cq (by omega) (acc.take j++v::acc.drop j) (HK hr h1 h2) (by simp;omega) true tk.length _ T hT) (rT.conv (acc:=acc) (post:=x::post) fun z=>by
     rw[Kf,hval]
     constructor
     ·rintro((h|h)|h)
      ·exact .inr (.inl h)
      ·exact .inl h
      ·exact .inr (.inr h)
     ·rintro(h|h|h)
      ·exact .inl (.inr h)
      ·exact .inl (.inl h)
      ·exact .inr h)
   have inner:∀(ap:List (List UInt8))(j:Nat)(hj:acc.drop j=ap)(hj0:j≤acc.length)(h1:∀z∈acc.take j,Op.bytesLess z v=true)(T:Env)
    (hT:Has T [(1,.str key),(2,.ptr 0 0),(5,.sl (kD b t) (acc.map .str)),(6,.int .i64 i),(7,.str v),(9,.int .i64 j)]),bA cfg wR zW T ⟨[(aB s).cells],tk,[]⟩ (rT key acc (x::post)):=by
    intro ap
    induction ap with
    |nil=>
     intro j hj hj0 h1 T hT
     have hge:=bf hj
     have cQ:=fin j hj0 h1 (by rw[hj];simp)
     have s1:eR 1 (.sl (kD b t) (acc.map AV.str)) none (some (.int .i64 (j:Nat))) none=some (.sl .sh ((acc.take j).map .str)):=qS hj0 rfl fun _=>rfl
     have s2:eR 1 (.sl (kD b t) (acc.map AV.str)) (some (.int .i64 (j:Nat))) none none=some (.sl .sh ((acc.drop j).map .str)):=qR hj0 rfl fun _=>rfl
     have a1:=BI (B:=[(aB s).cells]) (tk:=tk) (acc:=acc) (j:=j) (by omega)
     have a2:=BJ (B:=[(aB s).cells]) (tk:=tk) (acc:=acc) (j:=j) (v:=v) (by omega)
     have a3:=ue (B:=[(aB s).cells]) (tk:=tk) (acc:=acc) (j:=j) (v:=v) (by omega)
     exact let ag:Heap:={boxes:=[(aB s).cells],toks:=tk,loops:=[]:Heap};let ax:List (List AV):=[[.sl .sh (s.nodes.map aA),.sl .sh (s.aj.map af),.sl .sh (s.aY.map aP)]];gG 160 _ hT (.len (lM (kD b t) .str acc)<|.no (dF ((↑j:Int)<(↑acc.length:Int)))<|.ff<|.len (lM (kD b t) .str acc)<|.no (dF ((↑j:Int)<(↑acc.length:Int)))<|.ff<|.slice s1<|.append a1<|.append a2<|.slice s2<|.append a3<|.bin (iI i)<|.aT lF [(1,.str key),(2,.ptr 0 0),(5,.sl (SK.own tk.length) (List.map .str (List.take j acc++v::List.drop j acc))),(6,.int .i64 (↑(i+1)))] ({boxes:=ax,toks:=tk++[(List.take j acc++v::List.drop j acc).length],loops:=[]:Heap}) (fun T hT=>(cQ T hT)))
    |cons y ap SE=>
     intro j hj hj0 h1 T hT
     have JI:=bg hj
     have JJ:=aL hj
     have Lu:cc 1 (.sl (kD b t) (acc.map AV.str)) (.int .i64 (j:Nat))=some (.ref [.str y]):=bx (f:=AV.str) hj rfl
     by_cases hy:Op.bytesLess y v=true
     ·have cQ:=SE (j+1) JJ JI (fun z hz=>by
       rw[List.take_add_one,List.mem_append]at hz
       rcases hz with hz|hz
       ·exact h1 z hz
       ·rw[drop_at hj]at hz
        obtain rfl:z=y:=by simpa using hz
        exact hy)
      exact gG 120 _ hT (.len (lM (kD b t) .str acc)<|.yes (dT ((↑j:Int)<(↑acc.length:Int)))<|.idx Lu<|.yes (show(Op.bytesLess y v)=true from(by omega))<|.bin (iI j)<|.aT zW [(1,.str key),(2,.ptr 0 0),(5,.sl (kD b t) (List.map .str acc)),(6,.int .i64 ↑i),(7,.str v),(9,.int .i64 (↑(j+1):Int))] ({boxes:=[[.sl .sh (s.nodes.map aA),.sl .sh (s.aj.map af),.sl .sh (s.aY.map aP)]],toks:=tk,loops:=[]:Heap}) (fun T hT=>(cQ T hT)))
     ·by_cases hq:y=v
      ·have cQ:=fun T hT=>bA.imp (ih (i+1) cq (by omega) acc hr (by omega) b t tk T hT) (rT.conv (acc:=acc) (post:=x::post) fun z=>by
        rw[hval]
        have hm:v∈acc:=by rw[←hq];exact List.mem_of_mem_drop (by rw[hj];simp:y∈acc.drop j)
        constructor
        ·rintro(h|h)
         ·exact .inl h
         ·exact .inr (.inr h)
        ·rintro(h|rfl|h)
         ·exact .inl h
         ·exact .inl hm
         ·exact .inr h)
       exact gG 160 _ hT (.len (lM (kD b t) .str acc)<|.yes (dT ((↑j:Int)<(↑acc.length:Int)))<|.idx Lu<|.no (show(Op.bytesLess y v)=false from Bool.eq_false_iff.2 (by omega))<|.len (lM (kD b t) .str acc)<|.yes (dT ((↑j:Int)<(↑acc.length:Int)))<|.idx Lu<|.yes (show(y==v)=true from(by simp[hq]))<|.bin (iI i)<|.aT lF [(1,.str key),(2,.ptr 0 0),(5,.sl (kD b t) (List.map .str acc)),(6,.int .i64 (↑(i+1)))] ({boxes:=[[.sl .sh (s.nodes.map aA),.sl .sh (s.aj.map af),.sl .sh (s.aY.map aP)]],toks:=tk,loops:=[]:Heap}) (fun T hT=>(cQ T hT)))
      ·have WY:Op.bytesLess v y=true:=vj (by simp[hy,hq])
       have cQ:=fin j hj0 h1 (fun z hz=>by
        rw[hj]at hz
        rcases List.mem_cons.1 hz with rfl|hz
        ·exact WY
        ·have hr2:gr (acc.drop j):=hr.sublist (List.drop_sublist _ _)
         rw[hj]at hr2
         exact jf WY (List.rel_of_pairwise_cons hr2 hz))
       have s1:eR 1 (.sl (kD b t) (acc.map AV.str)) none (some (.int .i64 (j:Nat))) none=some (.sl .sh ((acc.take j).map .str)):=qS hj0 rfl fun _=>rfl
       have s2:eR 1 (.sl (kD b t) (acc.map AV.str)) (some (.int .i64 (j:Nat))) none none=some (.sl .sh ((acc.drop j).map .str)):=qR hj0 rfl fun _=>rfl
       have a1:=BI (B:=[(aB s).cells]) (tk:=tk) (acc:=acc) (j:=j) (by omega)
       have a2:=BJ (B:=[(aB s).cells]) (tk:=tk) (acc:=acc) (j:=j) (v:=v) (by omega)
       have a3:=ue (B:=[(aB s).cells]) (tk:=tk) (acc:=acc) (j:=j) (v:=v) (by omega)
       exact let ag:Heap:={boxes:=[(aB s).cells],toks:=tk,loops:=[]:Heap};let ax:List (List AV):=[[.sl .sh (s.nodes.map aA),.sl .sh (s.aj.map af),.sl .sh (s.aY.map aP)]];gG 200 _ hT (.len (lM (kD b t) .str acc)<|.yes (dT ((↑j:Int)<(↑acc.length:Int)))<|.idx Lu<|.no (show(Op.bytesLess y v)=false from Bool.eq_false_iff.2 (by omega))<|.len (lM (kD b t) .str acc)<|.yes (dT ((↑j:Int)<(↑acc.length:Int)))<|.idx Lu<|.no (show(y==v)=false from Bool.eq_false_iff.2 (by simp+zetaDelta [hq]))<|.slice s1<|.append a1<|.append a2<|.slice s2<|.append a3<|.bin (iI i)<|.aT lF [(1,.str key),(2,.ptr 0 0),(5,.sl (SK.own tk.length) (List.map .str (List.take j acc++v::List.drop j acc))),(6,.int .i64 (↑(i+1)))] ({boxes:=ax,toks:=tk++[(List.take j acc++v::List.drop j acc).length],loops:=[]:Heap}) (fun T hT=>(cQ T hT)))
   have lo:=inner acc 0 rfl (by omega) (by simp)
   exact let ag:List AV:=[.sl .sh (x.labels.map aI),.str key];gG 120 _ hT (.len (lM .sh aA s.nodes)<|.yes (dT ((↑i:Int)<(↑s.nodes.length:Int)))<|.idx cn<|.aG (ag) (.tuple [.str v,.bool true]) g<|.ff<|.aT zW [(1,.str key),(2,.ptr 0 0),(5,.sl (kD b t) (List.map .str acc)),(6,.int .i64 ↑i),(7,.str v),(9,.int .i64 0)] ({boxes:=[[.sl .sh (s.nodes.map aA),.sl .sh (s.aj.map af),.sl .sh (s.aY.map aP)]],toks:=tk,loops:=[]:Heap}) (fun T hT=>(lo T hT)))
theorem RD(s:St)(key:List UInt8)(hs:s.nodes.length≤500)(hl:∀n∈s.nodes,n.labels.length<9223372036854775807):∃b t,aq cfg 221 [aB s,.str key] (.sl (kD b t) ((gq s key).map .str)):=by
 have h:=HL s key hs hl s.nodes 0 rfl (Nat.zero_le _) [] (by simp[gr]) (by simp) false 0 []
 have h:∀T,Has T [(1,.str key),(2,.ptr 0 0),(5,.sl .full []),(6,.int .i64 (0:Nat))]→bA cfg wR lF T ⟨[(aB s).cells],[],[]⟩ (rT key [] s.nodes):=h
 have Vx:bA cfg wR [.c MB] (ay [aB s,.str key]) Heap.nil (rT key [] s.nodes):=by
  exact gG 60 [] trivial (.aT lF [(1,.str key),(2,.ptr 0 0),(5,.sl .full []),(6,.int .i64 0)] ({boxes:=[[.sl .sh (s.nodes.map aA),.sl .sh (s.aj.map af),.sl .sh (s.aY.map aP)]],toks:=[],loops:=[]:Heap}) (fun T hT=>(h T hT)))
 obtain⟨r,hr,l,h1,h2,b,t,h3⟩:=Vx
 have e:l=gq s key:=nN h1 (iG _) fun x=>by rw[h2,gq,fS];simp
 rw[e]at h3
 exact⟨b,t,aq.run (UJ _ _) ⟨r,hr,h3⟩⟩
end Go.Aa.T
namespace Go.Aa.T
open Go.Aa Go.Proofs
end Go.Aa.T
namespace Go.Aa.T
open Go.Aa Go.Proofs
theorem RE{s:St}{key:List UInt8}{l:List AV}(h:kg cfg 161 [aB s,.str key] (.sl .sh l))(H:Heap):cv cfg (.call (.c (.func 161 [])) [.c (aB s),.c (.str key)]) H (.sl .sh l) H:=qW h rfl rfl H
def dr(f:List UInt8→Nat)(own:List UInt8):List (List UInt8)→Int→Int
 |[],m=>m
 |d::l,m=>dr f own l (if d=own then m else if(f d:Int)<m then(f d:Int)else m)
def dV(s:St)(p:cT)(nm:List UInt8):Int×Bool:=
 if p.key=[]then(0,true)else match kV s nm p.key with
 |none=>(0,false)
 |some own=>((bW s p own:Int)+1-dr (bW s p) own (gq s p.key) ((bW s p own:Int)+1),true)
theorem Kg(s:St)(p:cT)(nm own:List UInt8)(ds:List (List UInt8))(hc:∀d,aq cfg 160 [aB s,af p,.str d] (.int .i64 (bW s p d)))(here:Int)(hh:0≤here∧here≤100000)(hn:ds.length≤1000):
 ∀(post:List (List UInt8))(i:Nat)(hd:ds.drop i=post)(m:Int)(hm:0≤m)(hm2:m≤100000)(T:Env)
 (hT:Has T [(0,.ptr 0 0),(2,.ptr 1 0),(3,.ptr 3 0),(4,.str own),(5,.int .i64 here),(6,.int .i64 m),(23,.sl .sh (ds.map .str)),(24,.int .i64 ds.length),(25,.int .i64 i)]),
 bA cfg Ch uQ T ⟨[(aB s).cells,(af p).cells,[.str nm],[.int .i64 0]],[],[]⟩ (fun r=>r=(.ret (.tuple []),⟨[(aB s).cells,(af p).cells,[.str nm],[.int .i64 (here-dr (bW s p) own post m)]],[],[]⟩)):=by
 intro post
 induction post with
 |nil=>
  intro i hd m hm hm2 T hT
  have hge:=bf hd
  rw[show dr (bW s p) own [] m=m from rfl]
  have sb:cG .sub (.int .i64 here) (.int .i64 m)=some (.int .i64 (here-m)):=FM (by omega) (by omega)
  exact gG 60 _ hT (.no (dF ((↑i:Int)<(↑ds.length:Int)))<|.bin sb<|.fin ((.ret (.tuple []),{boxes:=[[.sl .sh (s.nodes.map aA),.sl .sh (s.aj.map af),.sl .sh (s.aY.map aP)],[.str p.name,.str p.owner,.int .i64 p.prio,.sl .sh (p.need.map ai),.sl .sh (p.labels.map aI),.sl .sh (p.bS.map aX),.sl .sh (p.bh.map aQ),.str p.key,.int .i64 p.most,.str p.node,.bool p.hold],[.str nm],[.int .i64 (here-m)]],toks:=[],loops:=[]:Heap})) rfl)
 |cons d post ih=>
  intro i hd m hm hm2 T hT
  have hlt:=bg hd
  have cq:=aL hd
  have cn:cc 1 (.sl .sh (ds.map .str)) (.int .i64 (i:Nat))=some (.ref [.str d]):=bx (f:=AV.str) hd rfl
  by_cases h:d=own
  ·have e:dr (bW s p) own (d::post) m=dr (bW s p) own post m:=by simp only[dr,if_pos h]
   rw[e]
   have cQ:=ih (i+1) cq m hm hm2
   subst h
   exact gG 120 _ hT (.yes (dT ((↑i:Int)<(↑ds.length:Int)))<|.idx cn<|.no (show(!d==d)=false from by have hh:(d==d)=true:=(by simp);simp[hh])<|.bin (iI i)<|.aT uQ [(0,.ptr 0 0),(2,.ptr 1 0),(3,.ptr 3 0),(4,.str d),(5,.int .i64 here),(6,.int .i64 m),(23,.sl .sh (List.map .str ds)),(24,.int .i64 (↑ds.length)),(25,.int .i64 (↑(i+1)))] ({boxes:=[[.sl .sh (s.nodes.map aA),.sl .sh (s.aj.map af),.sl .sh (s.aY.map aP)],[.str p.name,.str p.owner,.int .i64 p.prio,.sl .sh (p.need.map ai),.sl .sh (p.labels.map aI),.sl .sh (p.bS.map aX),.sl .sh (p.bh.map aQ),.str p.key,.int .i64 p.most,.str p.node,.bool p.hold],[.str nm],[.int .i64 0]],toks:=[],loops:=[]:Heap}) (fun T hT=>(cQ T hT)))
  ·have hcd:=hc d
   generalize hq:bW s p d=c at hcd
   have e:dr (bW s p) own (d::post) m=dr (bW s p) own post (if(c:Int)<m then(c:Int)else m):=by simp only[dr,if_neg h,hq]
   rw[e]
   have cQ:=ih (i+1) cq (if(c:Int)<m then(c:Int)else m) (by split<;>omega) (by split<;>omega)
   have cQ:∀T,Has T [(0,.ptr 0 0),(2,.ptr 1 0),(3,.ptr 3 0),(4,.str own),(5,.int .i64 here),(6,.int .i64 (if false=true then(if(c:Int)>m then(c:Int)else m)else if(c:Int)<m then(c:Int)else m)),(23,.sl .sh (ds.map .str)),(24,.int .i64 ds.length),(25,.int .i64 ((i+1:Nat):Int))]→_:=cQ
   exact let ag:List AV:=[.str p.name,.str p.owner,.int .i64 p.prio,.sl .sh (p.need.map ai),.sl .sh (p.labels.map aI),.sl .sh (p.bS.map aX),.sl .sh (p.bh.map aQ),.str p.key,.int .i64 p.most,.str p.node,.bool p.hold];let ax:List AV:=[.sl .sh (s.nodes.map aA),.sl .sh (s.aj.map af),.sl .sh (s.aY.map aP)];gG 120 _ hT (.yes (dT ((↑i:Int)<(↑ds.length:Int)))<|.idx cn<|.yes (show(!d==own)=true from by have hh:¬((d==own)=true):=(by simpa using h);simp[hh])<|.aG ([.agg ax,.agg ag,.str d]) (.int .i64 ↑c) hcd<|.bin (iI i)<|.aT uQ [(0,.ptr 0 0),(2,.ptr 1 0),(3,.ptr 3 0),(4,.str own),(5,.int .i64 here),(6,.int .i64 (if false=true then if(↑c:Int)>m then(↑c:Int)else m else if(↑c:Int)<m then(↑c:Int)else m)),(23,.sl .sh (List.map .str ds)),(24,.int .i64 (↑ds.length)),(25,.int .i64 (↑(i+1)))] ({boxes:=[ax,ag,[.str nm],[.int .i64 0]],toks:=[],loops:=[]:Heap}) (fun T hT=>(cQ T hT)))
theorem yp(s:St)(key:List UInt8):(gq s key).length≤s.nodes.length:=by
 have h1:=HI key s.nodes
 have h2:=GJ (ep (eA key s.nodes))
 rw[gf]at h2
 unfold gq cy
 omega
theorem N1(s:St)(p:cT)(nm:List UInt8)(hp:s.aj.length≤1000)(hs:s.nodes.length≤1000)(hl:∀n∈s.nodes,n.labels.length<9223372036854775807)(hk:¬p.key=[]):
 ∃e H1,bA cfg Ch [.c I0] (ay [.ptr 0 0,.ptr 2 0,.ptr 1 0,.ptr 3 0]) ⟨[(aB s).cells,(af p).cells,[.str nm],[.int .i64 0]],[],[]⟩ (fun r=>((e=0∧r.1=.ret (.tuple []))∨(e≠0∧r.1=.cS (iA e)))∧r.2=H1∧de 4 0 (.int .i64 e) H1=⟨[(aB s).cells,(af p).cells,[.str nm],[.int .i64 (dV s p nm).1]],[],[]⟩)∧(dV s p nm).2=decide (e=0):=by
 cases hd:kV s nm p.key with
 |none=>
  have hn:=yj s nm p.key (by omega) hl hd
  have e1:dV s p nm=(0,false):=by unfold dV;rw[if_neg hk,hd]
  rw[e1]
  refine⟨10,⟨[(aB s).cells,(af p).cells,[.str nm],[.int .i64 0]],[],[]⟩,?_,rfl⟩
  exact let ag:List AV:=[.sl .sh (s.nodes.map aA),.sl .sh (s.aj.map af),.sl .sh (s.aY.map aP)];gG 90 [] trivial (.jP ([.agg ag,.str nm,.str p.key]) ({boxes:=[ag,[.str p.name,.str p.owner,.int .i64 p.prio,.sl .sh (p.need.map ai),.sl .sh (p.labels.map aI),.sl .sh (p.bS.map aX),.sl .sh (p.bh.map aQ),.str p.key,.int .i64 p.most,.str p.node,.bool p.hold],[.str nm],[.int .i64 0]],toks:=[],loops:=[]:Heap}) hn ⟨rfl,rfl⟩ rfl (by exact⟨.inr ⟨by decide,rfl⟩,rfl,dc⟩))
 |some own=>
  have hy:=yh s nm p.key own (by omega) hl hd
  have hc:=fun d=>Ds s p d hp (by omega) hl
  have hcl:bW s p own≤s.aj.length:=List.length_filter_le _ _
  have e1:dV s p nm=((bW s p own:Int)+1-dr (bW s p) own (gq s p.key) ((bW s p own:Int)+1),true):=by unfold dV;rw[if_neg hk,hd]
  rw[e1]
  have dl:=yp s p.key
  have ds:=HJ s p.key hs hl
  have r6:=hc own
  have lo:=Kg s p nm own (gq s p.key) hc ((bW s p own:Int)+1) (by omega) (by omega) (gq s p.key) 0 rfl ((bW s p own:Int)+1) (by omega) (by omega)
  refine⟨0,⟨[(aB s).cells,(af p).cells,[.str nm],[.int .i64 ((bW s p own:Int)+1-dr (bW s p) own (gq s p.key) ((bW s p own:Int)+1))]],[],[]⟩,?_,rfl⟩
  have key:bA cfg Ch [.c I0] (ay [.ptr 0 0,.ptr 2 0,.ptr 1 0,.ptr 3 0]) ⟨[(aB s).cells,(af p).cells,[.str nm],[.int .i64 0]],[],[]⟩ (fun r=>r=(.ret (.tuple []),⟨[(aB s).cells,(af p).cells,[.str nm],[.int .i64 ((bW s p own:Int)+1-dr (bW s p) own (gq s p.key) ((bW s p own:Int)+1))]],[],[]⟩)):=by
   generalize dr (bW s p) own (gq s p.key) ((bW s p own:Int)+1)=le at lo⊢
   generalize gq s p.key=dd at*
   generalize bW s p own=c at*
   have ad:cG .add (.int .i64 (c:Int)) (.int .i64 1)=some (.int .i64 ((c:Int)+1)):=Cx (by omega) (by omega)
   exact let ax:List AV:=[.sl .sh (s.nodes.map aA),.sl .sh (s.aj.map af),.sl .sh (s.aY.map aP)];let ag:Heap:={boxes:=[ax,[.str p.name,.str p.owner,.int .i64 p.prio,.sl .sh (p.need.map ai),.sl .sh (p.labels.map aI),.sl .sh (p.bS.map aX),.sl .sh (p.bh.map aQ),.str p.key,.int .i64 p.most,.str p.node,.bool p.hold],[.str nm],[.int .i64 0]],toks:=[],loops:=[]:Heap};gG 90 [] trivial (.aG ([.agg ax,.str nm,.str p.key]) (.str own) hy<|.aG ([.agg ax,.agg [.str p.name,.str p.owner,.int .i64 p.prio,.sl .sh (p.need.map ai),.sl .sh (p.labels.map aI),.sl .sh (p.bS.map aX),.sl .sh (p.bh.map aQ),.str p.key,.int .i64 p.most,.str p.node,.bool p.hold],.str own]) (.int .i64 ↑c) r6<|.bin ad<|.cw (show cv cfg (.call (.c (.func 161 [])) [.c (aB s),.c (.str p.key)]) ag (.sl .sh (List.map .str dd)) ag from RE ds _)<|.len (lM .sh .str dd)<|.aT uQ [(0,.ptr 0 0),(2,.ptr 1 0),(3,.ptr 3 0),(4,.str own),(5,.int .i64 ((↑c:Int)+(1:Int))),(6,.int .i64 ((↑c:Int)+(1:Int))),(23,.sl .sh (List.map .str dd)),(24,.int .i64 (↑dd.length)),(25,.int .i64 0)] (ag) (fun T hT=>(lo T hT)))
  exact bA.imp key fun r hr=>by subst hr;exact⟨.inl ⟨rfl,rfl⟩,rfl,dc⟩
theorem HM(s:St)(p:cT)(nm:List UInt8)(hp:s.aj.length≤1000)(hs:s.nodes.length≤1000)(hl:∀n∈s.nodes,n.labels.length<9223372036854775807):
 aq cfg 85 [aB s,af p,.str nm] (.tuple [.int .i64 (dV s p nm).1,.bool (dV s p nm).2]):=by
 by_cases hk:p.key=[]
 ·have e:dV s p nm=(0,true):=by unfold dV;rw[if_pos hk]
  rw[e]
  refine aq.run (WK _ _) ?_
  exact gG 60 [] trivial (.yes (show(p.key==[])=true from(by simp[hk]))<|.fin ((.ret (.tuple [.int .i64 0,.bool true]),{boxes:=[[.sl .sh (s.nodes.map aA),.sl .sh (s.aj.map af),.sl .sh (s.aY.map aP)],[.str p.name,.str p.owner,.int .i64 p.prio,.sl .sh (p.need.map ai),.sl .sh (p.labels.map aI),.sl .sh (p.bS.map aX),.sl .sh (p.bh.map aQ),.str p.key,.int .i64 p.most,.str p.node,.bool p.hold],[.str nm]],toks:=[],loops:=[]:Heap})) rfl)
 ·refine aq.run (WK _ _) ?_
  obtain⟨e,H1,⟨⟨a,H2⟩,hr,hR,hH,ht2⟩,h2⟩:=N1 s p nm hp hs hl hk
  simp only at hH
  subst hH
  rw[h2]
  have ht:lim cfg (.fn 66) [.func 158 [.ptr 0 0,.ptr 2 0,.ptr 1 0,.ptr 3 0]] ⟨[(aB s).cells,(af p).cells,[.str nm],[.int .i64 0]],[],[]⟩=some (.ret (.int .i64 e),H2):=by
   rw[ke rfl,Ug,hr]
   rcases hR with⟨h0,h1⟩|⟨h0,h1⟩
   ·simp only at h1;subst h1;subst h0;rfl
   ·simp only at h1;subst h1;rfl
  have hd:=bU (xs:=[.func 158 [.ptr 0 0,.ptr 2 0,.ptr 1 0,.ptr 3 0]]) (caps:=[]) ht rfl rfl
  rw[show bz (.int .i64 e)=.int .i64 e from rfl,show de (⟨[(aB s).cells,(af p).cells,[.str nm],[.int .i64 0]],[],[]⟩:Heap).boxes.length (⟨[(aB s).cells,(af p).cells,[.str nm],[.int .i64 0]],[],[]⟩:Heap).toks.length (.int .i64 e) H2=⟨[(aB s).cells,(af p).cells,[.str nm],[.int .i64 (dV s p nm).1]],[],[]⟩from ht2]at hd
  generalize(dV s p nm).1=sk at hd⊢
  exact gG 120 [] trivial (.no (show(p.key==[])=false from Bool.eq_false_iff.2 (by simp[hk]))<|.cw hd<|.fin ((.ret (.tuple [.int .i64 sk,.bool (e==(0:Int))]),{boxes:=[[.sl .sh (s.nodes.map aA),.sl .sh (s.aj.map af),.sl .sh (s.aY.map aP)],[.str p.name,.str p.owner,.int .i64 p.prio,.sl .sh (p.need.map ai),.sl .sh (p.labels.map aI),.sl .sh (p.bS.map aX),.sl .sh (p.bh.map aQ),.str p.key,.int .i64 p.most,.str p.node,.bool p.hold],[.str nm],[.int .i64 sk]],toks:=[],loops:=[]:Heap})) rfl)
end Go.Aa.T
namespace Go.Aa.T
open Go.Aa Go.Proofs
structure N2(p:cT):Prop where
 need:p.need.length<9223372036854775807
 labels:p.labels.length<9223372036854775807
 bS:p.bS.length<9223372036854775807
 bh:p.bh.length<9223372036854775807
structure RF(n:Node):Prop where
 labels:n.labels.length<9223372036854775807
 aV:n.aV.length<9223372036854775807
end Go.Aa.T
namespace Go.Aa.T
open Go.Aa Go.Proofs
theorem drop_drop(s:St)(a b:List UInt8):x9 (x9 s a) b=x9 (x9 s b) a:=by
 unfold x9 Rz
 simp only[List.filter_filter,Bool.and_comm]
end Go.Aa.T
namespace Go.Aa.T
open Go.Aa Go.Proofs
end Go.Aa.T
namespace Go.Aa.T
open Go.Aa Go.Proofs
theorem N3{s:St}(fs:Dh s):∀n∈s.nodes,RF n:=fun n hn=>by
 have f:=tL (fs.node n hn)
 exact⟨by have:=f.labels;omega,by have:=f.aV;omega⟩
theorem N4{p:cT}(h:fD p=true):N2 p:=by
 have f:=oH h
 exact⟨by have:=f.need;omega,by have:=f.labels;omega,by have:=f.bS;omega,by have:=f.bh;omega⟩
end Go.Aa.T
namespace Go.Aa.T
open Go.Aa Go.Proofs
end Go.Aa.T

