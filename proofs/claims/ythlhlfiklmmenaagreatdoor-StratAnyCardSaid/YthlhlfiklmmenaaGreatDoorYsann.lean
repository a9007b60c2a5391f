import Derived.Test.YthlhlfiklmmenaaGreatDoorYsanm
set_option linter.unusedVariables false
set_option linter.unusedSimpArgs false
set_option maxRecDepth 100000
namespace Go.Aa.T
open Go.Aa Go.Proofs
theorem HN(s:St)(p:cT)(n:Node)(own:List UInt8)(ds:List (List UInt8))(hc:∀d,aq cfg 220 [aB s,af p,.str d] (.int .i64 (bW s p d)))(here:Int)(hh:0≤here∧here≤100000)(hn:ds.length≤1000):
 ∀(post:List (List UInt8))(i:Nat)(hd:ds.drop i=post)(m:Int)(hm:0≤m)(hm2:m≤100000)(T:Env)
 (hT:Has T [(3,.ptr 0 0),(4,.ptr 1 0),(10,.str own),(12,.int .i64 here),(13,.int .i64 m),(14,.sl .sh (ds.map .str)),(15,.int .i64 i)]),
 bA cfg a148 rj T ⟨[(aB s).cells,(af p).cells,(aA n).cells],[],[]⟩ (aJ (.tuple [.int .i64 (here-dr (bW s p) own post m),.bool true])):=by
 intro post
 induction post with
 |nil=>
  intro i hd m hm hm2 T hT
  have hge:=bf hd
  rw[show dr (bW s p) own [] m=m from rfl]
  have sb:cG .sub (.int .i64 here) (.int .i64 m)=some (.int .i64 (here-m)):=FM (by omega) (by omega)
  exact gG 60 _ hT (.len (lM .sh .str ds)<|.no (dF ((↑i:Int)<(↑ds.length:Int)))<|.bin sb<|.fin ((.ret (.tuple [.int .i64 (here-m),.bool true]),{boxes:=[[.sl .sh (s.nodes.map aA),.sl .sh (s.aj.map af),.sl .sh (s.aY.map aP)],[.str p.name,.str p.owner,.int .i64 p.prio,.sl .sh (p.need.map ai),.sl .sh (p.labels.map aI),.sl .sh (p.bS.map aX),.sl .sh (p.bh.map aQ),.str p.key,.int .i64 p.most,.str p.node,.bool p.hold],[.str n.name,.sl .sh (n.cap.map ai),.sl .sh (n.labels.map aI),.sl .sh (n.aV.map bu),.bool n.br]],toks:=[],loops:=[]:Heap})) rfl)
 |cons d post ih=>
  intro i hd m hm hm2 T hT
  have hlt:=bg hd
  have cq:=aL hd
  have cn:cc 1 (.sl .sh (ds.map .str)) (.int .i64 (i:Nat))=some (.ref [.str d]):=bx (f:=AV.str) hd rfl
  have hcd:=hc d
  generalize hq:bW s p d=c at hcd
  by_cases h:d=own
  ·have e:dr (bW s p) own (d::post) m=dr (bW s p) own post m:=by simp only[dr,if_pos h]
   rw[e]
   have cQ:=ih (i+1) cq m hm hm2
   exact let ag:List AV:=[.str p.name,.str p.owner,.int .i64 p.prio,.sl .sh (p.need.map ai),.sl .sh (p.labels.map aI),.sl .sh (p.bS.map aX),.sl .sh (p.bh.map aQ),.str p.key,.int .i64 p.most,.str p.node,.bool p.hold];let ax:List AV:=[.sl .sh (s.nodes.map aA),.sl .sh (s.aj.map af),.sl .sh (s.aY.map aP)];gG 120 _ hT (.len (lM .sh .str ds)<|.yes (dT ((↑i:Int)<(↑ds.length:Int)))<|.idx cn<|.aG ([.agg ax,.agg ag,.str d]) (.int .i64 ↑c) hcd<|.idx cn<|.no (show(!d==own)=false from by have hh:(d==own)=true:=(by simpa using h);simp[hh])<|.ff<|.bin (iI i)<|.aT rj [(3,.ptr 0 0),(4,.ptr 1 0),(10,.str own),(12,.int .i64 here),(13,.int .i64 m),(14,.sl .sh (List.map .str ds)),(15,.int .i64 (↑(i+1)))] ({boxes:=[ax,ag,[.str n.name,.sl .sh (n.cap.map ai),.sl .sh (n.labels.map aI),.sl .sh (n.aV.map bu),.bool n.br]],toks:=[],loops:=[]:Heap}) (fun T hT=>(cQ T hT)))
  ·by_cases h2:(c:Int)<m
   ·have e:dr (bW s p) own (d::post) m=dr (bW s p) own post (c:Int):=by simp only[dr,if_neg h,hq,if_pos h2]
    rw[e]
    have cQ:=ih (i+1) cq (c:Int) (by omega) (by omega)
    exact let ag:List AV:=[.str p.name,.str p.owner,.int .i64 p.prio,.sl .sh (p.need.map ai),.sl .sh (p.labels.map aI),.sl .sh (p.bS.map aX),.sl .sh (p.bh.map aQ),.str p.key,.int .i64 p.most,.str p.node,.bool p.hold];let ax:List AV:=[.sl .sh (s.nodes.map aA),.sl .sh (s.aj.map af),.sl .sh (s.aY.map aP)];gG 120 _ hT (.len (lM .sh .str ds)<|.yes (dT ((↑i:Int)<(↑ds.length:Int)))<|.idx cn<|.aG ([.agg ax,.agg ag,.str d]) (.int .i64 ↑c) hcd<|.idx cn<|.yes (show(!d==own)=true from by have hh:¬((d==own)=true):=(by simpa using h);simp[hh])<|.yes (dT ((↑c:Int)<m))<|.bin (iI i)<|.aT rj [(3,.ptr 0 0),(4,.ptr 1 0),(10,.str own),(12,.int .i64 here),(13,.int .i64 ↑c),(14,.sl .sh (List.map .str ds)),(15,.int .i64 (↑(i+1)))] ({boxes:=[ax,ag,[.str n.name,.sl .sh (n.cap.map ai),.sl .sh (n.labels.map aI),.sl .sh (n.aV.map bu),.bool n.br]],toks:=[],loops:=[]:Heap}) (fun T hT=>(cQ T hT)))
   ·have e:dr (bW s p) own (d::post) m=dr (bW s p) own post m:=by simp only[dr,if_neg h,hq,if_neg h2]
    rw[e]
    have cQ:=ih (i+1) cq m hm hm2
    exact let ag:List AV:=[.str p.name,.str p.owner,.int .i64 p.prio,.sl .sh (p.need.map ai),.sl .sh (p.labels.map aI),.sl .sh (p.bS.map aX),.sl .sh (p.bh.map aQ),.str p.key,.int .i64 p.most,.str p.node,.bool p.hold];let ax:List AV:=[.sl .sh (s.nodes.map aA),.sl .sh (s.aj.map af),.sl .sh (s.aY.map aP)];gG 120 _ hT (.len (lM .sh .str ds)<|.yes (dT ((↑i:Int)<(↑ds.length:Int)))<|.idx cn<|.aG ([.agg ax,.agg ag,.str d]) (.int .i64 ↑c) hcd<|.idx cn<|.yes (show(!d==own)=true from by have hh:¬((d==own)=true):=(by simpa using h);simp[hh])<|.no (dF ((↑c:Int)<m))<|.bin (iI i)<|.aT rj [(3,.ptr 0 0),(4,.ptr 1 0),(10,.str own),(12,.int .i64 here),(13,.int .i64 m),(14,.sl .sh (List.map .str ds)),(15,.int .i64 (↑(i+1)))] ({boxes:=[ax,ag,[.str n.name,.sl .sh (n.cap.map ai),.sl .sh (n.labels.map aI),.sl .sh (n.aV.map bu),.bool n.br]],toks:=[],loops:=[]:Heap}) (fun T hT=>(cQ T hT)))
theorem RG(s:St)(p:cT)(nm:List UInt8)(hp:s.aj.length≤1000)(hs:s.nodes.length≤500)(hl:∀n∈s.nodes,n.labels.length<9223372036854775807):
 aq cfg 148 [aB s,af p,.str nm] (.tuple [.int .i64 (dV s p nm).1,.bool (dV s p nm).2]):=by
 by_cases hk:p.key=[]
 ·have e:dV s p nm=(0,true):=by unfold dV;rw[if_pos hk]
  rw[e]
  refine aq.run (QK _ _) ?_
  exact gG 60 [] trivial (.yes (show(p.key==[])=true from(by simp[hk]))<|.fin ((.ret (.tuple [.int .i64 0,.bool true]),{boxes:=[[.sl .sh (s.nodes.map aA),.sl .sh (s.aj.map af),.sl .sh (s.aY.map aP)],[.str p.name,.str p.owner,.int .i64 p.prio,.sl .sh (p.need.map ai),.sl .sh (p.labels.map aI),.sl .sh (p.bS.map aX),.sl .sh (p.bh.map aQ),.str p.key,.int .i64 p.most,.str p.node,.bool p.hold]],toks:=[],loops:=[]:Heap})) rfl)
 ·refine aq.run (QK _ _) ?_
  rcases uc s nm p.key (by omega) hl with⟨-,h1,h2,h3⟩|⟨nd,h2,⟨h1,h3⟩|⟨own,h1,h3⟩⟩
  ·have e:dV s p nm=(0,false):=by unfold dV;rw[if_neg hk,h1]
   rw[e]
   exact let ag:List AV:=[.str [],.sl .sh [],.sl .sh [],.sl .sh [],.bool false];let ax:List AV:=[.sl .sh (s.nodes.map aA),.str nm];gG 120 [] trivial (.no (show(p.key==[])=false from Bool.eq_false_iff.2 (by simp+zetaDelta [hk]))<|.aG (ax) (.tuple [.agg ag,.bool false]) h2<|.aG ([.sl .sh [],.str p.key]) (.tuple [.str [],.bool false]) h3<|.tt<|.tt<|.fin ((.ret (.tuple [.int .i64 0,.bool false]),{boxes:=[[.sl .sh (s.nodes.map aA),.sl .sh (s.aj.map af),.sl .sh (s.aY.map aP)],[.str p.name,.str p.owner,.int .i64 p.prio,.sl .sh (p.need.map ai),.sl .sh (p.labels.map aI),.sl .sh (p.bS.map aX),.sl .sh (p.bh.map aQ),.str p.key,.int .i64 p.most,.str p.node,.bool p.hold],ag],toks:=[],loops:=[]:Heap})) rfl)
  ·have e:dV s p nm=(0,false):=by unfold dV;rw[if_neg hk,h1]
   rw[e]
   exact let ag:List AV:=[.str nd.name,.sl .sh (nd.cap.map ai),.sl .sh (nd.labels.map aI),.sl .sh (nd.aV.map bu),.bool nd.br];let ax:List AV:=[.sl .sh (nd.labels.map aI),.str p.key];let aS:List AV:=[.sl .sh (s.nodes.map aA),.str nm];gG 120 [] trivial (.no (show(p.key==[])=false from Bool.eq_false_iff.2 (by simp+zetaDelta [hk]))<|.aG (aS) (.tuple [.agg ag,.bool true]) h2<|.aG (ax) (.tuple [.str [],.bool false]) h3<|.ff<|.tt<|.fin ((.ret (.tuple [.int .i64 0,.bool false]),{boxes:=[[.sl .sh (s.nodes.map aA),.sl .sh (s.aj.map af),.sl .sh (s.aY.map aP)],[.str p.name,.str p.owner,.int .i64 p.prio,.sl .sh (p.need.map ai),.sl .sh (p.labels.map aI),.sl .sh (p.bS.map aX),.sl .sh (p.bh.map aQ),.str p.key,.int .i64 p.most,.str p.node,.bool p.hold],ag],toks:=[],loops:=[]:Heap})) rfl)
  ·have e:dV s p nm=((bW s p own:Int)+1-dr (bW s p) own (gq s p.key) ((bW s p own:Int)+1),true):=by unfold dV;rw[if_neg hk,h1]
   rw[e]
   have hc:=fun d=>N0 s p d hp (by omega) hl
   have hcl:bW s p own≤s.aj.length:=List.length_filter_le _ _
   have dl:=yp s p.key
   obtain⟨b,t,ds⟩:=RD s p.key hs hl
   have r6:=hc own
   have lo:=HN s p nd own (gq s p.key) hc ((bW s p own:Int)+1) (by omega) (by omega) (gq s p.key) 0 rfl ((bW s p own:Int)+1) (by omega) (by omega)
   generalize dr (bW s p) own (gq s p.key) ((bW s p own:Int)+1)=le at lo⊢
   generalize gq s p.key=dd at*
   generalize bW s p own=c at*
   have ad:cG .add (.int .i64 (c:Int)) (.int .i64 1)=some (.int .i64 ((c:Int)+1)):=Cx (by omega) (by omega)
   exact let ag:List AV:=[.str p.name,.str p.owner,.int .i64 p.prio,.sl .sh (p.need.map ai),.sl .sh (p.labels.map aI),.sl .sh (p.bS.map aX),.sl .sh (p.bh.map aQ),.str p.key,.int .i64 p.most,.str p.node,.bool p.hold];let ax:List AV:=[.sl .sh (s.nodes.map aA),.sl .sh (s.aj.map af),.sl .sh (s.aY.map aP)];let aS:List AV:=[.str nd.name,.sl .sh (nd.cap.map ai),.sl .sh (nd.labels.map aI),.sl .sh (nd.aV.map bu),.bool nd.br];let bt:List AV:=[.sl .sh (nd.labels.map aI),.str p.key];let bR:List AV:=[.sl .sh (s.nodes.map aA),.str nm];gG 160 [] trivial (.no (show(p.key==[])=false from Bool.eq_false_iff.2 (by simp+zetaDelta [hk]))<|.aG (bR) (.tuple [.agg aS,.bool true]) h2<|.aG (bt) (.tuple [.str own,.bool true]) h3<|.ff<|.ff<|.aG ([.agg ax,.agg ag,.str own]) (.int .i64 ↑c) r6<|.bin ad<|.bE ([.agg ax,.str p.key]) (.sl .sh (List.map .str dd)) ds ⟨rfl,rfl⟩ fe.p<|.aT rj [(3,.ptr 0 0),(4,.ptr 1 0),(10,.str own),(12,.int .i64 ((↑c:Int)+(1:Int))),(13,.int .i64 ((↑c:Int)+(1:Int))),(14,.sl .sh (List.map .str dd)),(15,.int .i64 0)] ({boxes:=[ax,ag,aS],toks:=[],loops:=[]:Heap}) (fun T hT=>(lo T hT)))
end Go.Aa.T
namespace Go.Aa.T
open Go.Aa Go.Proofs
theorem pL(l:List (List UInt8))(hl:l.length≤1000):∀(post:List (List UInt8))(i:Nat)(hd:l.drop i=post)(T:Env)(hT:Has T [(0,.sl .sh (l.map .str)),(1,.sl .sh (l.map .str)),(5,.int .i64 i)]),
 bA cfg Sj F4 T Heap.nil (aJ (.bool true)):=by
 intro post
 induction post with
 |nil=>
  intro i hd T hT
  have hge:=bf hd
  exact gG 60 _ hT (.len (lM .sh .str l)<|.no (dF ((↑i:Int)<(↑l.length:Int)))<|.fin ((.ret (.bool true),{boxes:=[],toks:=[],loops:=[]:Heap})) rfl)
 |cons x post ih=>
  intro i hd T hT
  have hlt:=bg hd
  have cq:=aL hd
  have cn:cc 1 (.sl .sh (l.map .str)) (.int .i64 (i:Nat))=some (.ref [.str x]):=bx (f:=AV.str) hd rfl
  have cQ:=ih (i+1) cq
  exact gG 90 _ hT (.len (lM .sh .str l)<|.yes (dT ((↑i:Int)<(↑l.length:Int)))<|.idx cn<|.idx cn<|.no (show(!x==x)=false from by have hh:(x==x)=true:=(by simp);simp[hh])<|.bin (iI i)<|.aT F4 [(0,.sl .sh (List.map .str l)),(1,.sl .sh (List.map .str l)),(5,.int .i64 (↑(i+1)))] ({boxes:=[],toks:=[],loops:=[]:Heap}) (fun T hT=>(cQ T hT)))
theorem Az(l:List (List UInt8))(hl:l.length≤1000):aq cfg 29 [.sl .sh (l.map .str),.sl .sh (l.map .str)] (.bool true):=by
 refine aq.run (XX _ _) ?_
 have h:=pL l hl l 0 rfl
 exact gG 60 [] trivial (.len (lM .sh .str l)<|.len (lM .sh .str l)<|.no (show((↑l.length:Int) !=(↑l.length:Int))=false from Bool.eq_false_iff.2 (by simp))<|.aT F4 [(0,.sl .sh (List.map .str l)),(1,.sl .sh (List.map .str l)),(5,.int .i64 0)] ({boxes:=[],toks:=[],loops:=[]:Heap}) (fun T hT=>(h T hT)))
def bC(n:Int):AV:=.int .i64 n
end Go.Aa.T
namespace Go.Aa.T
open Go.Aa Go.Proofs
def HO(hi x:AV):Bool:=decide (0<cmp x hi)
def HP(lo x:AV):Bool:=decide (0≤cmp x lo)
def SM(us:List AV)(lo hi:AV):Int:=if us.any (HO hi)=true then 2 else if us=[]then 1 else if us.any (HP lo)=true then 1 else 0
def pV(s:St)(nm:List UInt8)(lo hi:AV):Int:=SM (yc s nm) lo hi
theorem N5{lo hi:AV}(hh:Fl hi)(S:List AV)(y:AV)(hy:Fl y):cv cfg (.call (.c (.func 57 [.ptr 1 0])) [.c y]) ⟨[S,[lo,hi]],[],[]⟩ (.bool (HO hi y)) ⟨[S,[lo,hi]],[],[]⟩:=by
 have hc:=pE hy hh
 haveI:=hh.C
 haveI:=hy.C
 have key:bA cfg Sr [.c Tq] (ay [y,.ptr 1 0]) ⟨[S,[lo,hi]],[],[]⟩ (fun r=>r=(.ret (.bool (HO hi y)),⟨[S,[lo,hi]],[],[]⟩)):=by
  unfold HO
  generalize cmp y hi=q at hc⊢
  exact gG 60 [] trivial (.bE ([y,hi]) (.int .i64 q) hc cA.p ⟨rfl,rfl⟩<|.fin ((.ret (.bool (decide ((0:Int)<q))),{boxes:=[S,[lo,hi]],toks:=[],loops:=[]:Heap})) rfl)
 obtain⟨r,h,rfl⟩:=key
 have h2:lim cfg (.fn 57) ([y]++[.ptr 1 0]) ⟨[S,[lo,hi]],[],[]⟩=some (.ret (.bool (HO hi y)),⟨[S,[lo,hi]],[],[]⟩):=by
  rw[Yb];exact h
 have h3:=bU h2 (by show [bz y]=[y];rw[hy.shut]) (Bool.and_false _)
 rwa [show bz (.bool (HO hi y))=.bool (HO hi y)from rfl,dc]at h3
theorem N6{lo hi:AV}(hh:Fl lo)(S:List AV)(y:AV)(hy:Fl y):cv cfg (.call (.c (.func 58 [.ptr 1 0])) [.c y]) ⟨[S,[lo,hi]],[],[]⟩ (.bool (HP lo y)) ⟨[S,[lo,hi]],[],[]⟩:=by
 have hc:=pE hy hh
 haveI:=hh.C
 haveI:=hy.C
 have key:bA cfg Ss [.c Tr] (ay [y,.ptr 1 0]) ⟨[S,[lo,hi]],[],[]⟩ (fun r=>r=(.ret (.bool (HP lo y)),⟨[S,[lo,hi]],[],[]⟩)):=by
  unfold HP
  generalize cmp y lo=q at hc⊢
  exact gG 60 [] trivial (.bE ([y,lo]) (.int .i64 q) hc cA.p ⟨rfl,rfl⟩<|.fin ((.ret (.bool (decide ((0:Int)≤q))),{boxes:=[S,[lo,hi]],toks:=[],loops:=[]:Heap})) rfl)
 obtain⟨r,h,rfl⟩:=key
 have h2:lim cfg (.fn 58) ([y]++[.ptr 1 0]) ⟨[S,[lo,hi]],[],[]⟩=some (.ret (.bool (HP lo y)),⟨[S,[lo,hi]],[],[]⟩):=by
  rw[Yc];exact h
 have h3:=bU h2 (by show [bz y]=[y];rw[hy.shut]) (Bool.and_false _)
 rwa [show bz (.bool (HP lo y))=.bool (HP lo y)from rfl,dc]at h3
theorem vB(s:St)(hs:jm s)(hc:∀n∈s.nodes,n.cap.length≤1000)(nm:List UInt8){lo hi:AV}(hl:Fl lo)(hh:Fl hi):aq cfg 18 [aB s,.str nm,.agg [lo,hi]] (.int .i64 (pV s nm lo hi)):=by
 refine aq.run (XQ _ _) ?_
 have h1:=J9 s hs hc nm
 have fl:=HF s nm
 have hn:=BH hs nm
 unfold pV
 generalize yc s nm=us at h1 fl hn⊢
 have d1:=Ls (N5 (lo:=lo) hh (aB s).cells) us fl hn
 have d2:=Ls (N6 (hi:=hi) hl (aB s).cells) us fl hn
 have h1:aq cfg 55 [aB s,.str nm] (cB id us):=h1
 have e:us.map id=us:=List.map_id us
 have h1':∃k,aq cfg 55 [aB s,.str nm] (.sl k us)∧bz (.sl k us)=.sl .sh us:=by
  refine⟨dS us,?_,by cases us<;>rfl⟩
  unfold cB at h1
  rwa [e]at h1
 obtain⟨k,h2,h3⟩:=h1'
 haveI:fe (.sl k us) (.sl .sh us):=⟨h3,rfl⟩
 unfold SM
 by_cases a:us.any (HO hi)=true
 ·rw[if_pos a]
  rw[a]at d1
  exact let ag:List AV:=[.sl .sh (s.nodes.map aA),.sl .sh (s.aj.map af),.sl .sh (s.aY.map aP)];let ax:Heap:={boxes:=[(aB s).cells,[lo,hi]],toks:=[],loops:=[]:Heap};gG 60 [] trivial (.bE ([.agg ag,.str nm]) (.sl .sh us) h2 ⟨rfl,rfl⟩ fe.p<|.cw d1<|.tt<|.fin ((.ret (.int .i64 2),{boxes:=[ag,[lo,hi]],toks:=[],loops:=[]:Heap})) rfl)
 ·rw[if_neg a]
  rw[Bool.not_eq_true]at a
  rw[a]at d1
  by_cases b:us=[]
  ·rw[if_pos b]
   have b':us.length=0:=by rw[b];rfl
   exact let ag:List AV:=[.sl .sh (s.nodes.map aA),.sl .sh (s.aj.map af),.sl .sh (s.aY.map aP)];let ax:Heap:={boxes:=[(aB s).cells,[lo,hi]],toks:=[],loops:=[]:Heap};gG 60 [] trivial (.bE ([.agg ag,.str nm]) (.sl .sh us) h2 ⟨rfl,rfl⟩ fe.p<|.cw d1<|.ff<|.len (show dA false (.sl .sh us)=some (.int .i64 (↑us.length))from gH _ _)<|.yes (show((↑us.length:Int)==(0:Int))=true from(by simp+zetaDelta [b']))<|.tt<|.fin ((.ret (.int .i64 1),{boxes:=[ag,[lo,hi]],toks:=[],loops:=[]:Heap})) rfl)
  ·rw[if_neg b]
   have b':¬us.length=0:=by simpa using b
   by_cases g:us.any (HP lo)=true
   ·rw[if_pos g]
    rw[g]at d2
    exact let ag:Heap:={boxes:=[(aB s).cells,[lo,hi]],toks:=[],loops:=[]:Heap};let ax:List AV:=[.sl .sh (s.nodes.map aA),.sl .sh (s.aj.map af),.sl .sh (s.aY.map aP)];gG 60 [] trivial (.bE ([.agg ax,.str nm]) (.sl .sh us) h2 ⟨rfl,rfl⟩ fe.p<|.cw d1<|.ff<|.len (show dA false (.sl .sh us)=some (.int .i64 (↑us.length))from gH _ _)<|.no (show((↑us.length:Int)==(0:Int))=false from Bool.eq_false_iff.2 (by simp+zetaDelta [b']))<|.cw d2<|.tt<|.fin ((.ret (.int .i64 1),{boxes:=[ax,[lo,hi]],toks:=[],loops:=[]:Heap})) rfl)
   ·rw[if_neg g]
    rw[Bool.not_eq_true]at g
    rw[g]at d2
    exact let ag:Heap:={boxes:=[(aB s).cells,[lo,hi]],toks:=[],loops:=[]:Heap};let ax:List AV:=[.sl .sh (s.nodes.map aA),.sl .sh (s.aj.map af),.sl .sh (s.aY.map aP)];gG 60 [] trivial (.bE ([.agg ax,.str nm]) (.sl .sh us) h2 ⟨rfl,rfl⟩ fe.p<|.cw d1<|.ff<|.len (show dA false (.sl .sh us)=some (.int .i64 (↑us.length))from gH _ _)<|.no (show((↑us.length:Int)==(0:Int))=false from Bool.eq_false_iff.2 (by simp+zetaDelta [b']))<|.cw d2<|.ff<|.fin ((.ret (.int .i64 0),{boxes:=[ax,[lo,hi]],toks:=[],loops:=[]:Heap})) rfl)
def Lv(lo hi:AV):Bool→List AV→Int
 |u,[]=>if u=true then 0 else 1
 |u,x::l=>if 0<cmp x hi then 2 else Lv lo hi (u&&decide (cmp x lo<0)) l
theorem HQ(lo hi:AV):∀(us:List AV)(u:Bool),Lv lo hi u us=if us.any (HO hi)=true then 2 else if(u&& !us.any (HP lo))=true then 0 else 1
 |[],u=>by simp[Lv]
 |x::l,u=>by
  rw[Lv,HQ lo hi l]
  simp only[List.any_cons,HO,HP]
  by_cases a:0<cmp x hi
  ·simp[a]
  ·by_cases b:cmp x lo<0
   ·have:¬0≤cmp x lo:=by omega
    simp[a,b,this]
   ·have:0≤cmp x lo:=by omega
    simp[a,b,this]
theorem Kh(us:List AV)(lo hi:AV):Lv lo hi (decide (0<us.length)) us=SM us lo hi:=by
 rw[HQ]
 unfold SM
 by_cases a:us.any (HO hi)=true
 ·rw[if_pos a,if_pos a]
 ·rw[if_neg a,if_neg a]
  by_cases b:us=[]
  ·subst b;rfl
  ·have:decide (0<us.length)=true:=decide_eq_true (by have:=List.length_pos_iff.2 b;omega)
   rw[if_neg b,this]
   cases us.any (HP lo)<;>rfl
theorem HR(S:List AV){lo hi:AV}(hl:Fl lo)(hh:Fl hi)(us:List AV)(fl:DT us)(hn:us.length<9223372036854775807):∀(post:List AV)(i:Nat)(hd:us.drop i=post)(u:Bool)(T:Env)
 (hT:Has T [(5,.ptr 1 0),(7,.sl .sh us),(8,.bool u),(9,.int .i64 i)]),
 bA cfg Si A8 T ⟨[S,[lo,hi]],[],[]⟩ (aJ (.int .i64 (Lv lo hi u post))):=by
 haveI:=hl.C
 haveI:=hh.C
 intro post
 induction post with
 |nil=>
  intro i hd u T hT
  have hge:=bf hd
  unfold Lv
  cases u with
  |true=>
   exact gG 60 _ hT (.len (show dA false (.sl .sh us)=some (.int .i64 (↑us.length))from gH _ _)<|.no (dF ((↑i:Int)<(↑us.length:Int)))<|.tt<|.fin ((.ret (.int .i64 0),{boxes:=[S,[lo,hi]],toks:=[],loops:=[]:Heap})) rfl)
  |false=>
   exact gG 60 _ hT (.len (show dA false (.sl .sh us)=some (.int .i64 (↑us.length))from gH _ _)<|.no (dF ((↑i:Int)<(↑us.length:Int)))<|.ff<|.fin ((.ret (.int .i64 1),{boxes:=[S,[lo,hi]],toks:=[],loops:=[]:Heap})) rfl)
 |cons x post ih=>
  intro i hd u T hT
  have hlt:=bg hd
  have cq:=aL hd
  have fx:=BE fl hd
  haveI:=fx.C
  have cn:cc 1 (.sl .sh us) (.int .i64 (i:Int))=some (.ref [x]):=Ru hd fx
  have c1:=nS fx hh
  have c2:=nS fx hl
  have cQ:=fun v=>ih (i+1) cq v
  unfold Lv
  generalize cmp x hi=q1 at c1⊢
  generalize cmp x lo=q2 at c2⊢
  by_cases a:0<q1
  ·rw[if_pos a]
   exact gG 90 _ hT (.len (show dA false (.sl .sh us)=some (.int .i64 (↑us.length))from gH _ _)<|.yes (dT ((↑i:Int)<(↑us.length:Int)))<|.idx cn<|.bE ([x,hi]) (.int .i64 q1) c1 cA.p ⟨rfl,rfl⟩<|.yes (dT ((0:Int)<q1))<|.fin ((.ret (.int .i64 2),{boxes:=[S,[lo,hi]],toks:=[],loops:=[]:Heap})) rfl)
  ·rw[if_neg a]
   cases u with
   |true=>
    rw[Bool.true_and]
    exact gG 90 _ hT (.len (show dA false (.sl .sh us)=some (.int .i64 (↑us.length))from gH _ _)<|.yes (dT ((↑i:Int)<(↑us.length:Int)))<|.idx cn<|.bE ([x,hi]) (.int .i64 q1) c1 cA.p ⟨rfl,rfl⟩<|.no (dF ((0:Int)<q1))<|.tt<|.idx cn<|.bE ([x,lo]) (.int .i64 q2) c2 cA.p ⟨rfl,rfl⟩<|.bin (iI i)<|.aT A8 [(5,.ptr 1 0),(7,.sl .sh us),(8,.bool (decide (q2<(0:Int)))),(9,.int .i64 (↑(i+1)))] ({boxes:=[S,[lo,hi]],toks:=[],loops:=[]:Heap}) (fun T hT=>(cQ (decide (q2<(0:Int))) T hT)))
   |false=>
    rw[Bool.false_and]
    exact gG 90 _ hT (.len (show dA false (.sl .sh us)=some (.int .i64 (↑us.length))from gH _ _)<|.yes (dT ((↑i:Int)<(↑us.length:Int)))<|.idx cn<|.bE ([x,hi]) (.int .i64 q1) c1 cA.p ⟨rfl,rfl⟩<|.no (dF ((0:Int)<q1))<|.ff<|.bin (iI i)<|.aT A8 [(5,.ptr 1 0),(7,.sl .sh us),(8,.bool false),(9,.int .i64 (↑(i+1)))] ({boxes:=[S,[lo,hi]],toks:=[],loops:=[]:Heap}) (fun T hT=>(cQ (false) T hT)))
theorem HS(s:St)(hs:jm s)(hu:∀n,dG s n=cU s n)(hc:∀n∈s.nodes,n.cap.length≤1000)(nm:List UInt8){lo hi:AV}(hl:Fl lo)(hh:Fl hi):aq cfg 19 [aB s,.str nm,.agg [lo,hi]] (.int .i64 (pV s nm lo hi)):=by
 refine aq.run (XR _ _) ?_
 have h1:=J' s hs hu hc nm
 have fl:=HF s nm
 have hn:=BH hs nm
 unfold pV
 generalize yc s nm=us at h1 fl hn⊢
 have e:us.map id=us:=List.map_id us
 have h1':∃k,aq cfg 59 [aB s,.str nm] (.sl k us)∧bz (.sl k us)=.sl .sh us:=by
  refine⟨dS us,?_,by cases us<;>rfl⟩
  unfold cB at h1
  rwa [e]at h1
 obtain⟨k,h2,h3⟩:=h1'
 haveI:fe (.sl k us) (.sl .sh us):=⟨h3,rfl⟩
 have h:=HR (aB s).cells hl hh us fl hn us 0 rfl (decide (0<us.length))
 rw[Kh,show decide (0<us.length)=decide ((0:Int)<(us.length:Int))from decide_eq_decide.2 (by omega)]at h
 exact let ag:List AV:=[.sl .sh (s.nodes.map aA),.sl .sh (s.aj.map af),.sl .sh (s.aY.map aP)];gG 60 [] trivial (.bE ([.agg ag,.str nm]) (.sl .sh us) h2 ⟨rfl,rfl⟩ fe.p<|.len (show dA false (.sl .sh us)=some (.int .i64 (↑us.length))from gH _ _)<|.aT A8 [(5,.ptr 1 0),(7,.sl .sh us),(8,.bool (decide ((0:Int)<(↑us.length:Int)))),(9,.int .i64 0)] ({boxes:=[ag,[lo,hi]],toks:=[],loops:=[]:Heap}) (fun T hT=>(h T hT)))
theorem RH{lo hi:AV}(hl:Fl lo)(hh:Fl hi)(H:Heap):cv cfg (.build [.bQ 0,.bQ 0] [(0,1,.c lo),(1,1,.c hi)]) H (.agg [lo,hi]) H:=fun T=>by
 cases hl<;>cases hh<;>rfl
theorem YO{lo hi:AV}(hl:Fl lo)(hh:Fl hi)(S:List AV):cv cfg (.store 2 (.c (.ptr 1 0)) (.c (.agg [lo,hi]))) ⟨[S,[.bQ 0,.bQ 0]],[],[]⟩ .undef ⟨[S,[lo,hi]],[],[]⟩:=fun T=>by
 cases hl<;>cases hh<;>rfl
theorem HT{lo hi:AV}(hl:Fl lo)(hh:Fl hi):aq cfg 20 [.agg [lo,hi]] (.agg [lo,hi]):=by
 refine aq.run (XS _ _) ?_
 have b:=RH hl hh
 have st:=YO hl hh [lo,hi]
 haveI:=hl.C
 haveI:=hh.C
 exact let ag:Heap:={boxes:=[[lo,hi],[AV.bQ 0,AV.bQ 0]],toks:=[],loops:=[]:Heap};let ax:Heap:={boxes:=[[lo,hi],[lo,hi]],toks:=[],loops:=[]:Heap};gG 60 [] trivial (.cw (show cv cfg (.build [AV.bQ 0,AV.bQ 0] [(0,1,.c lo),(1,1,.c hi)]) ag (.agg [lo,hi]) ag from b _)<|.cw st<|.fin ((.ret (.agg [lo,hi]),ax)) rfl)
end Go.Aa.T
namespace Go.Aa.T
open Go.Aa Go.Proofs
theorem Vy{s:St}(fs:Dh s):∀n∈s.nodes,n.cap.length≤1000:=fun n hn=>by have:=(tL (fs.node n hn)).cap;omega
end Go.Aa.T
namespace Go.Aa.T
open Go.Aa Go.Proofs
theorem RI{b:Nat}(h:(Lit.float .f64 b).wf=true):Fl (Go.Aa.lD b):=by
 unfold Go.Aa.lD
 split
 ·exact .nan
 ·rename_i hn
  exact .bQ b (by simpa[NN]using hn) (by simpa[Lit.wf]using h)
theorem RJ{k:Nat}{x:AV}(hx:mY Tryz.prog (k+1) 27 x):Fl x:=by
 obtain⟨b,rfl,hw⟩:=CF Tryz.underlying27 hx
 exact RI hw
end Go.Aa.T
namespace Go.Aa.T
open Go.Aa Go.Proofs
def vC(l:List (List UInt8))(s:List UInt8):Bool:=l.any fun x=>x==s
theorem HU(l:List (List UInt8))(s:List UInt8)(hn:l.length<9223372036854775807):∀(post:List (List UInt8))(i:Nat)(hd:l.drop i=post)(T:Env)
 (hT:Has T [(0,.sl .sh (l.map .str)),(1,.str s),(7,.int .i64 l.length),(8,.int .i64 i)]),
 bA cfg I7 zS T Heap.nil (aJ (.int .i64 (bF (fun x=>x==s) post i))):=by
 intro post
 induction post with
 |nil=>
  intro i hd T hT
  have hge:=bf hd
  exact gG 60 _ hT (.no (dF ((↑i:Int)<(↑l.length:Int)))<|.fin ((.ret (.int .i64 (-1:Int)),{boxes:=[],toks:=[],loops:=[]:Heap})) rfl)
 |cons x post ih=>
  intro i hd T hT
  have hlt:=bg hd
  have cq:=aL hd
  by_cases h:s=x
  ·have e:bF (fun x=>x==s) (x::post) i=i:=by simp[bF,h]
   rw[e]
   exact gG 60 _ hT (.yes (dT ((↑i:Int)<(↑l.length:Int)))<|.idx (show cc 1 (.sl .sh (List.map .str l)) (.int .i64 ↑i)=some (.ref (AV.str x).cells)from bx hd (by rfl))<|.yes (show(s==x)=true from(by simpa using h))<|.fin ((.ret (.int .i64 ↑i),{boxes:=[],toks:=[],loops:=[]:Heap})) rfl)
  ·have h':¬x=s:=fun e=>h e.symm
   have e:bF (fun x=>x==s) (x::post) i=bF (fun x=>x==s) post (i+1):=by simp[bF,h']
   rw[e]
   exact gG 60 _ hT (.yes (dT ((↑i:Int)<(↑l.length:Int)))<|.idx (show cc 1 (.sl .sh (List.map .str l)) (.int .i64 ↑i)=some (.ref (AV.str x).cells)from bx hd (by rfl))<|.no (show(s==x)=false from Bool.eq_false_iff.2 (by simpa using h))<|.bin (iI i)<|.aT zS [(0,.sl .sh (List.map .str l)),(1,.str s),(7,.int .i64 (↑l.length)),(8,.int .i64 (↑(i+1)))] ({boxes:=[],toks:=[],loops:=[]:Heap}) (fun T hT=>(ih (i+1) cq T hT)))
theorem Kj(l:List (List UInt8))(s:List UInt8)(hn:l.length<9223372036854775807):aq cfg 139 [.sl .sh (l.map .str),.str s] (.bool (vC l s)):=by
 refine aq.run (T4 _ _) ?_
 have h0:aq cfg 216 [.sl .sh (l.map .str),.str s] (.int .i64 (bF (fun x=>x==s) l 0)):=by
  refine aq.run (UE _ _) ?_
  have h:=HU l s hn l 0 rfl
  exact gG 60 [] trivial (.len (lM .sh .str l)<|.aT zS [(0,.sl .sh (List.map .str l)),(1,.str s),(7,.int .i64 (↑l.length)),(8,.int .i64 0)] ({boxes:=[],toks:=[],loops:=[]:Heap}) (fun T hT=>(h T hT)))
 have hf:decide (0≤bF (fun x=>x==s) l 0)=vC l s:=gV _ l 0
 rw[←hf]
 generalize bF (fun x=>x==s) l 0=c at h0⊢
 exact let ag:List AV:=[.sl .sh (List.map .str l),.str s];gG 60 [] trivial (.aG (ag) (.int .i64 c) h0<|.fin ((.ret (.bool (decide ((0:Int)≤c))),{boxes:=[],toks:=[],loops:=[]:Heap})) rfl)
theorem Kk(l:List (List UInt8))(s:List UInt8)(hn:l.length<9223372036854775807):∀(post:List (List UInt8))(i:Nat)(hd:l.drop i=post)(T:Env)
 (hT:Has T [(0,.sl .sh (l.map .str)),(1,.str s),(5,.int .i64 i)]),
 bA cfg a75 Gf T Heap.nil (aJ (.bool (vC post s))):=by
 intro post
 induction post with
 |nil=>
  intro i hd T hT
  have hge:=bf hd
  exact gG 60 _ hT (.len (lM .sh .str l)<|.no (dF ((↑i:Int)<(↑l.length:Int)))<|.fin ((.ret (.bool false),{boxes:=[],toks:=[],loops:=[]:Heap})) rfl)
 |cons x post ih=>
  intro i hd T hT
  have hlt:=bg hd
  have cq:=aL hd
  have cn:cc 1 (.sl .sh (l.map .str)) (.int .i64 (i:Nat))=some (.ref [.str x]):=bx (f:=AV.str) hd rfl
  by_cases h:x=s
  ·have e:vC (x::post) s=true:=by simp[vC,h]
   rw[e]
   exact gG 60 _ hT (.len (lM .sh .str l)<|.yes (dT ((↑i:Int)<(↑l.length:Int)))<|.idx cn<|.yes (show(x==s)=true from(by simpa using h))<|.fin ((.ret (.bool true),{boxes:=[],toks:=[],loops:=[]:Heap})) rfl)
  ·have e:vC (x::post) s=vC post s:=by simp[vC,h]
   rw[e]
   exact gG 60 _ hT (.len (lM .sh .str l)<|.yes (dT ((↑i:Int)<(↑l.length:Int)))<|.idx cn<|.no (show(x==s)=false from Bool.eq_false_iff.2 (by simpa using h))<|.bin (iI i)<|.aT Gf [(0,.sl .sh (List.map .str l)),(1,.str s),(5,.int .i64 (↑(i+1)))] ({boxes:=[],toks:=[],loops:=[]:Heap}) (fun T hT=>(ih (i+1) cq T hT)))
theorem HV(l:List (List UInt8))(s:List UInt8)(hn:l.length<9223372036854775807):aq cfg 75 [.sl .sh (l.map .str),.str s] (.bool (vC l s)):=by
 refine aq.run (Yn _ _) ?_
 have h:=Kk l s hn l 0 rfl
 exact gG 60 [] trivial (.aT Gf [(0,.sl .sh (List.map .str l)),(1,.str s),(5,.int .i64 0)] ({boxes:=[],toks:=[],loops:=[]:Heap}) (fun T hT=>(h T hT)))
def jh(s:St)(p:cT):Bool:= !(p.node==[]||p.key==[])&&(!(dV s p p.node).2||decide (p.most<(dV s p p.node).1))
def iK(s:St)(l:List cT):List (List UInt8):=(l.filter (jh s)).map cT.name
def jW(s:St):List (List UInt8):=iK s s.aj
theorem yq(s:St):(jW s).length≤s.aj.length:=by
 unfold jW iK
 rw[List.length_map];exact List.length_filter_le _ _
theorem pW{s:St}{p:cT}{l:List cT}(h:jh s p=true):iK s (p::l)=p.name::iK s l:=by simp[iK,List.filter_cons,h]
theorem oL{s:St}{p:cT}{l:List cT}(h:jh s p=false):iK s (p::l)=iK s l:=by simp[iK,List.filter_cons,h]
theorem Kl{acc:List (List UInt8)}(x:List UInt8)(hn:acc.length≤100000)(bs:List (List AV))(ls:List jk):
 bw 1 16 ⟨bs,bY .str acc,ls⟩ (cB .str acc) (.sl .full [.str x])=some (cB .str (acc++[x]),⟨bs,bY .str (acc++[x]),ls⟩):=
 gp AV.str (x:=x) (by simp;omega) (dY fun _=>rfl) rfl rfl
theorem HW(s:St)(hp:s.aj.length≤1000)(hs:s.nodes.length≤1000)(hl:∀n∈s.nodes,n.labels.length<9223372036854775807):
 ∀(post:List cT)(i:Nat)(hd:s.aj.drop i=post)(acc:List (List UInt8))(ha:acc.length≤i)(ex:List (List AV))(T:Env)
 (hT:Has T [(1,.ptr 0 0),(3,cB .str acc),(9,.sl .sh (s.aj.map af)),(10,.int .i64 s.aj.length),(11,.int .i64 i)]),
 bA cfg IU mQ T ⟨(aB s).cells::ex,bY .str acc,[]⟩ (aJ (cB .str (acc++iK s post))):=by
 intro post
 induction post with
 |nil=>
  intro i hd acc ha ex T hT
  have hge:=bf hd
  rw[show acc++iK s []=acc by simp[iK]]
  exact gG 60 _ hT (.no (dF ((↑i:Int)<(↑s.aj.length:Int)))<|.fin ((.ret (.sl (dS acc) (List.map .str acc)),{boxes:=[.sl .sh (s.nodes.map aA),.sl .sh (s.aj.map af),.sl .sh (s.aY.map aP)]::ex,toks:=bY .str acc,loops:=[]:Heap})) rfl)
 |cons x post ih=>
  intro i hd acc ha ex T hT
  have hlt:=bg hd
  have cq:=aL hd
  have cn:cc 11 (.sl .sh (s.aj.map af)) (.int .i64 (i:Nat))=some (.ref (af x).cells):=bx (f:=af) hd rfl
  have hk:=HM s x x.node hp hs hl
  have ap:=Kl (acc:=acc) x.name (by omega)
  have no:=fun(h:jh s x=false)=>ih (i+1) cq acc (by omega) (ex++[(af x).cells])
  have yes:=ih (i+1) cq (acc++[x.name]) (by simp;omega) (ex++[(af x).cells])
  by_cases h1:x.node=[]
  ·have e:jh s x=false:=by simp[jh,h1]
   rw[oL e]
   have n1:=no e
   exact let ag:List AV:=[.str x.name,.str x.owner,.int .i64 x.prio,.sl .sh (x.need.map ai),.sl .sh (x.labels.map aI),.sl .sh (x.bS.map aX),.sl .sh (x.bh.map aQ),.str x.key,.int .i64 x.most,.str x.node,.bool x.hold];let ax:List AV:=[.sl .sh (s.nodes.map aA),.sl .sh (s.aj.map af),.sl .sh (s.aY.map aP)];let aS:List AV:=[.str [],.str [],.int .i64 0,.sl .full [],.sl .full [],.sl .full [],.sl .full [],.str [],.int .i64 0,.str [],.bool false];let bt:Heap:={boxes:=ax::(ex++[ag]),toks:=bY .str acc,loops:=[]:Heap};gG 120 _ hT (.yes (dT ((↑i:Int)<(↑s.aj.length:Int)))<|.idx cn<|.load (rfl:ak true 11 {boxes:=ax::ex,toks:=bY .str acc,loops:=[]:Heap} (.ref ag)=some (.agg ag))<|.store (show aW 11 {boxes:=ax::(ex++[aS]),toks:=bY .str acc,loops:=[]:Heap} (.ptr (ax::ex).length 0) (.agg ag)=some (bt)from aC (cs:=aS) (cs':=ag) (by simp+zetaDelta) rfl (by simp+zetaDelta [List.set_append]))<|.load (show ak false 1 bt (.ptr (ax::ex).length 9)=some (.str x.node)from ah (cs:=ag) (by simp+zetaDelta) rfl)<|.yes (show(x.node==[])=true from(by simpa using h1))<|.tt<|.bin (iI i)<|.aT mQ [(1,.ptr 0 0),(3,.sl (dS acc) (List.map .str acc)),(9,.sl .sh (s.aj.map af)),(10,.int .i64 (↑s.aj.length)),(11,.int .i64 (↑(i+1)))] (bt) (fun T hT=>(n1 T hT)))
  ·by_cases h2:x.key=[]
   ·have e:jh s x=false:=by simp[jh,h2]
    rw[oL e]
    have n1:=no e
    exact let ag:List AV:=[.str x.name,.str x.owner,.int .i64 x.prio,.sl .sh (x.need.map ai),.sl .sh (x.labels.map aI),.sl .sh (x.bS.map aX),.sl .sh (x.bh.map aQ),.str x.key,.int .i64 x.most,.str x.node,.bool x.hold];let ax:List AV:=[.sl .sh (s.nodes.map aA),.sl .sh (s.aj.map af),.sl .sh (s.aY.map aP)];let aS:Heap:={boxes:=ax::(ex++[ag]),toks:=bY .str acc,loops:=[]:Heap};let bt:List AV:=[.str [],.str [],.int .i64 0,.sl .full [],.sl .full [],.sl .full [],.sl .full [],.str [],.int .i64 0,.str [],.bool false];gG 120 _ hT (.yes (dT ((↑i:Int)<(↑s.aj.length:Int)))<|.idx cn<|.load (rfl:ak true 11 {boxes:=ax::ex,toks:=bY .str acc,loops:=[]:Heap} (.ref ag)=some (.agg ag))<|.store (show aW 11 {boxes:=ax::(ex++[bt]),toks:=bY .str acc,loops:=[]:Heap} (.ptr (ax::ex).length 0) (.agg ag)=some (aS)from aC (cs:=bt) (cs':=ag) (by simp+zetaDelta) rfl (by simp+zetaDelta [List.set_append]))<|.load (show ak false 1 aS (.ptr (ax::ex).length 9)=some (.str x.node)from ah (cs:=ag) (by simp+zetaDelta) rfl)<|.no (show(x.node==[])=false from Bool.eq_false_iff.2 (by simpa using h1))<|.load (show ak false 1 aS (.ptr (ax::ex).length 7)=some (.str x.key)from ah (cs:=ag) (by simp+zetaDelta) rfl)<|.yes (show(x.key==[])=true from(by simpa using h2))<|.bin (iI i)<|.aT mQ [(1,.ptr 0 0),(3,.sl (dS acc) (List.map .str acc)),(9,.sl .sh (s.aj.map af)),(10,.int .i64 (↑s.aj.length)),(11,.int .i64 (↑(i+1)))] (aS) (fun T hT=>(n1 T hT)))
   ·have e:jh s x=(!(dV s x x.node).2||decide (x.most<(dV s x x.node).1)):=by simp[jh,h1,h2]
    generalize dV s x x.node=z at hk e
    obtain⟨k,ok⟩:=z
    simp only at hk e
    cases ok with
    |false=>
     have e':jh s x=true:=by rw[e];rfl
     rw[pW e',show acc++x.name::iK s post=(acc++[x.name])++iK s post by simp]
     exact let ag:List AV:=[.str x.name,.str x.owner,.int .i64 x.prio,.sl .sh (x.need.map ai),.sl .sh (x.labels.map aI),.sl .sh (x.bS.map aX),.sl .sh (x.bh.map aQ),.str x.key,.int .i64 x.most,.str x.node,.bool x.hold];let ax:List AV:=[.sl .sh (s.nodes.map aA),.sl .sh (s.aj.map af),.sl .sh (s.aY.map aP)];let aS:Heap:={boxes:=ax::(ex++[ag]),toks:=bY .str acc,loops:=[]:Heap};let bt:List AV:=[.str [],.str [],.int .i64 0,.sl .full [],.sl .full [],.sl .full [],.sl .full [],.str [],.int .i64 0,.str [],.bool false];let bR:Heap:={boxes:=ax::(ex++[ag]),toks:=bY .str (acc++[x.name]),loops:=[]:Heap};gG 160 _ hT (.yes (dT ((↑i:Int)<(↑s.aj.length:Int)))<|.idx cn<|.load (rfl:ak true 11 {boxes:=ax::ex,toks:=bY .str acc,loops:=[]:Heap} (.ref ag)=some (.agg ag))<|.store (show aW 11 {boxes:=ax::(ex++[bt]),toks:=bY .str acc,loops:=[]:Heap} (.ptr (ax::ex).length 0) (.agg ag)=some (aS)from aC (cs:=bt) (cs':=ag) (by simp+zetaDelta) rfl (by simp+zetaDelta [List.set_append]))<|.load (show ak false 1 aS (.ptr (ax::ex).length 9)=some (.str x.node)from ah (cs:=ag) (by simp+zetaDelta) rfl)<|.no (show(x.node==[])=false from Bool.eq_false_iff.2 (by simpa using h1))<|.load (show ak false 1 aS (.ptr (ax::ex).length 7)=some (.str x.key)from ah (cs:=ag) (by simp+zetaDelta) rfl)<|.no (show(x.key==[])=false from Bool.eq_false_iff.2 (by simpa using h2))<|.load (lB true 3 aS 0 0 (.agg ax) ax)<|.load (show ak true 11 aS (.ptr (ax::ex).length 0)=some (.agg ag)from ah (cs:=ag) (by simp+zetaDelta) rfl)<|.load (show ak false 1 aS (.ptr (ax::ex).length 9)=some (.str x.node)from ah (cs:=ag) (by simp+zetaDelta) rfl)<|.aG ([.agg ax,.agg ag,.str x.node]) (.tuple [.int .i64 k,.bool false]) hk<|.tt<|.tt<|.load (show ak false 1 aS (.ptr (ax::ex).length 0)=some (.str x.name)from ah (cs:=ag) (by simp+zetaDelta) rfl)<|.append (show bw 1 16 aS (.sl (dS acc) (List.map .str acc)) (.sl .full [.str x.name])=some ((cB .str (acc++[x.name]),bR))from ap _ _)<|.bin (iI i)<|.aT mQ [(1,.ptr 0 0),(3,.sl (dS (acc++[x.name])) (List.map .str (acc++[x.name]))),(9,.sl .sh (s.aj.map af)),(10,.int .i64 (↑s.aj.length)),(11,.int .i64 (↑(i+1)))] (bR) (fun T hT=>(yes T hT)))
    |true=>
     by_cases h3:x.most<k
     ·have e':jh s x=true:=by rw[e];simp[h3]
      rw[pW e',show acc++x.name::iK s post=(acc++[x.name])++iK s post by simp]
      exact let ag:List AV:=[.str x.name,.str x.owner,.int .i64 x.prio,.sl .sh (x.need.map ai),.sl .sh (x.labels.map aI),.sl .sh (x.bS.map aX),.sl .sh (x.bh.map aQ),.str x.key,.int .i64 x.most,.str x.node,.bool x.hold];let ax:List AV:=[.sl .sh (s.nodes.map aA),.sl .sh (s.aj.map af),.sl .sh (s.aY.map aP)];let aS:Heap:={boxes:=ax::(ex++[ag]),toks:=bY .str acc,loops:=[]:Heap};let bt:List AV:=[.str [],.str [],.int .i64 0,.sl .full [],.sl .full [],.sl .full [],.sl .full [],.str [],.int .i64 0,.str [],.bool false];let bR:Heap:={boxes:=ax::(ex++[ag]),toks:=bY .str (acc++[x.name]),loops:=[]:Heap};gG 160 _ hT (.yes (dT ((↑i:Int)<(↑s.aj.length:Int)))<|.idx cn<|.load (rfl:ak true 11 {boxes:=ax::ex,toks:=bY .str acc,loops:=[]:Heap} (.ref ag)=some (.agg ag))<|.store (show aW 11 {boxes:=ax::(ex++[bt]),toks:=bY .str acc,loops:=[]:Heap} (.ptr (ax::ex).length 0) (.agg ag)=some (aS)from aC (cs:=bt) (cs':=ag) (by simp+zetaDelta) rfl (by simp+zetaDelta [List.set_append]))<|.load (show ak false 1 aS (.ptr (ax::ex).length 9)=some (.str x.node)from ah (cs:=ag) (by simp+zetaDelta) rfl)<|.no (show(x.node==[])=false from Bool.eq_false_iff.2 (by simpa using h1))<|.load (show ak false 1 aS (.ptr (ax::ex).length 7)=some (.str x.key)from ah (cs:=ag) (by simp+zetaDelta) rfl)<|.no (show(x.key==[])=false from Bool.eq_false_iff.2 (by simpa using h2))<|.load (lB true 3 aS 0 0 (.agg ax) ax)<|.load (show ak true 11 aS (.ptr (ax::ex).length 0)=some (.agg ag)from ah (cs:=ag) (by simp+zetaDelta) rfl)<|.load (show ak false 1 aS (.ptr (ax::ex).length 9)=some (.str x.node)from ah (cs:=ag) (by simp+zetaDelta) rfl)<|.aG ([.agg ax,.agg ag,.str x.node]) (.tuple [.int .i64 k,.bool true]) hk<|.ff<|.load (show ak false 1 aS (.ptr (ax::ex).length 8)=some (.int .i64 x.most)from ah (cs:=ag) (by simp+zetaDelta) rfl)<|.yes (dT (x.most<k))<|.load (show ak false 1 aS (.ptr (ax::ex).length 0)=some (.str x.name)from ah (cs:=ag) (by simp+zetaDelta) rfl)<|.append (show bw 1 16 aS (.sl (dS acc) (List.map .str acc)) (.sl .full [.str x.name])=some ((cB .str (acc++[x.name]),bR))from ap _ _)<|.bin (iI i)<|.aT mQ [(1,.ptr 0 0),(3,.sl (dS (acc++[x.name])) (List.map .str (acc++[x.name]))),(9,.sl .sh (s.aj.map af)),(10,.int .i64 (↑s.aj.length)),(11,.int .i64 (↑(i+1)))] (bR) (fun T hT=>(yes T hT)))
     ·have e':jh s x=false:=by rw[e];simp[h3]
      rw[oL e']
      have n1:=no e'
      exact let ag:List AV:=[.str x.name,.str x.owner,.int .i64 x.prio,.sl .sh (x.need.map ai),.sl .sh (x.labels.map aI),.sl .sh (x.bS.map aX),.sl .sh (x.bh.map aQ),.str x.key,.int .i64 x.most,.str x.node,.bool x.hold];let ax:List AV:=[.sl .sh (s.nodes.map aA),.sl .sh (s.aj.map af),.sl .sh (s.aY.map aP)];let aS:Heap:={boxes:=ax::(ex++[ag]),toks:=bY .str acc,loops:=[]:Heap};let bt:List AV:=[.str [],.str [],.int .i64 0,.sl .full [],.sl .full [],.sl .full [],.sl .full [],.str [],.int .i64 0,.str [],.bool false];gG 160 _ hT (.yes (dT ((↑i:Int)<(↑s.aj.length:Int)))<|.idx cn<|.load (rfl:ak true 11 {boxes:=ax::ex,toks:=bY .str acc,loops:=[]:Heap} (.ref ag)=some (.agg ag))<|.store (show aW 11 {boxes:=ax::(ex++[bt]),toks:=bY .str acc,loops:=[]:Heap} (.ptr (ax::ex).length 0) (.agg ag)=some (aS)from aC (cs:=bt) (cs':=ag) (by simp+zetaDelta) rfl (by simp+zetaDelta [List.set_append]))<|.load (show ak false 1 aS (.ptr (ax::ex).length 9)=some (.str x.node)from ah (cs:=ag) (by simp+zetaDelta) rfl)<|.no (show(x.node==[])=false from Bool.eq_false_iff.2 (by simpa using h1))<|.load (show ak false 1 aS (.ptr (ax::ex).length 7)=some (.str x.key)from ah (cs:=ag) (by simp+zetaDelta) rfl)<|.no (show(x.key==[])=false from Bool.eq_false_iff.2 (by simpa using h2))<|.load (lB true 3 aS 0 0 (.agg ax) ax)<|.load (show ak true 11 aS (.ptr (ax::ex).length 0)=some (.agg ag)from ah (cs:=ag) (by simp+zetaDelta) rfl)<|.load (show ak false 1 aS (.ptr (ax::ex).length 9)=some (.str x.node)from ah (cs:=ag) (by simp+zetaDelta) rfl)<|.aG ([.agg ax,.agg ag,.str x.node]) (.tuple [.int .i64 k,.bool true]) hk<|.ff<|.load (show ak false 1 aS (.ptr (ax::ex).length 8)=some (.int .i64 x.most)from ah (cs:=ag) (by simp+zetaDelta) rfl)<|.no (dF (x.most<k))<|.bin (iI i)<|.aT mQ [(1,.ptr 0 0),(3,.sl (dS acc) (List.map .str acc)),(9,.sl .sh (s.aj.map af)),(10,.int .i64 (↑s.aj.length)),(11,.int .i64 (↑(i+1)))] (aS) (fun T hT=>(n1 T hT)))
theorem Km(s:St)(hp:s.aj.length≤1000)(hs:s.nodes.length≤1000)(hl:∀n∈s.nodes,n.labels.length<9223372036854775807):aq cfg 137 [aB s] (cB .str (jW s)):=by
 refine aq.run (T0 _ _) ?_
 have h:=HW s hp hs hl s.aj 0 rfl [] (by simp) []
 have e:cB AV.str ([]:List (List UInt8))=.sl .full []:=rfl
 rw[e,jI,List.nil_append]at h
 rw[show jW s=iK s s.aj from rfl]
 exact gG 60 [] trivial (.len (lM .sh af s.aj)<|.aT mQ [(1,.ptr 0 0),(3,.sl .full []),(9,.sl .sh (s.aj.map af)),(10,.int .i64 (↑s.aj.length)),(11,.int .i64 0)] ({boxes:=[[.sl .sh (s.nodes.map aA),.sl .sh (s.aj.map af),.sl .sh (s.aY.map aP)]],toks:=[],loops:=[]:Heap}) (fun T hT=>(h T hT)))
theorem Dy(s:St)(hp:s.aj.length≤1000)(hs:s.nodes.length≤500)(hl:∀n∈s.nodes,n.labels.length<9223372036854775807):
 ∀(post:List cT)(i:Nat)(hd:s.aj.drop i=post)(acc:List (List UInt8))(ha:acc.length≤i)(ex:List (List AV))(T:Env)
 (hT:Has T [(1,.ptr 0 0),(3,cB .str acc),(4,.int .i64 i)]),
 bA cfg Sv ri T ⟨(aB s).cells::ex,bY .str acc,[]⟩ (aJ (cB .str (acc++iK s post))):=by
 intro post
 induction post with
 |nil=>
  intro i hd acc ha ex T hT
  have hge:=bf hd
  rw[show acc++iK s []=acc by simp[iK]]
  exact let ag:List AV:=[.sl .sh (s.nodes.map aA),.sl .sh (s.aj.map af),.sl .sh (s.aY.map aP)];let ax:Heap:={boxes:=ag::ex,toks:=bY .str acc,loops:=[]:Heap};gG 60 _ hT (.load (lB false 1 ax 0 1 (.sl .sh (s.aj.map af)) ag)<|.len (lM .sh af s.aj)<|.no (dF ((↑i:Int)<(↑s.aj.length:Int)))<|.fin ((.ret (.sl (dS acc) (List.map .str acc)),ax)) rfl)
 |cons x post ih=>
  intro i hd acc ha ex T hT
  have hlt:=bg hd
  have cq:=aL hd
  have cn:cc 11 (.sl .sh (s.aj.map af)) (.int .i64 (i:Nat))=some (.ref (af x).cells):=bx (f:=af) hd rfl
  have hk:=RG s x x.node hp hs hl
  have ap:=Kl (acc:=acc) x.name (by omega)
  have no:=fun(h:jh s x=false)=>ih (i+1) cq acc (by omega) (ex++[(af x).cells])
  have yes:=ih (i+1) cq (acc++[x.name]) (by simp;omega) (ex++[(af x).cells])
  by_cases h1:x.node=[]
  ·have e:jh s x=false:=by simp[jh,h1]
   rw[oL e]
   have n1:=no e
   exact let ag:List AV:=[.str x.name,.str x.owner,.int .i64 x.prio,.sl .sh (x.need.map ai),.sl .sh (x.labels.map aI),.sl .sh (x.bS.map aX),.sl .sh (x.bh.map aQ),.str x.key,.int .i64 x.most,.str x.node,.bool x.hold];let ax:List AV:=[.sl .sh (s.nodes.map aA),.sl .sh (s.aj.map af),.sl .sh (s.aY.map aP)];let aS:List AV:=[.str [],.str [],.int .i64 0,.sl .full [],.sl .full [],.sl .full [],.sl .full [],.str [],.int .i64 0,.str [],.bool false];let bt:Heap:={boxes:=ax::(ex++[ag]),toks:=bY .str acc,loops:=[]:Heap};let bR:Heap:={boxes:=ax::ex,toks:=bY .str acc,loops:=[]:Heap};gG 120 _ hT (.load (lB false 1 bR 0 1 (.sl .sh (s.aj.map af)) ax)<|.len (lM .sh af s.aj)<|.yes (dT ((↑i:Int)<(↑s.aj.length:Int)))<|.load (lB false 1 bR 0 1 (.sl .sh (s.aj.map af)) ax)<|.idx cn<|.load (rfl:ak true 11 bR (.ref ag)=some (.agg ag))<|.store (show aW 11 {boxes:=ax::(ex++[aS]),toks:=bY .str acc,loops:=[]:Heap} (.ptr (ax::ex).length 0) (.agg ag)=some (bt)from aC (cs:=aS) (cs':=ag) (by simp+zetaDelta) rfl (by simp+zetaDelta [List.set_append]))<|.load (show ak false 1 bt (.ptr (ax::ex).length 9)=some (.str x.node)from ah (cs:=ag) (by simp+zetaDelta) rfl)<|.yes (show(x.node==[])=true from(by simpa using h1))<|.tt<|.bin (iI i)<|.aT ri [(1,.ptr 0 0),(3,.sl (dS acc) (List.map .str acc)),(4,.int .i64 (↑(i+1)))] (bt) (fun T hT=>(n1 T hT)))
  ·by_cases h2:x.key=[]
   ·have e:jh s x=false:=by simp[jh,h2]
    rw[oL e]
    have n1:=no e
    exact let ag:List AV:=[.str x.name,.str x.owner,.int .i64 x.prio,.sl .sh (x.need.map ai),.sl .sh (x.labels.map aI),.sl .sh (x.bS.map aX),.sl .sh (x.bh.map aQ),.str x.key,.int .i64 x.most,.str x.node,.bool x.hold];let ax:List AV:=[.sl .sh (s.nodes.map aA),.sl .sh (s.aj.map af),.sl .sh (s.aY.map aP)];let aS:Heap:={boxes:=ax::(ex++[ag]),toks:=bY .str acc,loops:=[]:Heap};let bt:List AV:=[.str [],.str [],.int .i64 0,.sl .full [],.sl .full [],.sl .full [],.sl .full [],.str [],.int .i64 0,.str [],.bool false];let bR:Heap:={boxes:=ax::ex,toks:=bY .str acc,loops:=[]:Heap};gG 120 _ hT (.load (lB false 1 bR 0 1 (.sl .sh (s.aj.map af)) ax)<|.len (lM .sh af s.aj)<|.yes (dT ((↑i:Int)<(↑s.aj.length:Int)))<|.load (lB false 1 bR 0 1 (.sl .sh (s.aj.map af)) ax)<|.idx cn<|.load (rfl:ak true 11 bR (.ref ag)=some (.agg ag))<|.store (show aW 11 {boxes:=ax::(ex++[bt]),toks:=bY .str acc,loops:=[]:Heap} (.ptr (ax::ex).length 0) (.agg ag)=some (aS)from aC (cs:=bt) (cs':=ag) (by simp+zetaDelta) rfl (by simp+zetaDelta [List.set_append]))<|.load (show ak false 1 aS (.ptr (ax::ex).length 9)=some (.str x.node)from ah (cs:=ag) (by simp+zetaDelta) rfl)<|.no (show(x.node==[])=false from Bool.eq_false_iff.2 (by simpa using h1))<|.load (show ak false 1 aS (.ptr (ax::ex).length 7)=some (.str x.key)from ah (cs:=ag) (by simp+zetaDelta) rfl)<|.yes (show(x.key==[])=true from(by simpa using h2))<|.bin (iI i)<|.aT ri [(1,.ptr 0 0),(3,.sl (dS acc) (List.map .str acc)),(4,.int .i64 (↑(i+1)))] (aS) (fun T hT=>(n1 T hT)))
   ·have e:jh s x=(!(dV s x x.node).2||decide (x.most<(dV s x x.node).1)):=by simp[jh,h1,h2]
    generalize dV s x x.node=z at hk e
    obtain⟨k,ok⟩:=z
    simp only at hk e
    cases ok with
    |false=>
     have e':jh s x=true:=by rw[e];rfl
     rw[pW e',show acc++x.name::iK s post=(acc++[x.name])++iK s post by simp]
     exact let ag:List AV:=[.str x.name,.str x.owner,.int .i64 x.prio,.sl .sh (x.need.map ai),.sl .sh (x.labels.map aI),.sl .sh (x.bS.map aX),.sl .sh (x.bh.map aQ),.str x.key,.int .i64 x.most,.str x.node,.bool x.hold];let ax:List AV:=[.sl .sh (s.nodes.map aA),.sl .sh (s.aj.map af),.sl .sh (s.aY.map aP)];let aS:Heap:={boxes:=ax::(ex++[ag]),toks:=bY .str acc,loops:=[]:Heap};let bt:List AV:=[.str [],.str [],.int .i64 0,.sl .full [],.sl .full [],.sl .full [],.sl .full [],.str [],.int .i64 0,.str [],.bool false];let bR:Heap:={boxes:=ax::ex,toks:=bY .str acc,loops:=[]:Heap};let dm:Heap:={boxes:=ax::(ex++[ag]),toks:=bY .str (acc++[x.name]),loops:=[]:Heap};gG 160 _ hT (.load (lB false 1 bR 0 1 (.sl .sh (s.aj.map af)) ax)<|.len (lM .sh af s.aj)<|.yes (dT ((↑i:Int)<(↑s.aj.length:Int)))<|.load (lB false 1 bR 0 1 (.sl .sh (s.aj.map af)) ax)<|.idx cn<|.load (rfl:ak true 11 bR (.ref ag)=some (.agg ag))<|.store (show aW 11 {boxes:=ax::(ex++[bt]),toks:=bY .str acc,loops:=[]:Heap} (.ptr (ax::ex).length 0) (.agg ag)=some (aS)from aC (cs:=bt) (cs':=ag) (by simp+zetaDelta) rfl (by simp+zetaDelta [List.set_append]))<|.load (show ak false 1 aS (.ptr (ax::ex).length 9)=some (.str x.node)from ah (cs:=ag) (by simp+zetaDelta) rfl)<|.no (show(x.node==[])=false from Bool.eq_false_iff.2 (by simpa using h1))<|.load (show ak false 1 aS (.ptr (ax::ex).length 7)=some (.str x.key)from ah (cs:=ag) (by simp+zetaDelta) rfl)<|.no (show(x.key==[])=false from Bool.eq_false_iff.2 (by simpa using h2))<|.load (lB true 3 aS 0 0 (.agg ax) ax)<|.load (show ak true 11 aS (.ptr (ax::ex).length 0)=some (.agg ag)from ah (cs:=ag) (by simp+zetaDelta) rfl)<|.load (show ak false 1 aS (.ptr (ax::ex).length 9)=some (.str x.node)from ah (cs:=ag) (by simp+zetaDelta) rfl)<|.aG ([.agg ax,.agg ag,.str x.node]) (.tuple [.int .i64 k,.bool false]) hk<|.tt<|.tt<|.load (show ak false 1 aS (.ptr (ax::ex).length 0)=some (.str x.name)from ah (cs:=ag) (by simp+zetaDelta) rfl)<|.append (show bw 1 16 aS (.sl (dS acc) (List.map .str acc)) (.sl .full [.str x.name])=some ((cB .str (acc++[x.name]),dm))from ap _ _)<|.bin (iI i)<|.aT ri [(1,.ptr 0 0),(3,.sl (dS (acc++[x.name])) (List.map .str (acc++[x.name]))),(4,.int .i64 (↑(i+1)))] (dm) (fun T hT=>(yes T hT)))
    |true=>
     by_cases h3:x.most<k
     ·have e':jh s x=true:=by rw[e];simp[h3]
      rw[pW e',show acc++x.name::iK s post=(acc++[x.name])++iK s post by simp]
      exact let ag:List AV:=[.str x.name,.str x.owner,.int .i64 x.prio,.sl .sh (x.need.map ai),.sl .sh (x.labels.map aI),.sl .sh (x.bS.map aX),.sl .sh (x.bh.map aQ),.str x.key,.int .i64 x.most,.str x.node,.bool x.hold];let ax:List AV:=[.sl .sh (s.nodes.map aA),.sl .sh (s.aj.map af),.sl .sh (s.aY.map aP)];let aS:Heap:={boxes:=ax::(ex++[ag]),toks:=bY .str acc,loops:=[]:Heap};let bt:List AV:=[.str [],.str [],.int .i64 0,.sl .full [],.sl .full [],.sl .full [],.sl .full [],.str [],.int .i64 0,.str [],.bool false];let bR:Heap:={boxes:=ax::ex,toks:=bY .str acc,loops:=[]:Heap};let dm:Heap:={boxes:=ax::(ex++[ag]),toks:=bY .str (acc++[x.name]),loops:=[]:Heap};gG 160 _ hT (.load (lB false 1 bR 0 1 (.sl .sh (s.aj.map af)) ax)<|.len (lM .sh af s.aj)<|.yes (dT ((↑i:Int)<(↑s.aj.length:Int)))<|.load (lB false 1 bR 0 1 (.sl .sh (s.aj.map af)) ax)<|.idx cn<|.load (rfl:ak true 11 bR (.ref ag)=some (.agg ag))<|.store (show aW 11 {boxes:=ax::(ex++[bt]),toks:=bY .str acc,loops:=[]:Heap} (.ptr (ax::ex).length 0) (.agg ag)=some (aS)from aC (cs:=bt) (cs':=ag) (by simp+zetaDelta) rfl (by simp+zetaDelta [List.set_append]))<|.load (show ak false 1 aS (.ptr (ax::ex).length 9)=some (.str x.node)from ah (cs:=ag) (by simp+zetaDelta) rfl)<|.no (show(x.node==[])=false from Bool.eq_false_iff.2 (by simpa using h1))<|.load (show ak false 1 aS (.ptr (ax::ex).length 7)=some (.str x.key)from ah (cs:=ag) (by simp+zetaDelta) rfl)<|.no (show(x.key==[])=false from Bool.eq_false_iff.2 (by simpa using h2))<|.load (lB true 3 aS 0 0 (.agg ax) ax)<|.load (show ak true 11 aS (.ptr (ax::ex).length 0)=some (.agg ag)from ah (cs:=ag) (by simp+zetaDelta) rfl)<|.load (show ak false 1 aS (.ptr (ax::ex).length 9)=some (.str x.node)from ah (cs:=ag) (by simp+zetaDelta) rfl)<|.aG ([.agg ax,.agg ag,.str x.node]) (.tuple [.int .i64 k,.bool true]) hk<|.ff<|.load (show ak false 1 aS (.ptr (ax::ex).length 8)=some (.int .i64 x.most)from ah (cs:=ag) (by simp+zetaDelta) rfl)<|.yes (dT (x.most<k))<|.load (show ak false 1 aS (.ptr (ax::ex).length 0)=some (.str x.name)from ah (cs:=ag) (by simp+zetaDelta) rfl)<|.append (show bw 1 16 aS (.sl (dS acc) (List.map .str acc)) (.sl .full [.str x.name])=some ((cB .str (acc++[x.name]),dm))from ap _ _)<|.bin (iI i)<|.aT ri [(1,.ptr 0 0),(3,.sl (dS (acc++[x.name])) (List.map .str (acc++[x.name]))),(4,.int .i64 (↑(i+1)))] (dm) (fun T hT=>(yes T hT)))
     ·have e':jh s x=false:=by rw[e];simp[h3]
      rw[oL e']
      have n1:=no e'
      exact let ag:List AV:=[.str x.name,.str x.owner,.int .i64 x.prio,.sl .sh (x.need.map ai),.sl .sh (x.labels.map aI),.sl .sh (x.bS.map aX),.sl .sh (x.bh.map aQ),.str x.key,.int .i64 x.most,.str x.node,.bool x.hold];let ax:List AV:=[.sl .sh (s.nodes.map aA),.sl .sh (s.aj.map af),.sl .sh (s.aY.map aP)];let aS:Heap:={boxes:=ax::(ex++[ag]),toks:=bY .str acc,loops:=[]:Heap};let bt:List AV:=[.str [],.str [],.int .i64 0,.sl .full [],.sl .full [],.sl .full [],.sl .full [],.str [],.int .i64 0,.str [],.bool false];let bR:Heap:={boxes:=ax::ex,toks:=bY .str acc,loops:=[]:Heap};gG 160 _ hT (.load (lB false 1 bR 0 1 (.sl .sh (s.aj.map af)) ax)<|.len (lM .sh af s.aj)<|.yes (dT ((↑i:Int)<(↑s.aj.length:Int)))<|.load (lB false 1 bR 0 1 (.sl .sh (s.aj.map af)) ax)<|.idx cn<|.load (rfl:ak true 11 bR (.ref ag)=some (.agg ag))<|.store (show aW 11 {boxes:=ax::(ex++[bt]),toks:=bY .str acc,loops:=[]:Heap} (.ptr (ax::ex).length 0) (.agg ag)=some (aS)from aC (cs:=bt) (cs':=ag) (by simp+zetaDelta) rfl (by simp+zetaDelta [List.set_append]))<|.load (show ak false 1 aS (.ptr (ax::ex).length 9)=some (.str x.node)from ah (cs:=ag) (by simp+zetaDelta) rfl)<|.no (show(x.node==[])=false from Bool.eq_false_iff.2 (by simpa using h1))<|.load (show ak false 1 aS (.ptr (ax::ex).length 7)=some (.str x.key)from ah (cs:=ag) (by simp+zetaDelta) rfl)<|.no (show(x.key==[])=false from Bool.eq_false_iff.2 (by simpa using h2))<|.load (lB true 3 aS 0 0 (.agg ax) ax)<|.load (show ak true 11 aS (.ptr (ax::ex).length 0)=some (.agg ag)from ah (cs:=ag) (by simp+zetaDelta) rfl)<|.load (show ak false 1 aS (.ptr (ax::ex).length 9)=some (.str x.node)from ah (cs:=ag) (by simp+zetaDelta) rfl)<|.aG ([.agg ax,.agg ag,.str x.node]) (.tuple [.int .i64 k,.bool true]) hk<|.ff<|.load (show ak false 1 aS (.ptr (ax::ex).length 8)=some (.int .i64 x.most)from ah (cs:=ag) (by simp+zetaDelta) rfl)<|.no (dF (x.most<k))<|.bin (iI i)<|.aT ri [(1,.ptr 0 0),(3,.sl (dS acc) (List.map .str acc)),(4,.int .i64 (↑(i+1)))] (aS) (fun T hT=>(n1 T hT)))
theorem Kn(s:St)(hp:s.aj.length≤1000)(hs:s.nodes.length≤500)(hl:∀n∈s.nodes,n.labels.length<9223372036854775807):aq cfg 71 [aB s] (cB .str (jW s)):=by
 refine aq.run (Yj _ _) ?_
 have h:=Dy s hp hs hl s.aj 0 rfl [] (by simp) []
 have e:cB AV.str ([]:List (List UInt8))=.sl .full []:=rfl
 rw[e,jI,List.nil_append]at h
 rw[show jW s=iK s s.aj from rfl]
 exact gG 60 [] trivial (.aT ri [(1,.ptr 0 0),(3,.sl .full []),(4,.int .i64 0)] ({boxes:=[[.sl .sh (s.nodes.map aA),.sl .sh (s.aj.map af),.sl .sh (s.aY.map aP)]],toks:=[],loops:=[]:Heap}) (fun T hT=>(h T hT)))
def iB(s:St)(lo hi:AV)(l:List Node):Bool:=l.any fun n=> !n.br&& !(pV s n.name lo hi==0)
theorem Dz(s:St)(hs:jm s)(hu:∀n,dG s n=cU s n)(hc:∀n∈s.nodes,n.cap.length≤1000){lo hi:AV}(hl:Fl lo)(hh:Fl hi):
 ∀(post:List Node)(i:Nat)(hd:s.nodes.drop i=post)(T:Env)(hT:Has T [(2,.ptr 0 0),(3,.ptr 1 0),(5,.int .i64 i)]),
 bA cfg a72 Bg T ⟨[(aB s).cells,[lo,hi]],[],[]⟩ (aJ (.bool (iB s lo hi post))):=by
 haveI:=hl.C
 haveI:=hh.C
 intro post
 have hn:=hs.nodes
 induction post with
 |nil=>
  intro i hd T hT
  have hge:=bf hd
  exact gG 60 _ hT (.len (lM .sh aA s.nodes)<|.no (dF ((↑i:Int)<(↑s.nodes.length:Int)))<|.fin ((.ret (.bool false),{boxes:=[[.sl .sh (s.nodes.map aA),.sl .sh (s.aj.map af),.sl .sh (s.aY.map aP)],[lo,hi]],toks:=[],loops:=[]:Heap})) rfl)
 |cons x post ih=>
  intro i hd T hT
  have hlt:=bg hd
  have cq:=aL hd
  have cn:cc 5 (.sl .sh (s.nodes.map aA)) (.int .i64 (i:Nat))=some (.ref (aA x).cells):=bx (f:=aA) hd rfl
  have hf:=HS s hs hu hc x.name hl hh
  have cQ:=ih (i+1) cq
  cases h1:x.br with
  |true=>
   have e:iB s lo hi (x::post)=iB s lo hi post:=by simp[iB,h1]
   rw[e]
   exact gG 120 _ hT (.len (lM .sh aA s.nodes)<|.yes (dT ((↑i:Int)<(↑s.nodes.length:Int)))<|.idx cn<|.no (show(!x.br)=false from by have hh:x.br=true:=(by omega);simp[hh])<|.ff<|.bin (iI i)<|.aT Bg [(2,.ptr 0 0),(3,.ptr 1 0),(5,.int .i64 (↑(i+1)))] ({boxes:=[[.sl .sh (s.nodes.map aA),.sl .sh (s.aj.map af),.sl .sh (s.aY.map aP)],[lo,hi]],toks:=[],loops:=[]:Heap}) (fun T hT=>(cQ T hT)))
  |false=>
   by_cases h2:pV s x.name lo hi=0
   ·have e:iB s lo hi (x::post)=iB s lo hi post:=by simp[iB,h1,h2]
    rw[e]
    generalize pV s x.name lo hi=c at*
    exact let ag:List AV:=[.sl .sh (s.nodes.map aA),.sl .sh (s.aj.map af),.sl .sh (s.aY.map aP)];gG 120 _ hT (.len (lM .sh aA s.nodes)<|.yes (dT ((↑i:Int)<(↑s.nodes.length:Int)))<|.idx cn<|.yes (show(!x.br)=true from by have hh:¬(x.br=true):=(by simp+zetaDelta [h1]);simp[hh])<|.idx cn<|.bE ([.agg ag,.str x.name,.agg [lo,hi]]) (.int .i64 c) hf cA.p ⟨rfl,rfl⟩<|.no (show(c !=(0:Int))=false from Bool.eq_false_iff.2 (by simp+zetaDelta [h2]))<|.bin (iI i)<|.aT Bg [(2,.ptr 0 0),(3,.ptr 1 0),(5,.int .i64 (↑(i+1)))] ({boxes:=[ag,[lo,hi]],toks:=[],loops:=[]:Heap}) (fun T hT=>(cQ T hT)))
   ·have e:iB s lo hi (x::post)=true:=by simp[iB,h1,h2]
    rw[e]
    generalize pV s x.name lo hi=c at*
    exact let ag:List AV:=[.sl .sh (s.nodes.map aA),.sl .sh (s.aj.map af),.sl .sh (s.aY.map aP)];gG 120 _ hT (.len (lM .sh aA s.nodes)<|.yes (dT ((↑i:Int)<(↑s.nodes.length:Int)))<|.idx cn<|.yes (show(!x.br)=true from by have hh:¬(x.br=true):=(by simp+zetaDelta [h1]);simp[hh])<|.idx cn<|.bE ([.agg ag,.str x.name,.agg [lo,hi]]) (.int .i64 c) hf cA.p ⟨rfl,rfl⟩<|.yes (show(c !=(0:Int))=true from(by simp+zetaDelta [h2]))<|.fin ((.ret (.bool true),{boxes:=[ag,[lo,hi]],toks:=[],loops:=[]:Heap})) rfl)
theorem HX(s:St)(hs:jm s)(hu:∀n,dG s n=cU s n)(hc:∀n∈s.nodes,n.cap.length≤1000){lo hi:AV}(hl:Fl lo)(hh:Fl hi):aq cfg 72 [aB s,.agg [lo,hi]] (.bool (iB s lo hi s.nodes)):=by
 refine aq.run (Yk _ _) ?_
 have h:=Dz s hs hu hc hl hh s.nodes 0 rfl
 exact gG 60 [] trivial (.aT Bg [(2,.ptr 0 0),(3,.ptr 1 0),(5,.int .i64 0)] ({boxes:=[[.sl .sh (s.nodes.map aA),.sl .sh (s.aj.map af),.sl .sh (s.aY.map aP)],[lo,hi]],toks:=[],loops:=[]:Heap}) (fun T hT=>(h T hT)))
end Go.Aa.T

