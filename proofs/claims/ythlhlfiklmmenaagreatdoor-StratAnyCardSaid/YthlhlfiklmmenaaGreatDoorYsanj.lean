import Derived.Test.YthlhlfiklmmenaaGreatDoorYsani
set_option linter.unusedVariables false
set_option linter.unusedSimpArgs false
set_option maxRecDepth 100000
namespace Go.Aa.T
open Go.Aa Go.Proofs
instance(n:cT):qO (af n):=⟨rfl,rfl⟩
def fD(p:cT):Bool:=decide (p.name.length≤50)&&(decide (p.owner.length≤50)&&(decide (p.key.length≤50)&&(decide (p.node.length≤50)&&(kU p.need&&(kS p.labels&&(jQ p.bS&&su p.bh))))))
theorem CY(p:cT):aq cfg 117 [af p] (.bool (fD p)):=by
 refine aq.run (TK _ _) ?_
 exact let ag:Heap:={boxes:=[[.str p.name,.str p.owner,.int .i64 p.prio,.sl .sh (p.need.map ai),.sl .sh (p.labels.map aI),.sl .sh (p.bS.map aX),.sl .sh (p.bh.map aQ),.str p.key,.int .i64 p.most,.str p.node,.bool p.hold]],toks:=[],loops:=[]:Heap};gG 120 [] trivial (.len (show dA true (.str p.name)=some (.int .i64 (↑p.name.length))from dw _)<|.split ((↑p.name.length:Int)≤(50:Int)) (fun h1=>.yes (dT ((↑p.name.length:Int)≤(50:Int)) h1)<|.len (show dA true (.str p.owner)=some (.int .i64 (↑p.owner.length))from dw _)<|.split ((↑p.owner.length:Int)≤(50:Int)) (fun h2=>.yes (dT ((↑p.owner.length:Int)≤(50:Int)) h2)<|.len (show dA true (.str p.key)=some (.int .i64 (↑p.key.length))from dw _)<|.split ((↑p.key.length:Int)≤(50:Int)) (fun h3=>.yes (dT ((↑p.key.length:Int)≤(50:Int)) h3)<|.len (show dA true (.str p.node)=some (.int .i64 (↑p.node.length))from dw _)<|.split ((↑p.node.length:Int)≤(50:Int)) (fun h4=>.yes (dT ((↑p.node.length:Int)≤(50:Int)) h4)<|.aG ([.sl .sh (p.need.map ai)]) (.bool (kU p.need)) (show aq cfg 203 [.sl .sh (p.need.map ai)] (.bool (kU p.need))from xD _)<|.split (kU p.need=true) (fun h5=>.yes (show(kU p.need)=true from h5)<|.aG ([.sl .sh (p.labels.map aI)]) (.bool (kS p.labels)) (show aq cfg 204 [.sl .sh (p.labels.map aI)] (.bool (kS p.labels))from xy _)<|.split (kS p.labels=true) (fun h6=>.yes (show(kS p.labels)=true from h6)<|.aG ([.sl .sh (p.bS.map aX)]) (.bool (jQ p.bS)) (show aq cfg 202 [.sl .sh (p.bS.map aX)] (.bool (jQ p.bS))from xz _)<|.split (jQ p.bS=true) (fun h7=>.yes (show(jQ p.bS)=true from h7)<|.aG ([.sl .sh (p.bh.map aQ)]) (.bool (su p.bh)) (show aq cfg 206 [.sl .sh (p.bh.map aQ)] (.bool (su p.bh))from Gi _)<|.fin ((.ret (.bool (su p.bh)),ag)) (by simp only[aJ];grind[fD])) (fun h7=>.no (show(jQ p.bS)=false from Bool.eq_false_iff.2 h7)<|.fin ((.ret (.bool false),ag)) (by simp only[aJ];grind[fD]))) (fun h6=>.no (show(kS p.labels)=false from Bool.eq_false_iff.2 h6)<|.ff<|.fin ((.ret (.bool false),ag)) (by simp only[aJ];grind[fD]))) (fun h5=>.no (show(kU p.need)=false from Bool.eq_false_iff.2 h5)<|.ff<|.ff<|.fin ((.ret (.bool false),ag)) (by simp only[aJ];grind[fD]))) (fun h4=>.no (dF ((↑p.node.length:Int)≤(50:Int)) h4)<|.ff<|.ff<|.ff<|.fin ((.ret (.bool false),ag)) (by simp only[aJ];grind[fD]))) (fun h3=>.no (dF ((↑p.key.length:Int)≤(50:Int)) h3)<|.ff<|.ff<|.ff<|.ff<|.fin ((.ret (.bool false),ag)) (by simp only[aJ];grind[fD]))) (fun h2=>.no (dF ((↑p.owner.length:Int)≤(50:Int)) h2)<|.ff<|.ff<|.ff<|.ff<|.ff<|.fin ((.ret (.bool false),ag)) (by simp only[aJ];grind[fD]))) (fun h1=>.no (dF ((↑p.name.length:Int)≤(50:Int)) h1)<|.ff<|.ff<|.ff<|.ff<|.ff<|.ff<|.fin ((.ret (.bool false),ag)) (by simp only[aJ];grind[fD])))
structure Nv(p:cT):Prop where
 name:p.name.length≤50
 owner:p.owner.length≤50
 key:p.key.length≤50
 node:p.node.length≤50
 need:p.need.length≤20
 labels:p.labels.length≤20
 bS:p.bS.length≤20
 bh:p.bh.length≤20
 WS:kU p.need=true
 SG:kS p.labels=true
 Yx:jQ p.bS=true
 WT:su p.bh=true
theorem oH{p:cT}(h:fD p=true):Nv p:=by
 simp only[fD,Bool.and_eq_true,decide_eq_true_eq]at h
 obtain⟨h1,h2,h3,h4,h5,h6,h7,h8⟩:=h
 exact⟨h1,h2,h3,h4,xC h5,xw h6,xx h7,Gw h8,h5,h6,h7,h8⟩
theorem Q0(p:cT)(m1:p.need.length≤20)(m2:p.labels.length≤20)(m3:p.bS.length≤20)(m4:p.bh.length≤20):aq cfg 112 [af p] (af p):=by
 refine aq.run (TG _ _) ?_
 exact let ag:List AV:=[.str p.name,.str p.owner,.int .i64 p.prio,.sl .sh (p.need.map ai),.sl .sh (p.labels.map aI),.sl .sh (p.bS.map aX),.sl .sh (p.bh.map aQ),.str p.key,.int .i64 p.most,.str p.node,.bool p.hold];gG 120 [] trivial (.bE ([.sl .sh (p.need.map ai)]) (.sl .sh (p.need.map ai)) (show aq cfg 196 [.sl .sh (p.need.map ai)] (aZ Heap.nil (p.need.map ai))from Bp _ m1) ⟨rfl,rfl⟩ fe.p<|.bE ([.sl .sh (p.labels.map aI)]) (.sl .sh (p.labels.map aI)) (show aq cfg 197 [.sl .sh (p.labels.map aI)] (aZ Heap.nil (p.labels.map aI))from Bk _ m2) ⟨rfl,rfl⟩ fe.p<|.bE ([.sl .sh (p.bS.map aX)]) (.sl .sh (p.bS.map aX)) (show aq cfg 198 [.sl .sh (p.bS.map aX)] (aZ Heap.nil (p.bS.map aX))from Bl _ m3) ⟨rfl,rfl⟩ fe.p<|.bE ([.sl .sh (p.bh.map aQ)]) (.sl .sh (p.bh.map aQ)) (show aq cfg 199 [.sl .sh (p.bh.map aQ)] (aZ Heap.nil (p.bh.map aQ))from JB _ m4) ⟨rfl,rfl⟩ fe.p<|.fin ((.ret (.agg ag),{boxes:=[ag,ag],toks:=[],loops:=[]:Heap})) rfl)
theorem GO(p:cT)(h:fD p=true):aq cfg 112 [af p] (af p):=Q0 p (oH h).need (oH h).labels (oH h).bS (oH h).bh
theorem Al(l:List cT)(hn:l.length≤140)(hf:∀x∈l,fD x=true):∀(post:List cT)(i:Nat)(acc:List AV)(hd:l.drop i=post)(ha:acc.length=i)(hl:cE 11 acc=true)(T:Env)(hT:Has T [(0,.sl .sh (l.map af)),(3,aZ Heap.nil acc),(4,.int .i64 i)]),
 bA cfg Sm F5 T (cu Heap.nil acc) (aJ (aZ Heap.nil (acc++post.map af))):=by
 intro post
 induction post with
 |nil=>
  intro i acc hd ha hl T hT
  have hge:=bf hd
  exact gG 60 _ hT (.len (lM .sh af l)<|.no (dF ((↑i:Int)<(↑l.length:Int)))<|.fin ((.ret (aU (aU (aU (aU (aU (aU (bJ T [(0,.sl .sh (l.map af)),(3,aZ Heap.nil acc),(4,.int .i64 ↑i)]) (some 5) (ev (bJ T [(0,.sl .sh (l.map af)),(3,aZ Heap.nil acc),(4,.int .i64 ↑i)]) (.t 4))) (some 6) (ev (aU (bJ T [(0,.sl .sh (l.map af)),(3,aZ Heap.nil acc),(4,.int .i64 ↑i)]) (some 5) (ev (bJ T [(0,.sl .sh (l.map af)),(3,aZ Heap.nil acc),(4,.int .i64 ↑i)]) (.t 4))) (.t 0))) (some 7) (.int .i64 (↑l.length))) (some 8) (.bool (decide ((↑i:Int)<(↑l.length:Int))))) (some 19) (ev (aU (aU (aU (aU (bJ T [(0,.sl .sh (l.map af)),(3,aZ Heap.nil acc),(4,.int .i64 ↑i)]) (some 5) (ev (bJ T [(0,.sl .sh (l.map af)),(3,aZ Heap.nil acc),(4,.int .i64 ↑i)]) (.t 4))) (some 6) (ev (aU (bJ T [(0,.sl .sh (l.map af)),(3,aZ Heap.nil acc),(4,.int .i64 ↑i)]) (some 5) (ev (bJ T [(0,.sl .sh (l.map af)),(3,aZ Heap.nil acc),(4,.int .i64 ↑i)]) (.t 4))) (.t 0))) (some 7) (.int .i64 (↑l.length))) (some 8) (.bool (decide ((↑i:Int)<(↑l.length:Int))))) (.t 3))) (some 2) (ev (aU (aU (aU (aU (aU (bJ T [(0,.sl .sh (l.map af)),(3,aZ Heap.nil acc),(4,.int .i64 ↑i)]) (some 5) (ev (bJ T [(0,.sl .sh (l.map af)),(3,aZ Heap.nil acc),(4,.int .i64 ↑i)]) (.t 4))) (some 6) (ev (aU (bJ T [(0,.sl .sh (l.map af)),(3,aZ Heap.nil acc),(4,.int .i64 ↑i)]) (some 5) (ev (bJ T [(0,.sl .sh (l.map af)),(3,aZ Heap.nil acc),(4,.int .i64 ↑i)]) (.t 4))) (.t 0))) (some 7) (.int .i64 (↑l.length))) (some 8) (.bool (decide ((↑i:Int)<(↑l.length:Int))))) (some 19) (ev (aU (aU (aU (aU (bJ T [(0,.sl .sh (l.map af)),(3,aZ Heap.nil acc),(4,.int .i64 ↑i)]) (some 5) (ev (bJ T [(0,.sl .sh (l.map af)),(3,aZ Heap.nil acc),(4,.int .i64 ↑i)]) (.t 4))) (some 6) (ev (aU (bJ T [(0,.sl .sh (l.map af)),(3,aZ Heap.nil acc),(4,.int .i64 ↑i)]) (some 5) (ev (bJ T [(0,.sl .sh (l.map af)),(3,aZ Heap.nil acc),(4,.int .i64 ↑i)]) (.t 4))) (.t 0))) (some 7) (.int .i64 (↑l.length))) (some 8) (.bool (decide ((↑i:Int)<(↑l.length:Int))))) (.t 3))) (.t 19)) 2),cu Heap.nil acc)) (by simp only[aJ,List.map_nil,List.append_nil];rfl))
 |cons x post ih=>
  intro i acc hd ha hl T hT
  have hlt:=bg hd
  have cq:=aL hd
  have hx:=hf x (eo hd)
  exact gG 60 _ hT (.len (lM .sh af l)<|.yes (dT ((↑i:Int)<(↑l.length:Int)) (by simp;omega))<|.idx (iR 11 af hd)<|.load (rfl:ak true 11 (cu Heap.nil acc) (.ref [.str x.name,.str x.owner,.int .i64 x.prio,.sl .sh (x.need.map ai),.sl .sh (x.labels.map aI),.sl .sh (x.bS.map aX),.sl .sh (x.bh.map aQ),.str x.key,.int .i64 x.most,.str x.node,.bool x.hold])=some (.agg [.str x.name,.str x.owner,.int .i64 x.prio,.sl .sh (x.need.map ai),.sl .sh (x.labels.map aI),.sl .sh (x.bS.map aX),.sl .sh (x.bh.map aQ),.str x.key,.int .i64 x.most,.str x.node,.bool x.hold]))<|.aG ([.agg [.str x.name,.str x.owner,.int .i64 x.prio,.sl .sh (x.need.map ai),.sl .sh (x.labels.map aI),.sl .sh (x.bS.map aX),.sl .sh (x.bh.map aQ),.str x.key,.int .i64 x.most,.str x.node,.bool x.hold]]) (.agg [.str x.name,.str x.owner,.int .i64 x.prio,.sl .sh (x.need.map ai),.sl .sh (x.labels.map aI),.sl .sh (x.bS.map aX),.sl .sh (x.bh.map aQ),.str x.key,.int .i64 x.most,.str x.node,.bool x.hold]) (show aq cfg 112 [af x] (af x)from GO _ hx)<|.append (show bw 11 184 (cu Heap.nil acc) (aZ Heap.nil acc) (.sl .full [.agg [.str x.name,.str x.owner,.int .i64 x.prio,.sl .sh (x.need.map ai),.sl .sh (x.labels.map aI),.sl .sh (x.bS.map aX),.sl .sh (x.bh.map aQ),.str x.key,.int .i64 x.most,.str x.node,.bool x.hold]])=some ((aZ Heap.nil (acc++[AV.agg [.str x.name,.str x.owner,.int .i64 x.prio,.sl .sh (x.need.map ai),.sl .sh (x.labels.map aI),.sl .sh (x.bS.map aX),.sl .sh (x.bh.map aQ),.str x.key,.int .i64 x.most,.str x.node,.bool x.hold]]),cu Heap.nil (acc++[AV.agg [.str x.name,.str x.owner,.int .i64 x.prio,.sl .sh (x.need.map ai),.sl .sh (x.labels.map aI),.sl .sh (x.bS.map aX),.sl .sh (x.bh.map aQ),.str x.key,.int .i64 x.most,.str x.node,.bool x.hold]])))from eF (by omega) hl (by rfl) (by rfl))<|.bin (iI i)<|.aT F5 [(0,.sl .sh (l.map af)),(3,aZ Heap.nil (acc++[AV.agg [.str x.name,.str x.owner,.int .i64 x.prio,.sl .sh (x.need.map ai),.sl .sh (x.labels.map aI),.sl .sh (x.bS.map aX),.sl .sh (x.bh.map aQ),.str x.key,.int .i64 x.most,.str x.node,.bool x.hold]])),(4,.int .i64 (↑(i+1)))] (cu Heap.nil (acc++[AV.agg [.str x.name,.str x.owner,.int .i64 x.prio,.sl .sh (x.need.map ai),.sl .sh (x.labels.map aI),.sl .sh (x.bS.map aX),.sl .sh (x.bh.map aQ),.str x.key,.int .i64 x.most,.str x.node,.bool x.hold]])) (fun T hT=>(ih (i+1) (acc++[AV.agg [.str x.name,.str x.owner,.int .i64 x.prio,.sl .sh (x.need.map ai),.sl .sh (x.labels.map aI),.sl .sh (x.bS.map aX),.sl .sh (x.bh.map aQ),.str x.key,.int .i64 x.most,.str x.node,.bool x.hold]]) cq (by simp;omega) (by exact e9 (by assumption) rfl) T hT).to (by simp[af])))
theorem CZ(l:List cT)(hn:l.length≤140)(hf:∀x∈l,fD x=true):aq cfg 48 [.sl .sh (l.map af)] (aZ Heap.nil (l.map af)):=by
 refine aq.run (X3 _ _) ?_
 have h:=Al l hn hf l 0 [] rfl rfl rfl
 exact gG 60 [] trivial (.aT F5 [(0,.sl .sh (l.map af)),(3,.sl .full []),(4,.int .i64 0)] ({boxes:=[],toks:=[],loops:=[]:Heap}) (fun T hT=>(h T hT)))
theorem GP(p:cT):aq cfg 208 [af p] (.int .i64 (pK p)):=by
 refine aq.run (Uw _ _) ?_
 have e:pK p=bq [if isName p.name then 0 else 3,cz p.owner,Br p,gW p.need,Bm p.labels,Ij p.bS,Nq p.bh,cz p.key,Bs p,cz p.node]:=rfl
 have q1:Br p=if p.prio< -1 then 1 else if 1000000<p.prio then 1 else if p.hold==(p.prio== -1)then 0 else 1:=by
  unfold Br l7
  cases p.hold<;>grind
 have q2:Bs p=if p.key=[]then(if p.most=0 then 0 else 1)else(if p.most<1 then 1 else if 128<p.most then 1 else 0):=by
  unfold Bs l7
  grind
 rw[e,q1,q2]
 clear e q1 q2
 have a1:=pS p.need
 have a2:=Bn p.labels
 have a3:=Bo p.bS
 have a4:=JD p.bh
 generalize gW p.need=c1 at a1⊢
 generalize Bm p.labels=c2 at a2⊢
 generalize Ij p.bS=c3 at a3⊢
 generalize Nq p.bh=c4 at a4⊢
 exact let ag:Heap:={boxes:=[[.str p.name,.str p.owner,.int .i64 p.prio,.sl .sh (p.need.map ai),.sl .sh (p.labels.map aI),.sl .sh (p.bS.map aX),.sl .sh (p.bh.map aQ),.str p.key,.int .i64 p.most,.str p.node,.bool p.hold]],toks:=[],loops:=[]:Heap};gG 160 [] trivial (.aG ([.str p.name]) (.bool (isName p.name)) (show aq cfg 259 [.str p.name] (.bool (isName p.name))from cM _)<|.split (isName p.name=true) (fun h1=>.no (show(!isName p.name)=false from by have hh:isName p.name=true:=h1;simp[hh])<|.split ((p.owner==[])=true) (fun h2=>.no (show(!p.owner==[])=false from by have hh:(p.owner==[])=true:=h2;simp[hh])<|.ff<|.split (p.prio<(-1:Int)) (fun h3=>.yes (dT (p.prio<(-1:Int)) h3)<|.tt<|.tt<|.fin ((.ret (.int .i64 1),ag)) (by simp only[aJ];grind[bq,cz])) (fun h3=>.no (dF (p.prio<(-1:Int)) h3)<|.split ((1000000:Int)<p.prio) (fun h4=>.yes (dT ((1000000:Int)<p.prio) h4)<|.tt<|.fin ((.ret (.int .i64 1),ag)) (by simp only[aJ];grind[bq,cz])) (fun h4=>.no (dF ((1000000:Int)<p.prio) h4)<|.split ((if true=true then !p.hold==(p.prio==(-1:Int))else p.hold==(p.prio==(-1:Int)))=true) (fun h5=>.yes (show(if true=true then !p.hold==(p.prio==(-1:Int))else p.hold==(p.prio==(-1:Int)))=true from h5)<|.fin ((.ret (.int .i64 1),ag)) (by simp only[aJ];grind[bq,cz])) (fun h5=>.no (show(if true=true then !p.hold==(p.prio==(-1:Int))else p.hold==(p.prio==(-1:Int)))=false from Bool.eq_false_iff.2 h5)<|.aG ([.sl .sh (p.need.map ai)]) (.int .i64 c1) a1<|.split ((c1 !=(0:Int))=true) (fun h6=>.yes (show(c1 !=(0:Int))=true from h6)<|.fin ((.ret (.int .i64 c1),ag)) (by simp only[aJ];grind[bq,cz])) (fun h6=>.no (show(c1 !=(0:Int))=false from Bool.eq_false_iff.2 h6)<|.aG ([.sl .sh (p.labels.map aI)]) (.int .i64 c2) a2<|.split ((c2 !=(0:Int))=true) (fun h7=>.yes (show(c2 !=(0:Int))=true from h7)<|.fin ((.ret (.int .i64 c2),ag)) (by simp only[aJ];grind[bq,cz])) (fun h7=>.no (show(c2 !=(0:Int))=false from Bool.eq_false_iff.2 h7)<|.aG ([.sl .sh (p.bS.map aX)]) (.int .i64 c3) a3<|.split ((c3 !=(0:Int))=true) (fun h8=>.yes (show(c3 !=(0:Int))=true from h8)<|.fin ((.ret (.int .i64 c3),ag)) (by simp only[aJ];grind[bq,cz])) (fun h8=>.no (show(c3 !=(0:Int))=false from Bool.eq_false_iff.2 h8)<|.aG ([.sl .sh (p.bh.map aQ)]) (.int .i64 c4) a4<|.split ((c4 !=(0:Int))=true) (fun h9=>.yes (show(c4 !=(0:Int))=true from h9)<|.fin ((.ret (.int .i64 c4),ag)) (by simp only[aJ];grind[bq,cz])) (fun h9=>.no (show(c4 !=(0:Int))=false from Bool.eq_false_iff.2 h9)<|.split ((p.key==[])=true) (fun h10=>.no (show(!p.key==[])=false from by have hh:(p.key==[])=true:=h10;simp[hh])<|.ff<|.no (show(!p.key==[])=false from by have hh:(p.key==[])=true:=(by omega);simp[hh])<|.ff<|.yes (show(p.key==[])=true from(by omega))<|.split ((p.most !=(0:Int))=true) (fun h11=>.yes (show(p.most !=(0:Int))=true from h11)<|.fin ((.ret (.int .i64 1),ag)) (by simp_all+zetaDelta [aJ,bq,cz];omega)) (fun h11=>.no (show(p.most !=(0:Int))=false from Bool.eq_false_iff.2 h11)<|.split ((p.node==[])=true) (fun h12=>.no (show(!p.node==[])=false from by have hh:(p.node==[])=true:=h12;simp[hh])<|.ff<|.fin ((.ret (.int .i64 0),ag)) (by simp_all+zetaDelta [aJ,bq,cz];omega)) (fun h12=>.yes (show(!p.node==[])=true from by have hh:¬((p.node==[])=true):=h12;simp[hh])<|.aG ([.str p.node]) (.bool (isName p.node)) (show aq cfg 259 [.str p.node] (.bool (isName p.node))from cM _)<|.split (isName p.node=true) (fun Am=>.no (show(!isName p.node)=false from by have hh:isName p.node=true:=Am;simp[hh])<|.fin ((.ret (.int .i64 0),ag)) (by simp_all+zetaDelta [aJ,bq,cz];omega)) (fun Am=>.yes (show(!isName p.node)=true from by have hh:¬(isName p.node=true):=Am;simp[hh])<|.fin ((.ret (.int .i64 3),ag)) (by simp_all+zetaDelta [aJ,bq,cz];omega))))) (fun h10=>.yes (show(!p.key==[])=true from by have hh:¬((p.key==[])=true):=h10;simp[hh])<|.aG ([.str p.key]) (.bool (isName p.key)) (show aq cfg 259 [.str p.key] (.bool (isName p.key))from cM _)<|.split (isName p.key=true) (fun h11=>.no (show(!isName p.key)=false from by have hh:isName p.key=true:=h11;simp[hh])<|.yes (show(!p.key==[])=true from by have hh:¬((p.key==[])=true):=(by omega);simp[hh])<|.split (p.most<(1:Int)) (fun h12=>.yes (dT (p.most<(1:Int)) h12)<|.tt<|.tt<|.fin ((.ret (.int .i64 1),ag)) (by simp_all+zetaDelta [aJ,bq,cz];omega)) (fun h12=>.no (dF (p.most<(1:Int)) h12)<|.split ((128:Int)<p.most) (fun Am=>.yes (dT ((128:Int)<p.most) Am)<|.tt<|.fin ((.ret (.int .i64 1),ag)) (by simp_all+zetaDelta [aJ,bq,cz];omega)) (fun Am=>.no (dF ((128:Int)<p.most) Am)<|.no (show(p.key==[])=false from Bool.eq_false_iff.2 (by omega))<|.ff<|.split ((p.node==[])=true) (fun lJ=>.no (show(!p.node==[])=false from by have hh:(p.node==[])=true:=lJ;simp[hh])<|.ff<|.fin ((.ret (.int .i64 0),ag)) (by simp_all+zetaDelta [aJ,bq,cz];omega)) (fun lJ=>.yes (show(!p.node==[])=true from by have hh:¬((p.node==[])=true):=lJ;simp[hh])<|.aG ([.str p.node]) (.bool (isName p.node)) (show aq cfg 259 [.str p.node] (.bool (isName p.node))from cM _)<|.split (isName p.node=true) (fun Nw=>.no (show(!isName p.node)=false from by have hh:isName p.node=true:=Nw;simp[hh])<|.fin ((.ret (.int .i64 0),ag)) (by simp_all+zetaDelta [aJ,bq,cz];omega)) (fun Nw=>.yes (show(!isName p.node)=true from by have hh:¬(isName p.node=true):=Nw;simp[hh])<|.fin ((.ret (.int .i64 3),ag)) (by simp_all+zetaDelta [aJ,bq,cz];omega)))))) (fun h11=>.yes (show(!isName p.key)=true from by have hh:¬(isName p.key=true):=h11;simp[hh])<|.fin ((.ret (.int .i64 3),ag)) (by simp only[aJ];grind[bq,cz]))))))))))) (fun h2=>.yes (show(!p.owner==[])=true from by have hh:¬((p.owner==[])=true):=h2;simp[hh])<|.aG ([.str p.owner]) (.bool (isName p.owner)) (show aq cfg 259 [.str p.owner] (.bool (isName p.owner))from cM _)<|.split (isName p.owner=true) (fun h3=>.no (show(!isName p.owner)=false from by have hh:isName p.owner=true:=h3;simp[hh])<|.split (p.prio<(-1:Int)) (fun h4=>.yes (dT (p.prio<(-1:Int)) h4)<|.tt<|.tt<|.fin ((.ret (.int .i64 1),ag)) (by simp only[aJ];grind[bq,cz])) (fun h4=>.no (dF (p.prio<(-1:Int)) h4)<|.split ((1000000:Int)<p.prio) (fun h5=>.yes (dT ((1000000:Int)<p.prio) h5)<|.tt<|.fin ((.ret (.int .i64 1),ag)) (by simp only[aJ];grind[bq,cz])) (fun h5=>.no (dF ((1000000:Int)<p.prio) h5)<|.split ((if true=true then !p.hold==(p.prio==(-1:Int))else p.hold==(p.prio==(-1:Int)))=true) (fun h6=>.yes (show(if true=true then !p.hold==(p.prio==(-1:Int))else p.hold==(p.prio==(-1:Int)))=true from h6)<|.fin ((.ret (.int .i64 1),ag)) (by simp only[aJ];grind[bq,cz])) (fun h6=>.no (show(if true=true then !p.hold==(p.prio==(-1:Int))else p.hold==(p.prio==(-1:Int)))=false from Bool.eq_false_iff.2 h6)<|.aG ([.sl .sh (p.need.map ai)]) (.int .i64 c1) a1<|.split ((c1 !=(0:Int))=true) (fun h7=>.yes (show(c1 !=(0:Int))=true from h7)<|.fin ((.ret (.int .i64 c1),ag)) (by simp only[aJ];grind[bq,cz])) (fun h7=>.no (show(c1 !=(0:Int))=false from Bool.eq_false_iff.2 h7)<|.aG ([.sl .sh (p.labels.map aI)]) (.int .i64 c2) a2<|.split ((c2 !=(0:Int))=true) (fun h8=>.yes (show(c2 !=(0:Int))=true from h8)<|.fin ((.ret (.int .i64 c2),ag)) (by simp only[aJ];grind[bq,cz])) (fun h8=>.no (show(c2 !=(0:Int))=false from Bool.eq_false_iff.2 h8)<|.aG ([.sl .sh (p.bS.map aX)]) (.int .i64 c3) a3<|.split ((c3 !=(0:Int))=true) (fun h9=>.yes (show(c3 !=(0:Int))=true from h9)<|.fin ((.ret (.int .i64 c3),ag)) (by simp only[aJ];grind[bq,cz])) (fun h9=>.no (show(c3 !=(0:Int))=false from Bool.eq_false_iff.2 h9)<|.aG ([.sl .sh (p.bh.map aQ)]) (.int .i64 c4) a4<|.split ((c4 !=(0:Int))=true) (fun h10=>.yes (show(c4 !=(0:Int))=true from h10)<|.fin ((.ret (.int .i64 c4),ag)) (by simp only[aJ];grind[bq,cz])) (fun h10=>.no (show(c4 !=(0:Int))=false from Bool.eq_false_iff.2 h10)<|.split ((p.key==[])=true) (fun h11=>.no (show(!p.key==[])=false from by have hh:(p.key==[])=true:=h11;simp[hh])<|.ff<|.no (show(!p.key==[])=false from by have hh:(p.key==[])=true:=(by omega);simp[hh])<|.ff<|.yes (show(p.key==[])=true from(by omega))<|.split ((p.most !=(0:Int))=true) (fun h12=>.yes (show(p.most !=(0:Int))=true from h12)<|.fin ((.ret (.int .i64 1),ag)) (by simp_all+zetaDelta [aJ,bq,cz];omega)) (fun h12=>.no (show(p.most !=(0:Int))=false from Bool.eq_false_iff.2 h12)<|.split ((p.node==[])=true) (fun Am=>.no (show(!p.node==[])=false from by have hh:(p.node==[])=true:=Am;simp[hh])<|.ff<|.fin ((.ret (.int .i64 0),ag)) (by simp_all+zetaDelta [aJ,bq,cz];omega)) (fun Am=>.yes (show(!p.node==[])=true from by have hh:¬((p.node==[])=true):=Am;simp[hh])<|.aG ([.str p.node]) (.bool (isName p.node)) (show aq cfg 259 [.str p.node] (.bool (isName p.node))from cM _)<|.split (isName p.node=true) (fun lJ=>.no (show(!isName p.node)=false from by have hh:isName p.node=true:=lJ;simp[hh])<|.fin ((.ret (.int .i64 0),ag)) (by simp_all+zetaDelta [aJ,bq,cz];omega)) (fun lJ=>.yes (show(!isName p.node)=true from by have hh:¬(isName p.node=true):=lJ;simp[hh])<|.fin ((.ret (.int .i64 3),ag)) (by simp_all+zetaDelta [aJ,bq,cz];omega))))) (fun h11=>.yes (show(!p.key==[])=true from by have hh:¬((p.key==[])=true):=h11;simp[hh])<|.aG ([.str p.key]) (.bool (isName p.key)) (show aq cfg 259 [.str p.key] (.bool (isName p.key))from cM _)<|.split (isName p.key=true) (fun h12=>.no (show(!isName p.key)=false from by have hh:isName p.key=true:=h12;simp[hh])<|.yes (show(!p.key==[])=true from by have hh:¬((p.key==[])=true):=(by omega);simp[hh])<|.split (p.most<(1:Int)) (fun Am=>.yes (dT (p.most<(1:Int)) Am)<|.tt<|.tt<|.fin ((.ret (.int .i64 1),ag)) (by simp_all+zetaDelta [aJ,bq,cz];omega)) (fun Am=>.no (dF (p.most<(1:Int)) Am)<|.split ((128:Int)<p.most) (fun lJ=>.yes (dT ((128:Int)<p.most) lJ)<|.tt<|.fin ((.ret (.int .i64 1),ag)) (by simp_all+zetaDelta [aJ,bq,cz];omega)) (fun lJ=>.no (dF ((128:Int)<p.most) lJ)<|.no (show(p.key==[])=false from Bool.eq_false_iff.2 (by omega))<|.ff<|.split ((p.node==[])=true) (fun Nw=>.no (show(!p.node==[])=false from by have hh:(p.node==[])=true:=Nw;simp[hh])<|.ff<|.fin ((.ret (.int .i64 0),ag)) (by simp_all+zetaDelta [aJ,bq,cz];omega)) (fun Nw=>.yes (show(!p.node==[])=true from by have hh:¬((p.node==[])=true):=Nw;simp[hh])<|.aG ([.str p.node]) (.bool (isName p.node)) (show aq cfg 259 [.str p.node] (.bool (isName p.node))from cM _)<|.split (isName p.node=true) (fun Vd=>.no (show(!isName p.node)=false from by have hh:isName p.node=true:=Vd;simp[hh])<|.fin ((.ret (.int .i64 0),ag)) (by simp_all+zetaDelta [aJ,bq,cz];omega)) (fun Vd=>.yes (show(!isName p.node)=true from by have hh:¬(isName p.node=true):=Vd;simp[hh])<|.fin ((.ret (.int .i64 3),ag)) (by simp_all+zetaDelta [aJ,bq,cz];omega)))))) (fun h12=>.yes (show(!isName p.key)=true from by have hh:¬(isName p.key=true):=h12;simp[hh])<|.fin ((.ret (.int .i64 3),ag)) (by simp only[aJ];grind[bq,cz]))))))))))) (fun h3=>.yes (show(!isName p.owner)=true from by have hh:¬(isName p.owner=true):=h3;simp[hh])<|.fin ((.ret (.int .i64 3),ag)) (by simp only[aJ];grind[bq,cz])))) (fun h1=>.yes (show(!isName p.name)=true from by have hh:¬(isName p.name=true):=h1;simp[hh])<|.tt<|.fin ((.ret (.int .i64 3),ag)) (by simp only[aJ];grind[bq,cz])))
theorem rG(l:List cT)(hn:l.length≤128):∀(post:List cT)(i:Nat)(hd:l.drop i=post)(T:Env)(hT:Has T [(0,.sl .sh (l.map af)),(3,.int .i64 i)]),
 bA cfg a119 uN T Heap.nil (aJ (.int .i64 (oE pK cT.name l i post))):=by
 intro post
 induction post with
 |nil=>
  intro i hd T hT
  have hge:=bf hd
  exact gG 60 _ hT (.len (lM .sh af l)<|.no (dF ((↑i:Int)<(↑l.length:Int)))<|.fin ((.ret (.int .i64 0),{boxes:=[],toks:=[],loops:=[]:Heap})) rfl)
 |cons x post ih=>
  intro i hd T hT
  have hlt:=bg hd
  have cq:=aL hd
  have hc:=GP x
  have e:oE pK cT.name l i (x::post)=if pK x=0 then(if ku cT.name l i x then 13 else oE pK cT.name l (i+1) post)else pK x:=rfl
  rw[e]
  generalize pK x=c at hc⊢
  cases i with
  |zero=>exact let ag:Heap:={boxes:=[],toks:=[],loops:=[]:Heap};gG 60 _ hT (.len (lM .sh af l)<|.yes (dT ((↑(0:Nat):Int)<(↑l.length:Int)))<|.idx (show cc 11 (.sl .sh (l.map af)) (.int .i64 (↑(0:Nat):Int))=some (.ref (af x).cells)from bx hd (by rfl))<|.aG ([.agg [.str x.name,.str x.owner,.int .i64 x.prio,.sl .sh (x.need.map ai),.sl .sh (x.labels.map aI),.sl .sh (x.bS.map aX),.sl .sh (x.bh.map aQ),.str x.key,.int .i64 x.most,.str x.node,.bool x.hold]]) (.int .i64 c) hc<|.split ((c !=(0:Int))=true) (fun h1=>.yes (show(c !=(0:Int))=true from h1)<|.fin ((.ret (.int .i64 c),ag)) (by simp only[aJ];grind[ku])) (fun h1=>.no (show(c !=(0:Int))=false from Bool.eq_false_iff.2 h1)<|.ff<|.ff<|.bin (show cG .add (.int .i64 (↑(0:Nat):Int)) (.int .i64 1)=some (.int .i64 (↑(0+1):Int))from fK (by omega))<|.aT uN [(0,.sl .sh (l.map af)),(3,.int .i64 (↑(0+1):Int))] (ag) (fun T hT=>(ih (0+1) cq T hT).to (by grind[ku]))))
  |succ j=>
   obtain⟨p,hp⟩:∃p,l[j]?=some p:=⟨l[j],List.getElem?_eq_getElem (by omega)⟩
   exact let ag:Heap:={boxes:=[],toks:=[],loops:=[]:Heap};gG 60 _ hT (.len (lM .sh af l)<|.yes (dT ((↑(j+1):Int)<(↑l.length:Int)))<|.idx (show cc 11 (.sl .sh (l.map af)) (.int .i64 (↑(j+1):Int))=some (.ref (af x).cells)from bx hd (by rfl))<|.aG ([.agg [.str x.name,.str x.owner,.int .i64 x.prio,.sl .sh (x.need.map ai),.sl .sh (x.labels.map aI),.sl .sh (x.bS.map aX),.sl .sh (x.bh.map aQ),.str x.key,.int .i64 x.most,.str x.node,.bool x.hold]]) (.int .i64 c) hc<|.split ((c !=(0:Int))=true) (fun h1=>.yes (show(c !=(0:Int))=true from h1)<|.fin ((.ret (.int .i64 c),ag)) (by simp only[aJ];grind[ku])) (fun h1=>.no (show(c !=(0:Int))=false from Bool.eq_false_iff.2 h1)<|.yes (dT ((0:Int)<(↑(j+1):Int)))<|.idx (show cc 11 (.sl .sh (l.map af)) (.int .i64 (↑(j+1):Int))=some (.ref (af x).cells)from bx hd (by rfl))<|.bin (show cG .sub (.int .i64 (↑(j+1):Int)) (.int .i64 1)=some (.int .i64 ↑j)from pg (by omega))<|.idx (show cc 11 (.sl .sh (l.map af)) (.int .i64 ↑j)=some (.ref (af p).cells)from fN hp (by rfl))<|.split ((Op.bytesLess x.name p.name||x.name==p.name)=true) (fun h2=>.yes (show(Op.bytesLess x.name p.name||x.name==p.name)=true from h2)<|.fin ((.ret (.int .i64 13),ag)) (by simp only[aJ];grind[ku])) (fun h2=>.no (show(Op.bytesLess x.name p.name||x.name==p.name)=false from Bool.eq_false_iff.2 h2)<|.bin (show cG .add (.int .i64 (↑(j+1):Int)) (.int .i64 1)=some (.int .i64 (↑(j+1+1):Int))from fK (by omega))<|.aT uN [(0,.sl .sh (l.map af)),(3,.int .i64 (↑(j+1+1):Int))] (ag) (fun T hT=>(ih (j+1+1) cq T hT).to (by grind[ku])))))
theorem C2(l:List cT):aq cfg 119 [.sl .sh (l.map af)] (.int .i64 (fB 128 pK cT.name l)):=by
 refine aq.run (TM _ _) ?_
 have h:=fun hn=>rG l hn l 0 rfl
 exact let ag:Heap:={boxes:=[],toks:=[],loops:=[]:Heap};gG 60 [] trivial (.len (lM .sh af l)<|.split ((128:Int)<(↑l.length:Int)) (fun h1=>.yes (dT ((128:Int)<(↑l.length:Int)) h1)<|.fin ((.ret (.int .i64 4),ag)) (by simp only[aJ];grind[fB])) (fun h1=>.no (dF ((128:Int)<(↑l.length:Int)) h1)<|.aT uN [(0,.sl .sh (l.map af)),(3,.int .i64 0)] (ag) (fun T hT=>(h (by omega) T hT).to (by grind[fB]))))
end Go.Aa.T
namespace Go.Aa.T
open Go.Aa Go.Proofs
structure mo where
 name:List UInt8
 bS:List Term
 floor:Int
def aP(b:mo):AV:=.agg [.str b.name,.sl .sh (b.bS.map aX),.int .i64 b.floor]
instance(n:mo):qO (aP n):=⟨rfl,rfl⟩
def lK(b:mo):Bool:=decide (b.name.length≤50)&&jQ b.bS
def mq(l:List mo):Bool:=decide (l.length≤20)&&l.all lK
theorem C3{l:List mo}(h:mq l=true):l.length≤20:=by
 simp only[mq,Bool.and_eq_true,decide_eq_true_eq]at h;exact h.1
theorem C4{l:List mo}(h:mq l=true):∀x∈l,lK x=true:=by
 simp only[mq,Bool.and_eq_true,decide_eq_true_eq,List.all_eq_true]at h;exact h.2
theorem C5{b:mo}(h:lK b=true):b.bS.length≤20:=by
 simp only[lK,Bool.and_eq_true,decide_eq_true_eq]at h;exact xx h.2
theorem An(l:List mo)(hn:l.length≤20):∀(post:List mo)(i:Nat)(hd:l.drop i=post)(T:Env)(hT:Has T [(0,.sl .sh (l.map aP)),(3,.int .i64 i)]),
 bA cfg IK zA T Heap.nil (aJ (.bool (post.all lK))):=by
 intro post
 induction post with
 |nil=>
  intro i hd T hT
  have hge:=bf hd
  exact gG 60 _ hT (.len (lM .sh aP l)<|.no (dF ((↑i:Int)<(↑l.length:Int)))<|.fin ((.ret (.bool true),{boxes:=[],toks:=[],loops:=[]:Heap})) rfl)
 |cons x post ih=>
  intro i hd T hT
  have hlt:=bg hd
  have cq:=aL hd
  exact let ag:Heap:={boxes:=[],toks:=[],loops:=[]:Heap};gG 60 _ hT (.len (lM .sh aP l)<|.yes (dT ((↑i:Int)<(↑l.length:Int)))<|.idx (iR 3 aP hd)<|.len (show dA true (.str x.name)=some (.int .i64 (↑x.name.length))from dw _)<|.split ((50:Int)<(↑x.name.length:Int)) (fun h1=>.yes (dT ((50:Int)<(↑x.name.length:Int)) h1)<|.tt<|.fin ((.ret (.bool false),ag)) (by simp only[aJ];grind[lK])) (fun h1=>.no (dF ((50:Int)<(↑x.name.length:Int)) h1)<|.idx (iR 3 aP hd)<|.aG ([.sl .sh (x.bS.map aX)]) (.bool (jQ x.bS)) (show aq cfg 202 [.sl .sh (x.bS.map aX)] (.bool (jQ x.bS))from xz _)<|.split (jQ x.bS=true) (fun h2=>.no (show(!jQ x.bS)=false from by have hh:jQ x.bS=true:=h2;simp[hh])<|.bin (iI i)<|.aT zA [(0,.sl .sh (l.map aP)),(3,.int .i64 (↑(i+1)))] (ag) (fun T hT=>(ih (i+1) cq T hT).to (by grind[lK]))) (fun h2=>.yes (show(!jQ x.bS)=true from by have hh:¬(jQ x.bS=true):=h2;simp[hh])<|.fin ((.ret (.bool false),ag)) (by simp only[aJ];grind[lK]))))
theorem C6(l:List mo):aq cfg 115 [.sl .sh (l.map aP)] (.bool (mq l)):=by
 refine aq.run (TI _ _) ?_
 have h:=fun hn=>An l hn l 0 rfl
 exact let ag:Heap:={boxes:=[],toks:=[],loops:=[]:Heap};gG 60 [] trivial (.len (lM .sh aP l)<|.split ((20:Int)<(↑l.length:Int)) (fun h1=>.yes (dT ((20:Int)<(↑l.length:Int)) h1)<|.fin ((.ret (.bool false),ag)) (by simp only[aJ];grind[mq])) (fun h1=>.no (dF ((20:Int)<(↑l.length:Int)) h1)<|.aT zA [(0,.sl .sh (l.map aP)),(3,.int .i64 0)] (ag) (fun T hT=>(h (by omega) T hT).to (by grind[mq]))))
theorem Ve(b:mo)(m1:b.bS.length≤20):aq cfg 125 [aP b] (aP b):=by
 refine aq.run (TS _ _) ?_
 exact let ag:List AV:=[.str b.name,.sl .sh (b.bS.map aX),.int .i64 b.floor];gG 80 [] trivial (.bE ([.sl .sh (b.bS.map aX)]) (.sl .sh (b.bS.map aX)) (show aq cfg 198 [.sl .sh (b.bS.map aX)] (aZ Heap.nil (b.bS.map aX))from Bl _ m1) ⟨rfl,rfl⟩ fe.p<|.fin ((.ret (.agg ag),{boxes:=[ag,ag],toks:=[],loops:=[]:Heap})) rfl)
theorem JL(b:mo)(h:lK b=true):aq cfg 125 [aP b] (aP b):=Ve b (C5 h)
theorem C7(l:List mo)(hn:l.length≤20)(hf:∀x∈l,lK x=true):∀(post:List mo)(i:Nat)(acc:List AV)(hd:l.drop i=post)(ha:acc.length=i)(hl:cE 3 acc=true)(T:Env)(hT:Has T [(0,.sl .sh (l.map aP)),(3,aZ Heap.nil acc),(4,.int .i64 i)]),
 bA cfg Sn Gc T (cu Heap.nil acc) (aJ (aZ Heap.nil (acc++post.map aP))):=by
 intro post
 induction post with
 |nil=>
  intro i acc hd ha hl T hT
  have hge:=bf hd
  exact gG 60 _ hT (.len (lM .sh aP l)<|.no (dF ((↑i:Int)<(↑l.length:Int)))<|.fin ((.ret (aU (aU (aU (aU (aU (aU (bJ T [(0,.sl .sh (l.map aP)),(3,aZ Heap.nil acc),(4,.int .i64 ↑i)]) (some 5) (ev (bJ T [(0,.sl .sh (l.map aP)),(3,aZ Heap.nil acc),(4,.int .i64 ↑i)]) (.t 4))) (some 6) (ev (aU (bJ T [(0,.sl .sh (l.map aP)),(3,aZ Heap.nil acc),(4,.int .i64 ↑i)]) (some 5) (ev (bJ T [(0,.sl .sh (l.map aP)),(3,aZ Heap.nil acc),(4,.int .i64 ↑i)]) (.t 4))) (.t 0))) (some 7) (.int .i64 (↑l.length))) (some 8) (.bool (decide ((↑i:Int)<(↑l.length:Int))))) (some 19) (ev (aU (aU (aU (aU (bJ T [(0,.sl .sh (l.map aP)),(3,aZ Heap.nil acc),(4,.int .i64 ↑i)]) (some 5) (ev (bJ T [(0,.sl .sh (l.map aP)),(3,aZ Heap.nil acc),(4,.int .i64 ↑i)]) (.t 4))) (some 6) (ev (aU (bJ T [(0,.sl .sh (l.map aP)),(3,aZ Heap.nil acc),(4,.int .i64 ↑i)]) (some 5) (ev (bJ T [(0,.sl .sh (l.map aP)),(3,aZ Heap.nil acc),(4,.int .i64 ↑i)]) (.t 4))) (.t 0))) (some 7) (.int .i64 (↑l.length))) (some 8) (.bool (decide ((↑i:Int)<(↑l.length:Int))))) (.t 3))) (some 2) (ev (aU (aU (aU (aU (aU (bJ T [(0,.sl .sh (l.map aP)),(3,aZ Heap.nil acc),(4,.int .i64 ↑i)]) (some 5) (ev (bJ T [(0,.sl .sh (l.map aP)),(3,aZ Heap.nil acc),(4,.int .i64 ↑i)]) (.t 4))) (some 6) (ev (aU (bJ T [(0,.sl .sh (l.map aP)),(3,aZ Heap.nil acc),(4,.int .i64 ↑i)]) (some 5) (ev (bJ T [(0,.sl .sh (l.map aP)),(3,aZ Heap.nil acc),(4,.int .i64 ↑i)]) (.t 4))) (.t 0))) (some 7) (.int .i64 (↑l.length))) (some 8) (.bool (decide ((↑i:Int)<(↑l.length:Int))))) (some 19) (ev (aU (aU (aU (aU (bJ T [(0,.sl .sh (l.map aP)),(3,aZ Heap.nil acc),(4,.int .i64 ↑i)]) (some 5) (ev (bJ T [(0,.sl .sh (l.map aP)),(3,aZ Heap.nil acc),(4,.int .i64 ↑i)]) (.t 4))) (some 6) (ev (aU (bJ T [(0,.sl .sh (l.map aP)),(3,aZ Heap.nil acc),(4,.int .i64 ↑i)]) (some 5) (ev (bJ T [(0,.sl .sh (l.map aP)),(3,aZ Heap.nil acc),(4,.int .i64 ↑i)]) (.t 4))) (.t 0))) (some 7) (.int .i64 (↑l.length))) (some 8) (.bool (decide ((↑i:Int)<(↑l.length:Int))))) (.t 3))) (.t 19)) 2),cu Heap.nil acc)) (by simp only[aJ,List.map_nil,List.append_nil];rfl))
 |cons x post ih=>
  intro i acc hd ha hl T hT
  have hlt:=bg hd
  have cq:=aL hd
  have hx:=hf x (eo hd)
  exact gG 60 _ hT (.len (lM .sh aP l)<|.yes (dT ((↑i:Int)<(↑l.length:Int)) (by simp;omega))<|.idx (iR 3 aP hd)<|.load (rfl:ak true 3 (cu Heap.nil acc) (.ref [.str x.name,.sl .sh (x.bS.map aX),.int .i64 x.floor])=some (.agg [.str x.name,.sl .sh (x.bS.map aX),.int .i64 x.floor]))<|.aG ([.agg [.str x.name,.sl .sh (x.bS.map aX),.int .i64 x.floor]]) (.agg [.str x.name,.sl .sh (x.bS.map aX),.int .i64 x.floor]) (show aq cfg 125 [aP x] (aP x)from JL _ hx)<|.append (show bw 3 48 (cu Heap.nil acc) (aZ Heap.nil acc) (.sl .full [.agg [.str x.name,.sl .sh (x.bS.map aX),.int .i64 x.floor]])=some ((aZ Heap.nil (acc++[AV.agg [.str x.name,.sl .sh (x.bS.map aX),.int .i64 x.floor]]),cu Heap.nil (acc++[AV.agg [.str x.name,.sl .sh (x.bS.map aX),.int .i64 x.floor]])))from eF (by omega) hl (by rfl) (by rfl))<|.bin (iI i)<|.aT Gc [(0,.sl .sh (l.map aP)),(3,aZ Heap.nil (acc++[AV.agg [.str x.name,.sl .sh (x.bS.map aX),.int .i64 x.floor]])),(4,.int .i64 (↑(i+1)))] (cu Heap.nil (acc++[AV.agg [.str x.name,.sl .sh (x.bS.map aX),.int .i64 x.floor]])) (fun T hT=>(ih (i+1) (acc++[AV.agg [.str x.name,.sl .sh (x.bS.map aX),.int .i64 x.floor]]) cq (by simp;omega) (by exact e9 (by assumption) rfl) T hT).to (by simp[aP])))
theorem GQ(l:List mo)(hn:l.length≤20)(hf:∀x∈l,lK x=true):aq cfg 54 [.sl .sh (l.map aP)] (aZ Heap.nil (l.map aP)):=by
 refine aq.run (X8 _ _) ?_
 have h:=C7 l hn hf l 0 [] rfl rfl rfl
 exact gG 60 [] trivial (.aT Gc [(0,.sl .sh (l.map aP)),(3,.sl .full []),(4,.int .i64 0)] ({boxes:=[],toks:=[],loops:=[]:Heap}) (fun T hT=>(h T hT)))
def mW(n:Int):Int:=if n<0 then 1 else if 128<n then 1 else 0
def DS(b:mo):Int:=bq [if isName b.name then 0 else 3,Ij b.bS,mW b.floor]
theorem JM(b:mo):aq cfg 209 [aP b] (.int .i64 (DS b)):=by
 refine aq.run (Ux _ _) ?_
 have e:DS b=bq [if isName b.name then 0 else 3,Ij b.bS,mW b.floor]:=rfl
 rw[e]
 have a1:=Bo b.bS
 generalize Ij b.bS=c at a1⊢
 exact let ag:Heap:={boxes:=[[.str b.name,.sl .sh (b.bS.map aX),.int .i64 b.floor]],toks:=[],loops:=[]:Heap};gG 90 [] trivial (.aG ([.str b.name]) (.bool (isName b.name)) (show aq cfg 259 [.str b.name] (.bool (isName b.name))from cM _)<|.split (isName b.name=true) (fun h1=>.no (show(!isName b.name)=false from by have hh:isName b.name=true:=h1;simp[hh])<|.aG ([.sl .sh (b.bS.map aX)]) (.int .i64 c) a1<|.split ((c !=(0:Int))=true) (fun h2=>.yes (show(c !=(0:Int))=true from h2)<|.fin ((.ret (.int .i64 c),ag)) (by simp only[aJ];grind[bq,mW])) (fun h2=>.no (show(c !=(0:Int))=false from Bool.eq_false_iff.2 h2)<|.split (b.floor<(0:Int)) (fun h3=>.yes (dT (b.floor<(0:Int)) h3)<|.tt<|.fin ((.ret (.int .i64 1),ag)) (by simp only[aJ];grind[bq,mW])) (fun h3=>.no (dF (b.floor<(0:Int)) h3)<|.split ((128:Int)<b.floor) (fun h4=>.yes (dT ((128:Int)<b.floor) h4)<|.fin ((.ret (.int .i64 1),ag)) (by simp only[aJ];grind[bq,mW])) (fun h4=>.no (dF ((128:Int)<b.floor) h4)<|.fin ((.ret (.int .i64 0),ag)) (by simp only[aJ];grind[bq,mW]))))) (fun h1=>.yes (show(!isName b.name)=true from by have hh:¬(isName b.name=true):=h1;simp[hh])<|.fin ((.ret (.int .i64 3),ag)) (by simp only[aJ];grind[bq,mW])))
theorem sE(l:List mo)(hn:l.length≤8):∀(post:List mo)(i:Nat)(hd:l.drop i=post)(T:Env)(hT:Has T [(0,.sl .sh (l.map aP)),(3,.int .i64 i)]),
 bA cfg IM uO T Heap.nil (aJ (.int .i64 (oE DS mo.name l i post))):=by
 intro post
 induction post with
 |nil=>
  intro i hd T hT
  have hge:=bf hd
  exact gG 60 _ hT (.len (lM .sh aP l)<|.no (dF ((↑i:Int)<(↑l.length:Int)))<|.fin ((.ret (.int .i64 0),{boxes:=[],toks:=[],loops:=[]:Heap})) rfl)
 |cons x post ih=>
  intro i hd T hT
  have hlt:=bg hd
  have cq:=aL hd
  have hc:=JM x
  have e:oE DS mo.name l i (x::post)=if DS x=0 then(if ku mo.name l i x then 13 else oE DS mo.name l (i+1) post)else DS x:=rfl
  rw[e]
  generalize DS x=c at hc⊢
  cases i with
  |zero=>exact let ag:Heap:={boxes:=[],toks:=[],loops:=[]:Heap};gG 60 _ hT (.len (lM .sh aP l)<|.yes (dT ((↑(0:Nat):Int)<(↑l.length:Int)))<|.idx (show cc 3 (.sl .sh (l.map aP)) (.int .i64 (↑(0:Nat):Int))=some (.ref (aP x).cells)from bx hd (by rfl))<|.aG ([.agg [.str x.name,.sl .sh (x.bS.map aX),.int .i64 x.floor]]) (.int .i64 c) hc<|.split ((c !=(0:Int))=true) (fun h1=>.yes (show(c !=(0:Int))=true from h1)<|.fin ((.ret (.int .i64 c),ag)) (by simp only[aJ];grind[ku])) (fun h1=>.no (show(c !=(0:Int))=false from Bool.eq_false_iff.2 h1)<|.ff<|.ff<|.bin (show cG .add (.int .i64 (↑(0:Nat):Int)) (.int .i64 1)=some (.int .i64 (↑(0+1):Int))from fK (by omega))<|.aT uO [(0,.sl .sh (l.map aP)),(3,.int .i64 (↑(0+1):Int))] (ag) (fun T hT=>(ih (0+1) cq T hT).to (by grind[ku]))))
  |succ j=>
   obtain⟨p,hp⟩:∃p,l[j]?=some p:=⟨l[j],List.getElem?_eq_getElem (by omega)⟩
   exact let ag:Heap:={boxes:=[],toks:=[],loops:=[]:Heap};gG 60 _ hT (.len (lM .sh aP l)<|.yes (dT ((↑(j+1):Int)<(↑l.length:Int)))<|.idx (show cc 3 (.sl .sh (l.map aP)) (.int .i64 (↑(j+1):Int))=some (.ref (aP x).cells)from bx hd (by rfl))<|.aG ([.agg [.str x.name,.sl .sh (x.bS.map aX),.int .i64 x.floor]]) (.int .i64 c) hc<|.split ((c !=(0:Int))=true) (fun h1=>.yes (show(c !=(0:Int))=true from h1)<|.fin ((.ret (.int .i64 c),ag)) (by simp only[aJ];grind[ku])) (fun h1=>.no (show(c !=(0:Int))=false from Bool.eq_false_iff.2 h1)<|.yes (dT ((0:Int)<(↑(j+1):Int)))<|.idx (show cc 3 (.sl .sh (l.map aP)) (.int .i64 (↑(j+1):Int))=some (.ref (aP x).cells)from bx hd (by rfl))<|.bin (show cG .sub (.int .i64 (↑(j+1):Int)) (.int .i64 1)=some (.int .i64 ↑j)from pg (by omega))<|.idx (show cc 3 (.sl .sh (l.map aP)) (.int .i64 ↑j)=some (.ref (aP p).cells)from fN hp (by rfl))<|.split ((Op.bytesLess x.name p.name||x.name==p.name)=true) (fun h2=>.yes (show(Op.bytesLess x.name p.name||x.name==p.name)=true from h2)<|.fin ((.ret (.int .i64 13),ag)) (by simp only[aJ];grind[ku])) (fun h2=>.no (show(Op.bytesLess x.name p.name||x.name==p.name)=false from Bool.eq_false_iff.2 h2)<|.bin (show cG .add (.int .i64 (↑(j+1):Int)) (.int .i64 1)=some (.int .i64 (↑(j+1+1):Int))from fK (by omega))<|.aT uO [(0,.sl .sh (l.map aP)),(3,.int .i64 (↑(j+1+1):Int))] (ag) (fun T hT=>(ih (j+1+1) cq T hT).to (by grind[ku])))))
theorem GR(l:List mo):aq cfg 120 [.sl .sh (l.map aP)] (.int .i64 (fB 8 DS mo.name l)):=by
 refine aq.run (TN _ _) ?_
 have h:=fun hn=>sE l hn l 0 rfl
 exact let ag:Heap:={boxes:=[],toks:=[],loops:=[]:Heap};gG 60 [] trivial (.len (lM .sh aP l)<|.split ((8:Int)<(↑l.length:Int)) (fun h1=>.yes (dT ((8:Int)<(↑l.length:Int)) h1)<|.fin ((.ret (.int .i64 4),ag)) (by simp only[aJ];grind[fB])) (fun h1=>.no (dF ((8:Int)<(↑l.length:Int)) h1)<|.aT uO [(0,.sl .sh (l.map aP)),(3,.int .i64 0)] (ag) (fun T hT=>(h (by omega) T hT).to (by grind[fB]))))
end Go.Aa.T
namespace Go.Aa.T
open Go.Aa Go.Proofs
structure tT(v:List aH):Prop where
 len:v.length≤8
 name:∀x∈v,isName x.name=true
 pos:∀x∈v,0<x.n
 C8:gr (fG v)
theorem Bt{s:List aH}:∀{post:List aH}{i:Nat},jl s i post=0→s.drop i=post→(∀x∈post,isName x.name=true∧0<x.n)∧gr (fG post)∧∀j p,i=j+1→s[j]?=some p→gr (p.name::fG post)
 |[],i,h,hd=>⟨by simp,by simp[gr],fun j p _ _=>by simp[gr]⟩
 |x::post,i,h,hd=>by
  unfold jl at h
  split at h
  ·rename_i hn
   split at h
   ·cases h
   ·rename_i hp
    split at h
    ·cases h
    ·rename_i ho
     obtain⟨h1,h2,h3⟩:=Bt h (aL hd)
     have h4:=h3 i x rfl (drop_at hd)
     refine⟨fun y hy=> ?_,h4,fun j p hj hp'=> ?_⟩
     ·rcases List.mem_cons.1 hy with rfl|hy
      ·exact⟨hn,by omega⟩
      ·exact h1 y hy
     ·subst hj
      simp only[kT,hp',Bool.not_eq_true]at ho
      have h5:=vj ho
      refine List.Pairwise.cons (fun z hz=> ?_) h4
      rcases List.mem_cons.1 hz with rfl|hz
      ·exact h5
      ·exact jf h5 (List.rel_of_pairwise_cons h4 hz)
  ·cases h
theorem SH{v:List aH}(h:gW v=0):tT v:=by
 unfold gW at h
 split at h
 ·rename_i hl
  obtain⟨h1,h2,-⟩:=Bt h rfl
  exact⟨hl,fun x hx=>(h1 x hx).1,fun x hx=>(h1 x hx).2,h2⟩
 ·cases h
theorem Bu{s:List aH}:∀{post:List aH}{i:Nat},s.drop i=post→(∀x∈s,isName x.name=true)→(∀x∈s,0<x.n)→gr (fG s)→jl s i post=0
 |[],i,hd,_,_,_=>rfl
 |x::post,i,hd,h1,h2,h3=>by
  have hx:=eo hd
  have ih:=Bu (aL hd) h1 h2 h3
  have hp:=h2 x hx
  have ho:kT s i x=false:=by
   cases i with
   |zero=>rfl
   |succ j=>
    have hlt:=bg hd
    have hj:s[j]?=some (s[j]'(by omega)):=List.getElem?_eq_getElem _
    simp only[kT,hj]
    have h4:=List.pairwise_iff_getElem.1 h3 j (j+1) (by simp;omega) (by simp;omega) (by omega)
    simp only[List.getElem_map]at h4
    have e:s[j+1]=x:=by
     have:=drop_at hd
     rw[List.getElem?_eq_getElem hlt]at this
     exact Option.some.inj this
    rw[e]at h4
    exact JK h4
  unfold jl
  rw[if_pos (h1 x hx),if_neg (by omega),ho,if_neg (by simp)]
  exact ih
theorem GS{v:List aH}(h:tT v):gW v=0:=by
 unfold gW
 rw[if_pos h.len]
 exact Bu rfl h.name h.pos h.C8
theorem jU{v:List aH}{s:List UInt8}(h:s∉fG v):bT v s=0:=by
 unfold bT
 have:v.find? (fun x=>x.name==s)=none:=by
  rw[List.find?_eq_none]
  intro x hx e
  exact h (List.mem_map.2 ⟨x,hx,by simpa using e⟩)
 rw[this]
theorem tU{v:List aH}{s:List UInt8}(h:s∈fG v):∃x∈v,x.name=s∧bT v s=x.n:=by
 unfold bT
 cases hf:v.find? (fun x=>x.name==s)with
 |none=>
  obtain⟨x,hx,rfl⟩:=List.mem_map.1 h
  have:=List.find?_eq_none.1 hf x hx
  simp at this
 |some x=>exact⟨x,List.mem_of_find?_eq_some hf,by simpa using List.find?_some hf,rfl⟩
theorem rH{v:List aH}(h:tT v){s:List UInt8}(hs:s∈fG v):0<bT v s:=by
 obtain⟨x,hx,-,e⟩:=tU hs
 rw[e];exact h.pos x hx
theorem Bv{v:List aH}(h:tT v)(s:List UInt8):0≤bT v s:=by
 by_cases hs:s∈fG v
 ·have:=rH h hs;omega
 ·rw[jU hs];exact Int.le_refl _
def rI(g:DR):List (List UInt8)→List aH→List aH×Int
 |[],acc=>(acc,0)
 |s::r,acc=>if(g s).2=0 then rI g r (acc++[⟨s,(g s).1⟩])else([],(g s).2)
theorem xM(g:DR):∀(l:List (List UInt8))(acc:List aH),(∀s∈l,(g s).2=0→0<(g s).1)→rI g l acc=fM g l acc
 |[],acc,_=>rfl
 |s::r,acc,h=>by
  unfold rI fM
  split
  ·rename_i h0
   rw[if_pos (h s (by simp) h0)]
   exact xM g r _ fun t ht=>h t (by simp[ht])
  ·rfl
theorem GU(a b:List aH):aq cfg 265 [.sl .sh (a.map ai),.sl .sh (b.map ai)] (.int .i64 (bq [gW a,gW b])):=by
 refine aq.run (U0 _ _) ?_
 have h1:=pS a
 have h2:=pS b
 generalize gW a=p at h1⊢
 generalize gW b=q at h2⊢
 by_cases h0:p=0
 ·have e:bq [p,q]=q:=by simp only[bq,h0,if_true];split<;>simp_all
  rw[e]
  exact gG 60 [] trivial (.aG ([.sl .sh (a.map ai)]) (.int .i64 p) h1<|.no (show(p !=(0:Int))=false from Bool.eq_false_iff.2 (by simpa using h0))<|.aG ([.sl .sh (b.map ai)]) (.int .i64 q) h2<|.fin ((.ret (.int .i64 q),{boxes:=[],toks:=[],loops:=[]:Heap})) rfl)
 ·have e:bq [p,q]=p:=by simp[bq,h0]
  rw[e]
  exact gG 60 [] trivial (.aG ([.sl .sh (a.map ai)]) (.int .i64 p) h1<|.yes (show(p !=(0:Int))=true from(by simpa using h0))<|.fin ((.ret (.int .i64 p),{boxes:=[],toks:=[],loops:=[]:Heap})) rfl)
theorem GV(l:List aH)(hl:l.length≤8):aq cfg 268 [.sl .sh (l.map ai)] (.tuple [.sl .sh (l.map ai),.int .i64 0]):=by
 refine aq.run (QT _ _) ?_
 exact gG 60 [] trivial (.len (lM .sh ai l)<|.no (dF ((8:Int)<(↑l.length:Int)))<|.fin ((.ret (.tuple [.sl .sh (l.map ai),.int .i64 0]),{boxes:=[],toks:=[],loops:=[]:Heap})) rfl)
theorem Ao(l:List aH)(hl:8<l.length):aq cfg 268 [.sl .sh (l.map ai)] (.tuple [.sl .full [],.int .i64 4]):=by
 refine aq.run (QT _ _) ?_
 exact gG 60 [] trivial (.len (lM .sh ai l)<|.yes (dT ((8:Int)<(↑l.length:Int)))<|.fin ((.ret (.tuple [.sl .full [],.int .i64 4]),{boxes:=[],toks:=[],loops:=[]:Heap})) rfl)
def kq:Bool→SK
 |true=>.sh
 |false=>.full
instance(c:Bool)(l:List AV):mO (.sl (kq c) l) (.sl .sh l):=⟨by cases c<;>exact⟨rfl,rfl⟩⟩
def xN(c:Bool)(p:List aH×Int):AV:=.tuple [.sl (kq c) (p.1.map ai),.int .i64 p.2]
instance(c:Bool)(p:List aH×Int):fe (xN c p) (.tuple [.sl .sh (p.1.map ai),.int .i64 p.2]):=⟨by
 cases c<;>exact⟨rfl,rfl⟩⟩
def Vf(c:Bool)(l:List aH)(e:Int):AV:=.tuple [.sl (kq c) (l.map ai),.int .i64 e]
instance(c:Bool)(l:List aH)(e:Int):fe (Vf c l e) (.tuple [.sl .sh (l.map ai),.int .i64 e]):=⟨by
 cases c<;>exact⟨rfl,rfl⟩⟩
def xO(p:List aH×Int)(r:cZ×Heap):Prop:=∃c,aJ (xN c p) r
theorem xO.GX{g:FuncId}{xs:List AV}{p:List aH×Int}{A:aO}{k:List c7}{T:Env}(e:lim cfg (.fn g) xs Heap.nil=bp cfg A k T Heap.nil)(h:bA cfg A k T Heap.nil (xO p)):∃c,aq cfg g xs (xN c p):=by
 obtain⟨r,h1,c,h2⟩:=h
 exact⟨c,aq.run e ⟨r,h1,h2⟩⟩
theorem Nx(e:Int)(h:e≠0):iH ([],e)=([],e):=by simp[iH,h]
theorem C9(a b:List aH)(la:a.length<9223372036854775807)(lb:b.length<9223372036854775807)(ra:∀s,nH (bT a s))(rb:∀s,nH (bT b s))(ns:List (List UInt8))(Yw:ns.length≤100000):∀(post:List (List UInt8))(i:Nat)(hd:ns.drop i=post)(acc:List aH)(ha:acc.length≤i)(T:Env)
 (hT:Has T [(0,.sl .sh (a.map ai)),(1,.sl .sh (b.map ai)),(7,.sl .sh (ns.map .str)),(8,aZ Heap.nil (acc.map ai)),(9,.int .i64 i)]),
 bA cfg a210 zP T (cu Heap.nil (acc.map ai)) (xO (iH (rI (fun s=>eN (bT a s) (bT b s)) post acc))):=by
 intro post
 induction post with
 |nil=>
  intro i hd acc ha T hT
  have hge:=bf hd
  have e:rI (fun s=>eN (bT a s) (bT b s)) [] acc=(acc,0):=rfl
  rw[e]
  by_cases h8:8<acc.length
  ·have e:iH (acc,0)=([],4):=by simp[iH,h8]
   rw[e]
   have hw:=Ao acc h8
   exact gG 90 _ hT (.len (lM .sh .str ns)<|.no (dF ((↑i:Int)<(↑ns.length:Int)))<|.bE ([aZ Heap.nil (acc.map ai)]) (.tuple [.sl .sh [],.int .i64 4]) hw cA.p ⟨rfl,rfl⟩<|.fin ((.ret (.tuple [.sl .sh [],.int .i64 4]),cu Heap.nil (acc.map ai))) (by exact⟨true,rfl⟩))
  ·have e:iH (acc,0)=(acc,0):=by simp[iH,h8]
   rw[e]
   have hw:=GV acc (by omega)
   exact let ag:List AV:=[.sl .sh (acc.map ai),.int .i64 0];gG 90 _ hT (.len (lM .sh .str ns)<|.no (dF ((↑i:Int)<(↑ns.length:Int)))<|.bE ([aZ Heap.nil (acc.map ai)]) (.tuple ag) hw cA.p ⟨rfl,rfl⟩<|.fin ((.ret (.tuple ag),cu Heap.nil (acc.map ai))) (by exact⟨true,rfl⟩))
 |cons s post ih=>
  intro i hd acc ha T hT
  have hlt:=bg hd
  have cq:=aL hd
  have hx:cc 1 (.sl .sh (ns.map .str)) (.int .i64 (i:Nat))=some (.ref [.str s]):=bx (f:=AV.str) hd rfl
  have g1:=lI a s la
  have g2:=lI b s lb
  have g3:=GH _ _ (ra s) (rb s)
  have e:rI (fun s=>eN (bT a s) (bT b s)) (s::post) acc=if(eN (bT a s) (bT b s)).2=0 then rI (fun s=>eN (bT a s) (bT b s)) post (acc++[⟨s,(eN (bT a s) (bT b s)).1⟩])else([],(eN (bT a s) (bT b s)).2):=rfl
  rw[e]
  have ih1:=fun acc'=>ih (i+1) cq acc'
  generalize bT a s=p at g1 g3⊢
  generalize bT b s=q at g2 g3⊢
  generalize eN p q=z at g3⊢
  obtain⟨n,er⟩:=z
  simp only at g3⊢
  by_cases h0:er=0
  ·subst h0
   rw[if_pos rfl]
   have ap:∀H,bw 2 24 (cu H (acc.map ai)) (aZ H (acc.map ai)) (.sl .full [.agg [.str s,.int .i64 n]])=some (aZ H ((acc++[(⟨s,n⟩:aH)]).map ai),cu H ((acc++[(⟨s,n⟩:aH)]).map ai)):=fun H=>jd (f:=ai) (x:=(⟨s,n⟩:aH)) (ys:=acc) (by simp;omega) Ll rfl rfl
   have cQ:=ih1 (acc++[(⟨s,n⟩:aH)]) (by simp;omega)
   exact let ag:Heap:=(iw (cu Heap.nil (acc.map ai)) (cx [mV 28 0,mV 29 7,mV 30 9,⟨some 31,.idx 1 (.t 29) (.t 30),none,[2,1]⟩,⟨some 32,.load false 1 (.t 31),none,[1,2,3]⟩,⟨some 33,.call (.c (.func 211 [])) [.t 28,.t 32],none,[3,2,1,4,0]⟩,mV 34 1,mV 35 7,mV 36 9,⟨some 37,.idx 1 (.t 35) (.t 36),none,[8,7]⟩,⟨some 38,.load false 1 (.t 37),none,[7,8,9]⟩,⟨some 39,.call (.c (.func 211 [])) [.t 34,.t 38],none,[0,4,1,2,3,5,9,8,7,10,6]⟩,⟨some 40,.call (.c (.func 267 [])) [.t 33,.t 39],none,[6,10,7,8,9,11,0,4,1,2,3,5]⟩,⟨some 27,.aE (.t 40),none,[5,3,2,1,4,0,11,9,8,7,10,6,12]⟩,⟨some 41,.extract (.t 27) 0,none,[12,6,10,7,8,9,11,0,4,1,2,3,5,13]⟩,⟨some 42,.extract (.t 27) 1,none,[12,6,10,7,8,9,11,0,4,1,2,3,5,13]⟩,⟨some 10,.aE (.t 41),none,[13,5,3,2,1,4,0,11,9,8,7,10,6,12,14]⟩,⟨some 11,.aE (.t 42),none,[14,16,13,5,3,2,1,4,0,11,9,8,7,10,6,12,15]⟩]));let ax:List AV:=[.sl .sh (a.map ai),.str s];let aS:List AV:=[.sl .sh (b.map ai),.str s];gG 120 _ hT (.len (lM .sh .str ns)<|.yes (dT ((↑i:Int)<(↑ns.length:Int)))<|.idx hx<|.load (rfl:ak false 1 ag (.ref [.str s])=some (.str s))<|.aG (ax) (.int .i64 p) g1<|.idx hx<|.load (rfl:ak false 1 ag (.ref [.str s])=some (.str s))<|.aG (aS) (.int .i64 q) g2<|.aG ([.int .i64 p,.int .i64 q]) (.tuple [.int .i64 n,.int .i64 0]) g3<|.ff<|.idx hx<|.load (rfl:ak false 1 ag (.ref [.str s])=some (.str s))<|.append (show bw 2 24 ag (aZ Heap.nil (acc.map ai)) (.sl .full [.agg [.str s,.int .i64 n]])=some ((aZ Heap.nil (List.map ai (acc++[{name:=s,n:=n:aH}])),cu Heap.nil (List.map ai (acc++[{name:=s,n:=n:aH}]))))from ap _)<|.bin (iI i)<|.aT zP [(0,.sl .sh (a.map ai)),(1,.sl .sh (b.map ai)),(7,.sl .sh (List.map .str ns)),(8,aZ Heap.nil (List.map ai (acc++[{name:=s,n:=n:aH}]))),(9,.int .i64 (↑(i+1)))] (cu Heap.nil (List.map ai (acc++[{name:=s,n:=n:aH}]))) (fun T hT=>(cQ T hT)))
  ·rw[if_neg h0,Nx _ h0]
   exact let ag:Heap:=(iw (cu Heap.nil (acc.map ai)) (cx [mV 28 0,mV 29 7,mV 30 9,⟨some 31,.idx 1 (.t 29) (.t 30),none,[2,1]⟩,⟨some 32,.load false 1 (.t 31),none,[1,2,3]⟩,⟨some 33,.call (.c (.func 211 [])) [.t 28,.t 32],none,[3,2,1,4,0]⟩,mV 34 1,mV 35 7,mV 36 9,⟨some 37,.idx 1 (.t 35) (.t 36),none,[8,7]⟩,⟨some 38,.load false 1 (.t 37),none,[7,8,9]⟩,⟨some 39,.call (.c (.func 211 [])) [.t 34,.t 38],none,[0,4,1,2,3,5,9,8,7,10,6]⟩,⟨some 40,.call (.c (.func 267 [])) [.t 33,.t 39],none,[6,10,7,8,9,11,0,4,1,2,3,5]⟩,⟨some 27,.aE (.t 40),none,[5,3,2,1,4,0,11,9,8,7,10,6,12]⟩,⟨some 41,.extract (.t 27) 0,none,[12,6,10,7,8,9,11,0,4,1,2,3,5,13]⟩,⟨some 42,.extract (.t 27) 1,none,[12,6,10,7,8,9,11,0,4,1,2,3,5,13]⟩,⟨some 10,.aE (.t 41),none,[13,5,3,2,1,4,0,11,9,8,7,10,6,12,14]⟩,⟨some 11,.aE (.t 42),none,[14,16,13,5,3,2,1,4,0,11,9,8,7,10,6,12,15]⟩]));let ax:List AV:=[.sl .sh (a.map ai),.str s];let aS:List AV:=[.sl .sh (b.map ai),.str s];gG 120 _ hT (.len (lM .sh .str ns)<|.yes (dT ((↑i:Int)<(↑ns.length:Int)))<|.idx hx<|.load (rfl:ak false 1 ag (.ref [.str s])=some (.str s))<|.aG (ax) (.int .i64 p) g1<|.idx hx<|.load (rfl:ak false 1 ag (.ref [.str s])=some (.str s))<|.aG (aS) (.int .i64 q) g2<|.aG ([.int .i64 p,.int .i64 q]) (.tuple [.int .i64 n,.int .i64 er]) g3<|.yes (show(er !=(0:Int))=true from(by simpa using h0))<|.fin ((.ret (.tuple [.sl .full [],.int .i64 er]),iw (cu Heap.nil (acc.map ai)) (cx [mV 28 0,mV 29 7,mV 30 9,⟨some 31,.idx 1 (.t 29) (.t 30),none,[2,1]⟩,⟨some 32,.load false 1 (.t 31),none,[1,2,3]⟩,⟨some 33,.call (.c (.func 211 [])) [.t 28,.t 32],none,[3,2,1,4,0]⟩,mV 34 1,mV 35 7,mV 36 9,⟨some 37,.idx 1 (.t 35) (.t 36),none,[8,7]⟩,⟨some 38,.load false 1 (.t 37),none,[7,8,9]⟩,⟨some 39,.call (.c (.func 211 [])) [.t 34,.t 38],none,[0,4,1,2,3,5,9,8,7,10,6]⟩,⟨some 40,.call (.c (.func 267 [])) [.t 33,.t 39],none,[6,10,7,8,9,11,0,4,1,2,3,5]⟩,⟨some 27,.aE (.t 40),none,[5,3,2,1,4,0,11,9,8,7,10,6,12]⟩,⟨some 41,.extract (.t 27) 0,none,[12,6,10,7,8,9,11,0,4,1,2,3,5,13]⟩,⟨some 42,.extract (.t 27) 1,none,[12,6,10,7,8,9,11,0,4,1,2,3,5,13]⟩,⟨some 10,.aE (.t 41),none,[13,5,3,2,1,4,0,11,9,8,7,10,6,12,14]⟩,⟨some 11,.aE (.t 42),none,[14,16,13,5,3,2,1,4,0,11,9,8,7,10,6,12,15]⟩]))) (by exact⟨false,rfl⟩))
theorem Da{a b:List aH}(ha:gW a=0)(hb:gW b=0):cy (allNames [a,b])=dM (fG a) (fG b):=by
 have e:allNames [a,b]=fG a++fG b:=by simp[allNames]
 rw[e]
 exact xL (SH ha).C8 (SH hb).C8
theorem Ny{a b:List aH}(h:bq [gW a,gW b]=0):gW a=0∧gW b=0:=by
 have:=jA h
 simpa using this
theorem Db(a b:List (List UInt8)):(dM a b).length≤a.length+b.length:=by
 have:∀(n:Nat)(a b:List (List UInt8)),a.length+b.length≤n→(dM a b).length≤a.length+b.length:=by
  intro n
  induction n with
  |zero=>
   intro a b h
   obtain rfl:a=[]:=List.length_eq_zero_iff.1 (by omega)
   simp[fu]
  |succ n ih=>
   intro a b h
   cases a with
   |nil=>simp[fu]
   |cons p a=>
    cases b with
    |nil=>simp[kC]
    |cons q b=>
     simp only[List.length_cons]at h
     rw[dM]
     split
     ·have:=ih a (q::b) (by simp;omega)
      simp at this⊢;omega
     ·split
      ·have:=ih (p::a) b (by simp;omega)
       simp at this⊢;omega
      ·have:=ih a b (by omega)
       simp;omega
 exact this _ a b (Nat.le_refl _)
instance(l:List (List UInt8)):mO (jg l) (.sl .sh (l.map .str)):=inferInstanceAs(mO (aZ Heap.nil (l.map .str)) _)
theorem GY{a b:List aH}(ha:tT a)(hb:tT b){s:List UInt8}(hs:s∈dM (fG a) (fG b))(h0:(eN (bT a s) (bT b s)).2=0):0<(eN (bT a s) (bT b s)).1:=by
 have p:=Bv ha s
 have q:=Bv hb s
 have hpq:0<bT a s+bT b s:=by
  rcases(jS _ _ _ (Nat.le_refl _) s).1 hs with h|h
  ·have:=rH ha h;omega
  ·have:=rH hb h;omega
 have hb0:gx (bT a s) (bT b s)=0:=by
  unfold gx;rw[if_neg (by omega),if_neg (by omega)]
 unfold eN at h0⊢
 rw[if_neg (by simp[hb0])]at h0⊢
 unfold gi at h0⊢
 split
 ·rename_i h;rw[if_pos h]at h0;cases h0
 ·exact hpq
theorem Q1(a b:List aH)(la:a.length<9223372036854775807)(lb:b.length<9223372036854775807)(ra:pJ a)(rb:pJ b):∃c,aq cfg 210 [.sl .sh (a.map ai),.sl .sh (b.map ai)] (xN c (gu a b)):=by
 refine xO.GX (Uy _ _) ?_
 have h0:=GU a b
 have e:gu a b=if bq [gW a,gW b]=0 then iH (fM (fun s=>eN (bT a s) (bT b s)) (cy (allNames [a,b])) [])else([],bq [gW a,gW b]):=rfl
 rw[e]
 by_cases hc:bq [gW a,gW b]=0
 ·rw[if_pos hc]
  rw[hc]at h0
  obtain⟨ca,cb⟩:=Ny hc
  have oa:=SH ca
  have ob:=SH cb
  have hn:=CX a b (by have:=oa.len;omega) (by have:=ob.len;omega)
  rw[Da ca cb]
  have hml:(dM (fG a) (fG b)).length≤100000:=by
   have:=Db (fG a) (fG b)
   have:=oa.len;have:=ob.len
   simp only[List.length_map]at*
   omega
  have hl:=C9 a b la lb (vo ra) (vo rb) (dM (fG a) (fG b)) hml (dM (fG a) (fG b)) 0 rfl [] (by simp)
  rw[xM _ _ _ fun s hs h=>GY oa ob hs h]at hl
  generalize dM (fG a) (fG b)=ns at hn hl⊢
  exact let ag:List AV:=[.sl .sh (a.map ai),.sl .sh (b.map ai)];gG 90 [] trivial (.aG (ag) (.int .i64 0) h0<|.ff<|.bE (ag) (.sl .sh (List.map .str ns)) hn ⟨rfl,rfl⟩ fe.p<|.aT zP [(0,.sl .sh (a.map ai)),(1,.sl .sh (b.map ai)),(7,.sl .sh (List.map .str ns)),(8,.sl .full []),(9,.int .i64 0)] ({boxes:=[],toks:=[],loops:=[]:Heap}) (fun T hT=>(hl T hT)))
 ·rw[if_neg hc]
  generalize bq [gW a,gW b]=c at h0 hc⊢
  exact let ag:List AV:=[.sl .sh (a.map ai),.sl .sh (b.map ai)];gG 90 [] trivial (.aG (ag) (.int .i64 c) h0<|.yes (show(c !=(0:Int))=true from(by simpa using hc))<|.fin ((.ret (.tuple [.sl .full [],.int .i64 c]),{boxes:=[],toks:=[],loops:=[]:Heap})) (by exact⟨false,rfl⟩))
end Go.Aa.T
namespace Go.Aa.T
open Go.Aa Go.Proofs
structure St where
 nodes:List Node
 aj:List cT
 aY:List mo
def aB(s:St):AV:=.agg [.sl .sh (s.nodes.map aA),.sl .sh (s.aj.map af),.sl .sh (s.aY.map aP)]
instance(s:St):qO (aB s):=⟨rfl,rfl⟩
def Dc(name:List UInt8)(p:cT):Bool:=p.node==name&& !(name==[])
def xP(s:St)(name:List UInt8):List cT:=s.aj.filter (Dc name)
def gI:List aH→List (List aH)→List aH×Int
 |acc,[]=>(acc,0)
 |acc,v::vs=>if(gu acc v).2=0 then gI (gu acc v).1 vs else([],(gu acc v).2)
theorem JN(a b:Int):nH (eN a b).1:=by
 unfold eN
 split
 ·unfold nH;omega
 ·rename_i h
  have:=vg (a:=a) (b:=b) (by simpa using h)
  unfold gi
  split
  ·unfold nH;omega
  ·unfold nH;simp only;omega
theorem xQ{g:DR}(hg:∀s,nH (g s).1):∀(l:List (List UInt8))(acc:List aH),pJ acc→pJ (fM g l acc).1
 |[],acc,h=>h
 |s::r,acc,h=>by
  unfold fM
  split
  ·refine xQ hg r _ ?_
   split
   ·intro x hx
    rcases List.mem_append.1 hx with hx|hx
    ·exact h x hx
    ·rw[List.mem_singleton.1 hx];exact hg s
   ·exact h
  ·intro x hx;cases hx
theorem GZ{g:DR}(hg:∀s,nH (g s).1)(vs:List (List aH)):pJ (gX g vs).1∧(gX g vs).1.length≤8:=by
 unfold gX
 split
 ·unfold iH
  split
  ·split
   ·exact⟨fun x hx=>(by cases hx),by simp⟩
   ·exact⟨xQ hg _ _ (fun x hx=>by cases hx),by simp only;omega⟩
  ·exact⟨fun x hx=>(by cases hx),by simp⟩
 ·exact⟨fun x hx=>(by cases hx),by simp⟩
theorem nO(a b:List aH):pJ (gu a b).1∧(gu a b).1.length≤8:=GZ (fun s=>JN _ _) _
theorem xR:∀(vs:List (List aH))(acc:List aH),(gI acc vs).2≠0→(gI acc vs).1=[]
 |[],acc,h=>absurd rfl h
 |v::vs,acc,h=>by
  unfold gI at h⊢
  split
  ·rename_i h0;rw[if_pos h0]at h;exact xR vs _ h
  ·rfl
theorem Nz(l:List AV):aq cfg 108 [.sl .sh l,.int .i64 0] (.sl .sh l):=by
 refine aq.run (QE _ _) ?_
 exact gG 60 [] trivial (.aG ([.int .i64 0]) (.tuple []) pT<|.fin ((.ret (.sl .sh l),{boxes:=[],toks:=[],loops:=[]:Heap})) rfl)
theorem JO(l:List AV){e:Int}(he:¬e=0):kf cfg 108 [.sl .sh l,.int .i64 e] (iA e):=by
 have h:=gj he
 refine kf.run (QE _ _) ?_
 exact gG 60 [] trivial (.jP ([.int .i64 e]) ({boxes:=[],toks:=[],loops:=[]:Heap}) h ⟨rfl,rfl⟩ rfl rfl)
theorem G4{Q2 ex:List (List AV)}{tk:List Nat}{v:AV}(hv:∀nb nt,within nb nt v=true)(hb:∀nb nt,Q2.all (·.all (rZ nb nt))=true):de Q2.length 0 v ⟨Q2++ex,tk,[]⟩=⟨Q2,[],[]⟩:=by
 unfold de
 simp only[List.take_left,List.all_nil,Bool.true_and,hv,hb,Bool.and_self,if_true,List.take_zero]
structure SI(v:List aH):Prop where
 len:v.length<9223372036854775807
 rg:pJ v
def Q3(L fv:AV)(p:List aH×Int)(r:cZ×Heap):Prop:=(p.2=0∧∃c ex,r=(.ret (.tuple []),⟨[L]::[fv]::[.sl (kq c) (p.1.map ai)]::ex,[],[]⟩))∨(p.2≠0∧r.1=.cS (iA p.2))
theorem JP(x:cT):aq cfg 193 [af x] (.sl .sh (x.need.map ai)):=by
 refine aq.run (Uk _ _) ?_
 exact gG 60 [] trivial (.fin ((.ret (.sl .sh (x.need.map ai)),{boxes:=[[.str x.name,.str x.owner,.int .i64 x.prio,.sl .sh (x.need.map ai),.sl .sh (x.labels.map aI),.sl .sh (x.bS.map aX),.sl .sh (x.bh.map aQ),.str x.key,.int .i64 x.most,.str x.node,.bool x.hold]],toks:=[],loops:=[]:Heap})) rfl)
theorem Dd(l:List cT)(hn:l.length<9223372036854775807)(hv:∀x∈l,SI x.need):∀(post:List cT)(i:Nat)(hd:l.drop i=post)(acc:List aH)(ha:acc.length≤8∧pJ acc)(c:Bool)(ex:List (List AV))(T:Env)
 (hT:Has T [(1,.ptr 2 0),(2,.ptr 1 0),(5,.sl .sh (l.map af)),(6,.int .i64 l.length),(7,.int .i64 i)]),
 bA cfg Fk z6 T ⟨[.sl .sh (l.map af)]::[.func 193 []]::[.sl (kq c) (acc.map ai)]::ex,[],[]⟩ (Q3 (.sl .sh (l.map af)) (.func 193 []) (gI acc (post.map (·.need)))):=by
 intro post
 induction post with
 |nil=>
  intro i hd acc ha c ex T hT
  have hge:=bf hd
  exact gG 60 _ hT (.no (dF ((↑i:Int)<(↑l.length:Int)))<|.fin ((.ret (.tuple []),{boxes:=[.sl .sh (l.map af)]::[.func 193 []]::[.sl (kq c) (acc.map ai)]::ex,toks:=[],loops:=[]:Heap})) (by exact .inl ⟨rfl,c,ex,rfl⟩))
 |cons x post ih=>
  intro i hd acc ha c ex T hT
  have hlt:=bg hd
  have cq:=aL hd
  have hx:=hv x (eo hd)
  have h1:=JP x
  have h2:=GN acc x.need (by omega) hx.len ha.2 hx.rg
  have hr:=nO acc x.need
  have e:gI acc ((x::post).map (·.need))=if(gu acc x.need).2=0 then gI (gu acc x.need).1 (post.map (·.need))else([],(gu acc x.need).2):=rfl
  rw[e]
  generalize gu acc x.need=z at h2 hr⊢
  obtain⟨w,er⟩:=z
  simp only at h2 hr⊢
  by_cases h0:er=0
  ·subst h0
   rw[if_pos rfl]
   have h3:=Nz (w.map ai)
   have cQ:=ih (i+1) cq w ⟨hr.2,hr.1⟩ true (ex++[(af x).cells])
   have ek:kq true=.sh:=rfl
   rw[ek]at cQ
   exact let ag:List AV:=[.str x.name,.str x.owner,.int .i64 x.prio,.sl .sh (x.need.map ai),.sl .sh (x.labels.map aI),.sl .sh (x.bS.map aX),.sl .sh (x.bh.map aQ),.str x.key,.int .i64 x.most,.str x.node,.bool x.hold];let ax:Heap:={boxes:=[.sl .sh (l.map af)]::[.func 193 []]::[.sl (kq c) (acc.map ai)]::(ex++[ag]),toks:=[],loops:=[]:Heap};let aS:List AV:=[.str [],.str [],.int .i64 0,.sl .full [],.sl .full [],.sl .full [],.sl .full [],.str [],.int .i64 0,.str [],.bool false];let bt:Heap:={boxes:=[.sl .sh (l.map af)]::[.func 193 []]::[.sl .sh (w.map ai)]::(ex++[ag]),toks:=[],loops:=[]:Heap};let bR:List AV:=[.sl .sh (w.map ai),.int .i64 0];gG 120 _ hT (.yes (dT ((↑i:Int)<(↑l.length:Int)))<|.idx (iR 11 af hd)<|.load (rfl:ak true 11 {boxes:=[.sl .sh (l.map af)]::[.func 193 []]::[.sl (kq c) (acc.map ai)]::ex,toks:=[],loops:=[]:Heap} (.ref ag)=some (.agg ag))<|.store (show aW 11 {boxes:=[.sl .sh (l.map af)]::[.func 193 []]::[.sl (kq c) (acc.map ai)]::(ex++[aS]),toks:=[],loops:=[]:Heap} (.ptr ([.sl .sh (l.map af)]::[.func 193 []]::[.sl (kq c) (acc.map ai)]::ex).length 0) (.agg ag)=some (ax)from aC (cs:=aS) (cs':=ag) (by simp+zetaDelta) rfl (by simp+zetaDelta [List.set_append]))<|.load (lB false 1 ax 2 0 (.sl (kq c) (acc.map ai)) [.sl (kq c) (acc.map ai)])<|.load (lB false 1 ax 1 0 (.func 193 []) [.func 193 []])<|.load (show ak true 11 ax (.ptr ([.sl .sh (l.map af)]::[.func 193 []]::[.sl (kq c) (acc.map ai)]::ex).length 0)=some (.agg ag)from ah (cs:=ag) (by simp+zetaDelta) rfl)<|.aG ([.agg ag]) (.sl .sh (x.need.map ai)) h1<|.bE ([.sl (kq c) (acc.map ai),.sl .sh (x.need.map ai)]) (.tuple bR) h2 cA.p ⟨rfl,rfl⟩<|.aG (bR) (.sl .sh (w.map ai)) h3<|.store (show aW 1 ax (.ptr 2 0) (.sl .sh (w.map ai))=some (bt)from aC (cs:=[.sl (kq c) (acc.map ai)]) (cs':=[.sl .sh (w.map ai)]) (by simp+zetaDelta) rfl (by simp+zetaDelta [List.set_append]))<|.bin (iI i)<|.aT z6 [(1,.ptr 2 0),(2,.ptr 1 0),(5,.sl .sh (l.map af)),(6,.int .i64 (↑l.length)),(7,.int .i64 (↑(i+1)))] (bt) (fun T hT=>(cQ T hT)))
  ·rw[if_neg h0]
   have h3:=JO (w.map ai) h0
   exact let ag:List AV:=[.str x.name,.str x.owner,.int .i64 x.prio,.sl .sh (x.need.map ai),.sl .sh (x.labels.map aI),.sl .sh (x.bS.map aX),.sl .sh (x.bh.map aQ),.str x.key,.int .i64 x.most,.str x.node,.bool x.hold];let ax:Heap:={boxes:=[.sl .sh (l.map af)]::[.func 193 []]::[.sl (kq c) (acc.map ai)]::(ex++[ag]),toks:=[],loops:=[]:Heap};let aS:List AV:=[.str [],.str [],.int .i64 0,.sl .full [],.sl .full [],.sl .full [],.sl .full [],.str [],.int .i64 0,.str [],.bool false];let bt:List AV:=[.sl .sh (w.map ai),.int .i64 er];gG 120 _ hT (.yes (dT ((↑i:Int)<(↑l.length:Int)))<|.idx (iR 11 af hd)<|.load (rfl:ak true 11 {boxes:=[.sl .sh (l.map af)]::[.func 193 []]::[.sl (kq c) (acc.map ai)]::ex,toks:=[],loops:=[]:Heap} (.ref ag)=some (.agg ag))<|.store (show aW 11 {boxes:=[.sl .sh (l.map af)]::[.func 193 []]::[.sl (kq c) (acc.map ai)]::(ex++[aS]),toks:=[],loops:=[]:Heap} (.ptr ([.sl .sh (l.map af)]::[.func 193 []]::[.sl (kq c) (acc.map ai)]::ex).length 0) (.agg ag)=some (ax)from aC (cs:=aS) (cs':=ag) (by simp+zetaDelta) rfl (by simp+zetaDelta [List.set_append]))<|.load (lB false 1 ax 2 0 (.sl (kq c) (acc.map ai)) [.sl (kq c) (acc.map ai)])<|.load (lB false 1 ax 1 0 (.func 193 []) [.func 193 []])<|.load (show ak true 11 ax (.ptr ([.sl .sh (l.map af)]::[.func 193 []]::[.sl (kq c) (acc.map ai)]::ex).length 0)=some (.agg ag)from ah (cs:=ag) (by simp+zetaDelta) rfl)<|.aG ([.agg ag]) (.sl .sh (x.need.map ai)) h1<|.bE ([.sl (kq c) (acc.map ai),.sl .sh (x.need.map ai)]) (.tuple bt) h2 cA.p ⟨rfl,rfl⟩<|.jP (bt) (ax) h3 ⟨rfl,rfl⟩ rfl (by exact .inr ⟨h0,rfl⟩))
theorem G5(l:List cT)(hn:l.length<9223372036854775807)(hv:∀x∈l,SI x.need):∃c,aq cfg 192 [.sl .sh (l.map af),.func 193 []] (xN c (gI [] (l.map (·.need)))):=by
 have h1:=Dd l hn hv l 0 rfl [] ⟨by simp,fun x hx=>by cases hx⟩ false []
 have ek:kq false=.full:=rfl
 rw[ek]at h1
 have key:bA cfg Fk [.c MI] (ay [.ptr 0 0,.ptr 2 0,.ptr 1 0]) ⟨[[.sl .sh (l.map af)],[.func 193 []],[.sl .full []]],[],[]⟩ (Q3 (.sl .sh (l.map af)) (.func 193 []) (gI [] (l.map (·.need)))):=by
  exact gG 60 [] trivial (.len (lM .sh af l)<|.aT z6 [(1,.ptr 2 0),(2,.ptr 1 0),(5,.sl .sh (l.map af)),(6,.int .i64 (↑l.length)),(7,.int .i64 0)] ({boxes:=[[.sl .sh (l.map af)],[.func 193 []],[.sl .full []]],toks:=[],loops:=[]:Heap}) (fun T hT=>(h1 T hT)))
 obtain⟨⟨a,H1⟩,hr,hR⟩:=key
 have hz:=xR (l.map (·.need)) []
 generalize gI [] (l.map (·.need))=z at hR hz⊢
 obtain⟨w,er⟩:=z
 rcases hR with⟨he,c,ex,hR⟩|⟨he,hR⟩
 ·simp only at he
  subst he
  simp only[Prod.mk.injEq]at hR
  obtain⟨rfl,rfl⟩:=hR
  have ht:lim cfg (.fn 66) [.func 255 [.ptr 0 0,.ptr 2 0,.ptr 1 0]] ⟨[[.sl .sh (l.map af)],[.func 193 []],[.sl .full []]],[],[]⟩=some (.ret (.int .i64 0),⟨[.sl .sh (l.map af)]::[.func 193 []]::[.sl (kq c) (w.map ai)]::ex,[],[]⟩):=by
   rw[ke rfl,QS,hr];rfl
  have hd:=bU (xs:=[.func 255 [.ptr 0 0,.ptr 2 0,.ptr 1 0]]) (caps:=[]) ht rfl rfl
  have et:de 3 0 (.int .i64 0) ⟨[.sl .sh (l.map af)]::[.func 193 []]::[.sl (kq c) (w.map ai)]::ex,[],[]⟩=⟨[[.sl .sh (l.map af)],[.func 193 []],[.sl (kq c) (w.map ai)]],[],[]⟩:=
   G4 (Q2:=[[.sl .sh (l.map af)],[.func 193 []],[.sl (kq c) (w.map ai)]]) (fun _ _=>rfl) (fun _ _=>by cases c<;>rfl)
  have hd':cv cfg (.call (.c (.func 66 [])) [.c (.func 255 [.ptr 0 0,.ptr 2 0,.ptr 1 0])]) ⟨[[.sl .sh (l.map af)],[.func 193 []],[.sl .full []]],[],[]⟩ (.int .i64 0) ⟨[[.sl .sh (l.map af)],[.func 193 []],[.sl (kq c) (w.map ai)]],[],[]⟩:=by
   rw[←et];exact hd
  refine⟨c,aq.run (QM _ _) ?_⟩
  exact gG 60 [] trivial (.cw hd'<|.ff<|.fin ((.ret (.tuple [.sl (kq c) (w.map ai),.int .i64 0]),{boxes:=[[.sl .sh (l.map af)],[.func 193 []],[.sl (kq c) (w.map ai)]],toks:=[],loops:=[]:Heap})) rfl)
 ·simp only at he hR
  subst hR
  have e0:w=[]:=hz he
  subst e0
  have ht:lim cfg (.fn 66) [.func 255 [.ptr 0 0,.ptr 2 0,.ptr 1 0]] ⟨[[.sl .sh (l.map af)],[.func 193 []],[.sl .full []]],[],[]⟩=some (.ret (.int .i64 er),H1):=by
   rw[ke rfl,QS,hr];rfl
  have hd:=bU (xs:=[.func 255 [.ptr 0 0,.ptr 2 0,.ptr 1 0]]) (caps:=[]) ht rfl rfl
  generalize de _ _ _ H1=H2 at hd
  refine⟨false,aq.run (QM _ _) ?_⟩
  exact gG 60 [] trivial (.cw hd<|.yes (show(er !=(0:Int))=true from(by simpa using he))<|.fin ((.ret (.tuple [.sl .full [],.int .i64 er]),H2)) rfl)
end Go.Aa.T
namespace Go.Aa.T
open Go.Aa Go.Proofs
structure jm(s:St):Prop where
 nodes:s.nodes.length<9223372036854775807
 aj:s.aj.length≤1000
 cap:∀n∈s.nodes,SI n.cap
 need:∀p∈s.aj,SI p.need
theorem Q4{l:List cT}:cE 11 (l.map af)=true:=dY fun _=>rfl
theorem JQ(s:St)(name:List UInt8)(hs:s.aj.length≤1000):∀(post:List cT)(i:Nat)(hd:s.aj.drop i=post)(acc:List cT)(ha:acc.length≤i)(ex:List (List AV))(T:Env)
 (hT:Has T [(1,.str name),(5,cB af acc),(9,.sl .sh (s.aj.map af)),(10,.int .i64 s.aj.length),(11,.int .i64 i)]),
 bA cfg Sl xp T ⟨(aB s).cells::ex,bY af acc,[]⟩ (aJ (cB af (acc++post.filter (Dc name)))):=by
 intro post
 induction post with
 |nil=>
  intro i hd acc ha ex T hT
  have hge:=bf hd
  rw[show acc++([]:List cT).filter (Dc name)=acc by simp]
  exact gG 60 _ hT (.no (dF ((↑i:Int)<(↑s.aj.length:Int)))<|.fin ((.ret (.sl (dS acc) (acc.map af)),{boxes:=[.sl .sh (s.nodes.map aA),.sl .sh (s.aj.map af),.sl .sh (s.aY.map aP)]::ex,toks:=bY af acc,loops:=[]:Heap})) rfl)
 |cons x post ih=>
  intro i hd acc ha ex T hT
  have hlt:=bg hd
  have cq:=aL hd
  by_cases hq:Dc name x=true
  ·have e:acc++(x::post).filter (Dc name)=(acc++[x])++post.filter (Dc name):=by simp[List.filter_cons,hq]
   rw[e]
   have cQ:=ih (i+1) cq (acc++[x]) (by simp;omega) (ex++[(af x).cells])
   have ap:∀bs ls,bw 11 184 ⟨bs,bY af acc,ls⟩ (cB af acc) (.sl .full [af x])=some (cB af (acc++[x]),⟨bs,bY af (acc++[x]),ls⟩):=fun bs ls=>
    gp af (x:=x) (by simp;omega) Q4 rfl rfl
   unfold Dc at hq
   simp only[Bool.and_eq_true,beq_iff_eq,Bool.not_eq_true',beq_eq_false_iff_ne]at hq
   obtain⟨q1,q2⟩:=hq
   exact let ag:List AV:=[.str x.name,.str x.owner,.int .i64 x.prio,.sl .sh (x.need.map ai),.sl .sh (x.labels.map aI),.sl .sh (x.bS.map aX),.sl .sh (x.bh.map aQ),.str x.key,.int .i64 x.most,.str x.node,.bool x.hold];let ax:List AV:=[.sl .sh (s.nodes.map aA),.sl .sh (s.aj.map af),.sl .sh (s.aY.map aP)];let aS:Heap:={boxes:=ax::(ex++[ag]),toks:=bY af acc,loops:=[]:Heap};let bt:List AV:=[.str [],.str [],.int .i64 0,.sl .full [],.sl .full [],.sl .full [],.sl .full [],.str [],.int .i64 0,.str [],.bool false];let bR:Heap:={boxes:=ax::(ex++[ag]),toks:=bY af (acc++[x]),loops:=[]:Heap};gG 120 _ hT (.yes (dT ((↑i:Int)<(↑s.aj.length:Int)))<|.idx (iR 11 af hd)<|.load (rfl:ak true 11 {boxes:=ax::ex,toks:=bY af acc,loops:=[]:Heap} (.ref ag)=some (.agg ag))<|.store (show aW 11 {boxes:=ax::(ex++[bt]),toks:=bY af acc,loops:=[]:Heap} (.ptr (ax::ex).length 0) (.agg ag)=some (aS)from aC (cs:=bt) (cs':=ag) (by simp+zetaDelta) rfl (by simp+zetaDelta [List.set_append]))<|.load (show ak false 1 aS (.ptr (ax::ex).length 9)=some (.str x.node)from ah (cs:=ag) (by simp+zetaDelta) rfl)<|.yes (show(x.node==name)=true from(by simpa using q1))<|.yes (show(!name==[])=true from by have hh:¬((name==[])=true):=(by simpa using q2);simp[hh])<|.load (show ak true 11 aS (.ptr (ax::ex).length 0)=some (.agg ag)from ah (cs:=ag) (by simp+zetaDelta) rfl)<|.append (show bw 11 184 aS (.sl (dS acc) (acc.map af)) (.sl .full [.agg ag])=some ((cB af (acc++[x]),bR))from ap _ _)<|.bin (iI i)<|.aT xp [(1,.str name),(5,.sl (dS (acc++[x])) (List.map af (acc++[x]))),(9,.sl .sh (s.aj.map af)),(10,.int .i64 (↑s.aj.length)),(11,.int .i64 (↑(i+1)))] (bR) (fun T hT=>(cQ T hT)))
  ·have e:acc++(x::post).filter (Dc name)=acc++post.filter (Dc name):=by simp[List.filter_cons,hq]
   rw[e]
   have cQ:=ih (i+1) cq acc (by omega) (ex++[(af x).cells])
   by_cases q1:x.node=name
   ·have q2:name=[]:=by
     unfold Dc at hq
     simpa[q1]using hq
    exact let ag:List AV:=[.str x.name,.str x.owner,.int .i64 x.prio,.sl .sh (x.need.map ai),.sl .sh (x.labels.map aI),.sl .sh (x.bS.map aX),.sl .sh (x.bh.map aQ),.str x.key,.int .i64 x.most,.str x.node,.bool x.hold];let ax:List AV:=[.sl .sh (s.nodes.map aA),.sl .sh (s.aj.map af),.sl .sh (s.aY.map aP)];let aS:List AV:=[.str [],.str [],.int .i64 0,.sl .full [],.sl .full [],.sl .full [],.sl .full [],.str [],.int .i64 0,.str [],.bool false];let bt:Heap:={boxes:=ax::(ex++[ag]),toks:=bY af acc,loops:=[]:Heap};gG 120 _ hT (.yes (dT ((↑i:Int)<(↑s.aj.length:Int)))<|.idx (iR 11 af hd)<|.load (rfl:ak true 11 {boxes:=ax::ex,toks:=bY af acc,loops:=[]:Heap} (.ref ag)=some (.agg ag))<|.store (show aW 11 {boxes:=ax::(ex++[aS]),toks:=bY af acc,loops:=[]:Heap} (.ptr (ax::ex).length 0) (.agg ag)=some (bt)from aC (cs:=aS) (cs':=ag) (by simp+zetaDelta) rfl (by simp+zetaDelta [List.set_append]))<|.load (show ak false 1 bt (.ptr (ax::ex).length 9)=some (.str x.node)from ah (cs:=ag) (by simp+zetaDelta) rfl)<|.yes (show(x.node==name)=true from(by simpa using q1))<|.no (show(!name==[])=false from by have hh:(name==[])=true:=(by simpa using q2);simp[hh])<|.bin (iI i)<|.aT xp [(1,.str name),(5,.sl (dS acc) (acc.map af)),(9,.sl .sh (s.aj.map af)),(10,.int .i64 (↑s.aj.length)),(11,.int .i64 (↑(i+1)))] (bt) (fun T hT=>(cQ T hT)))
   ·exact let ag:List AV:=[.str x.name,.str x.owner,.int .i64 x.prio,.sl .sh (x.need.map ai),.sl .sh (x.labels.map aI),.sl .sh (x.bS.map aX),.sl .sh (x.bh.map aQ),.str x.key,.int .i64 x.most,.str x.node,.bool x.hold];let ax:List AV:=[.sl .sh (s.nodes.map aA),.sl .sh (s.aj.map af),.sl .sh (s.aY.map aP)];let aS:List AV:=[.str [],.str [],.int .i64 0,.sl .full [],.sl .full [],.sl .full [],.sl .full [],.str [],.int .i64 0,.str [],.bool false];let bt:Heap:={boxes:=ax::(ex++[ag]),toks:=bY af acc,loops:=[]:Heap};gG 120 _ hT (.yes (dT ((↑i:Int)<(↑s.aj.length:Int)))<|.idx (iR 11 af hd)<|.load (rfl:ak true 11 {boxes:=ax::ex,toks:=bY af acc,loops:=[]:Heap} (.ref ag)=some (.agg ag))<|.store (show aW 11 {boxes:=ax::(ex++[aS]),toks:=bY af acc,loops:=[]:Heap} (.ptr (ax::ex).length 0) (.agg ag)=some (bt)from aC (cs:=aS) (cs':=ag) (by simp+zetaDelta) rfl (by simp+zetaDelta [List.set_append]))<|.load (show ak false 1 bt (.ptr (ax::ex).length 9)=some (.str x.node)from ah (cs:=ag) (by simp+zetaDelta) rfl)<|.no (show(x.node==name)=false from Bool.eq_false_iff.2 (by simpa using q1))<|.ff<|.bin (iI i)<|.aT xp [(1,.str name),(5,.sl (dS acc) (acc.map af)),(9,.sl .sh (s.aj.map af)),(10,.int .i64 (↑s.aj.length)),(11,.int .i64 (↑(i+1)))] (bt) (fun T hT=>(cQ T hT)))
theorem G6(s:St)(name:List UInt8)(hs:s.aj.length≤1000):aq cfg 34 [aB s,.str name] (cB af (xP s name)):=by
 refine aq.run (X2 _ _) ?_
 have h:=JQ s name hs s.aj 0 rfl [] (by simp) []
 have e:cB af ([]:List cT)=.sl .full []:=rfl
 rw[e,jI,List.nil_append]at h
 exact gG 60 [] trivial (.len (lM .sh af s.aj)<|.aT xp [(1,.str name),(5,.sl .full []),(9,.sl .sh (s.aj.map af)),(10,.int .i64 (↑s.aj.length)),(11,.int .i64 0)] ({boxes:=[[.sl .sh (s.nodes.map aA),.sl .sh (s.aj.map af),.sl .sh (s.aY.map aP)]],toks:=[],loops:=[]:Heap}) (fun T hT=>(h T hT)))
def cU(s:St)(name:List UInt8):List aH×Int:=match cL Node.name s.nodes name with
 |none=>([],3)
 |some _=>gI [] ((xP s name).map (·.need))
theorem NA{s:St}{name:List UInt8}{p:cT}(h:p∈xP s name):p∈s.aj:=(List.mem_filter.1 h).1
theorem G7(s:St)(name:List UInt8):(xP s name).length≤s.aj.length:=List.length_filter_le _ _
theorem G8(s:St)(name:List UInt8)(hs:jm s):∃c,aq cfg 109 [aB s,.str name] (xN c (cU s name)):=by
 have h1:=iS s.nodes name hs.nodes
 cases hf:cL Node.name s.nodes name with
 |none=>
  rw[hf]at h1
  have e:cU s name=([],3):=by unfold cU;rw[hf]
  rw[e]
  refine⟨false,aq.run (QF _ _) ?_⟩
  exact let ag:List AV:=[.str [],.sl .sh [],.sl .sh [],.sl .sh [],.bool false];let ax:List AV:=[.sl .sh (s.nodes.map aA),.str name];gG 60 [] trivial (.aG (ax) (.tuple [.agg ag,.bool false]) h1<|.tt<|.fin ((.ret (.tuple [.sl .full [],.int .i64 3]),{boxes:=[[.sl .sh (s.nodes.map aA),.sl .sh (s.aj.map af),.sl .sh (s.aY.map aP)],ag],toks:=[],loops:=[]:Heap})) rfl)
 |some n=>
  rw[hf]at h1
  have e:cU s name=gI [] ((xP s name).map (·.need)):=by unfold cU;rw[hf]
  rw[e]
  have h2:=G6 s name hs.aj
  obtain⟨c,h3⟩:=G5 (xP s name) (by have:=G7 s name;have:=hs.aj;omega) (fun p hp=>hs.need p (NA hp))
  generalize gI [] ((xP s name).map (·.need))=z at h3⊢
  refine⟨true,aq.run (QF _ _) ?_⟩
  exact let ag:List AV:=[.str n.name,.sl .sh (n.cap.map ai),.sl .sh (n.labels.map aI),.sl .sh (n.aV.map bu),.bool n.br];let ax:List AV:=[.sl .sh (s.nodes.map aA),.sl .sh (s.aj.map af),.sl .sh (s.aY.map aP)];let aS:List AV:=[.sl .sh (z.fst.map ai),.int .i64 z.snd];let bt:List AV:=[.sl .sh (s.nodes.map aA),.str name];gG 90 [] trivial (.aG (bt) (.tuple [.agg ag,.bool true]) h1<|.ff<|.bE ([.agg ax,.str name]) (.sl .sh (List.map af (xP s name))) h2 ⟨rfl,rfl⟩ fe.p<|.bE ([.sl .sh (List.map af (xP s name)),.func 193 []]) (.tuple aS) h3 ⟨rfl,rfl⟩ fe.p<|.fin ((.ret (.tuple aS),{boxes:=[ax,ag],toks:=[],loops:=[]:Heap})) rfl)
def dG(s:St)(name:List UInt8):List aH×Int:=match cL Node.name s.nodes name with
 |none=>([],3)
 |some _=>gI [] ((s.aj.filter fun p=>p.node==name).map (·.need))
theorem sF(s:St)(name:List UInt8)(hs:jm s)(nc:List AV):∀(post:List cT)(i:Nat)(hd:s.aj.drop i=post)(acc:List aH)(ha:acc.length≤8∧pJ acc)(c:Bool)(T:Env)
 (hT:Has T [(1,.str name),(2,.ptr 0 0),(8,.sl (kq c) (acc.map ai)),(9,.int .i64 i)]),
 bA cfg IN uP T ⟨[(aB s).cells,nc],[],[]⟩ (xO (gI acc ((post.filter fun p=>p.node==name).map (·.need)))):=by
 intro post
 induction post with
 |nil=>
  intro i hd acc ha c T hT
  have hge:=bf hd
  have hp:=hs.aj
  have e:gI acc (((([]:List cT).filter fun p=>p.node==name)).map (·.need))=(acc,0):=rfl
  rw[e]
  exact gG 60 _ hT (.len (lM .sh af s.aj)<|.no (dF ((↑i:Int)<(↑s.aj.length:Int)))<|.fin ((.ret (.tuple [.sl (kq c) (acc.map ai),.int .i64 0]),{boxes:=[[.sl .sh (s.nodes.map aA),.sl .sh (s.aj.map af),.sl .sh (s.aY.map aP)],nc],toks:=[],loops:=[]:Heap})) (by exact⟨c,rfl⟩))
 |cons x post ih=>
  intro i hd acc ha c T hT
  have hlt:=bg hd
  have cq:=aL hd
  have hp:=hs.aj
  have cn:cc 11 (.sl .sh (s.aj.map af)) (.int .i64 (i:Nat))=some (.ref (af x).cells):=bx (f:=af) hd rfl
  by_cases hq:x.node=name
  ·have e:((x::post).filter fun p=>p.node==name).map (·.need)=x.need::(post.filter fun p=>p.node==name).map (·.need):=by simp[List.filter_cons,hq]
   rw[e]
   have hx:=hs.need x (eo hd)
   obtain⟨c2,h2⟩:=Q1 acc x.need (by omega) hx.len ha.2 hx.rg
   have hr:=nO acc x.need
   have e2:gI acc (x.need::(post.filter fun p=>p.node==name).map (·.need))=if(gu acc x.need).2=0 then gI (gu acc x.need).1 ((post.filter fun p=>p.node==name).map (·.need))else([],(gu acc x.need).2):=rfl
   rw[e2]
   generalize gu acc x.need=z at h2 hr⊢
   obtain⟨w,er⟩:=z
   simp only at h2 hr⊢
   by_cases h0:er=0
   ·subst h0
    rw[if_pos rfl]
    have cQ:=ih (i+1) cq w ⟨hr.2,hr.1⟩ true
    have ek:kq true=.sh:=rfl
    rw[ek]at cQ
    exact gG 120 _ hT (.len (lM .sh af s.aj)<|.yes (dT ((↑i:Int)<(↑s.aj.length:Int)))<|.idx cn<|.no (show(!x.node==name)=false from by have hh:(x.node==name)=true:=(by simpa using hq);simp[hh])<|.idx cn<|.bE ([.sl (kq c) (acc.map ai),.sl .sh (x.need.map ai)]) (.tuple [.sl .sh (List.map ai (w,(0:Int)).fst),.int .i64 (w,(0:Int)).snd]) h2 cA.p fe.p<|.ff<|.bin (iI i)<|.aT uP [(1,.str name),(2,.ptr 0 0),(8,.sl .sh (List.map ai (w,(0:Int)).fst)),(9,.int .i64 (↑(i+1)))] ({boxes:=[[.sl .sh (s.nodes.map aA),.sl .sh (s.aj.map af),.sl .sh (s.aY.map aP)],nc],toks:=[],loops:=[]:Heap}) (fun T hT=>(cQ T hT)))
   ·rw[if_neg h0]
    exact gG 120 _ hT (.len (lM .sh af s.aj)<|.yes (dT ((↑i:Int)<(↑s.aj.length:Int)))<|.idx cn<|.no (show(!x.node==name)=false from by have hh:(x.node==name)=true:=(by simpa using hq);simp[hh])<|.idx cn<|.bE ([.sl (kq c) (acc.map ai),.sl .sh (x.need.map ai)]) (.tuple [.sl .sh (List.map ai (w,er).fst),.int .i64 (w,er).snd]) h2 cA.p fe.p<|.yes (show((w,er).snd !=(0:Int))=true from(by simpa using h0))<|.fin ((.ret (.tuple [.sl .full [],.int .i64 (w,er).snd]),{boxes:=[[.sl .sh (s.nodes.map aA),.sl .sh (s.aj.map af),.sl .sh (s.aY.map aP)],nc],toks:=[],loops:=[]:Heap})) (by exact⟨false,rfl⟩))
  ·have e:((x::post).filter fun p=>p.node==name).map (·.need)=(post.filter fun p=>p.node==name).map (·.need):=by simp[List.filter_cons,hq]
   rw[e]
   have cQ:=ih (i+1) cq acc ha c
   exact gG 120 _ hT (.len (lM .sh af s.aj)<|.yes (dT ((↑i:Int)<(↑s.aj.length:Int)))<|.idx cn<|.yes (show(!x.node==name)=true from by have hh:¬((x.node==name)=true):=(by simpa using hq);simp[hh])<|.bin (iI i)<|.aT uP [(1,.str name),(2,.ptr 0 0),(8,.sl (kq c) (acc.map ai)),(9,.int .i64 (↑(i+1)))] ({boxes:=[[.sl .sh (s.nodes.map aA),.sl .sh (s.aj.map af),.sl .sh (s.aY.map aP)],nc],toks:=[],loops:=[]:Heap}) (fun T hT=>(cQ T hT)))
theorem xS(s:St)(name:List UInt8)(hs:jm s):∃c,aq cfg 121 [aB s,.str name] (xN c (dG s name)):=by
 have h1:=iT s.nodes name hs.nodes
 refine xO.GX (TO _ _) ?_
 cases hf:cL Node.name s.nodes name with
 |none=>
  rw[hf]at h1
  have e:dG s name=([],3):=by unfold dG;rw[hf]
  rw[e]
  exact let ag:List AV:=[.str [],.sl .sh [],.sl .sh [],.sl .sh [],.bool false];let ax:List AV:=[.sl .sh (s.nodes.map aA),.str name];gG 60 [] trivial (.aG (ax) (.tuple [.agg ag,.bool false]) h1<|.tt<|.fin ((.ret (.tuple [.sl .full [],.int .i64 3]),{boxes:=[[.sl .sh (s.nodes.map aA),.sl .sh (s.aj.map af),.sl .sh (s.aY.map aP)],ag],toks:=[],loops:=[]:Heap})) (by exact⟨false,rfl⟩))
 |some n=>
  rw[hf]at h1
  have e:dG s name=gI [] ((s.aj.filter fun p=>p.node==name).map (·.need)):=by unfold dG;rw[hf]
  rw[e]
  have h2:=sF s name hs (aA n).cells s.aj 0 rfl [] ⟨by simp,fun x hx=>by cases hx⟩ false
  have ek:kq false=.full:=rfl
  rw[ek]at h2
  exact let ag:List AV:=[.str n.name,.sl .sh (n.cap.map ai),.sl .sh (n.labels.map aI),.sl .sh (n.aV.map bu),.bool n.br];let ax:List AV:=[.sl .sh (s.nodes.map aA),.str name];gG 90 [] trivial (.aG (ax) (.tuple [.agg ag,.bool true]) h1<|.ff<|.aT uP [(1,.str name),(2,.ptr 0 0),(8,.sl .full []),(9,.int .i64 0)] ({boxes:=[[.sl .sh (s.nodes.map aA),.sl .sh (s.aj.map af),.sl .sh (s.aY.map aP)],ag],toks:=[],loops:=[]:Heap}) (fun T hT=>(h2 T hT)))
theorem tV(s:St){name:List UInt8}(h:name≠[]):dG s name=cU s name:=by
 unfold dG cU xP
 have e:(s.aj.filter fun p=>p.node==name)=s.aj.filter (Dc name):=by
  refine List.filter_congr fun p _=> ?_
  simp[Dc,h]
 rw[e]
def iq(s:St):List aH×Int:=gI [] (s.nodes.map (·.cap))
theorem rJ(s:St)(hs:jm s):∀(post:List Node)(i:Nat)(hd:s.nodes.drop i=post)(acc:List aH)(ha:acc.length≤8∧pJ acc)(c:Bool)(T:Env)
 (hT:Has T [(1,.ptr 0 0),(4,.sl (kq c) (acc.map ai)),(5,.int .i64 i)]),
 bA cfg IQ zC T ⟨[(aB s).cells],[],[]⟩ (xO (gI acc (post.map (·.cap)))):=by
 intro post
 induction post with
 |nil=>
  intro i hd acc ha c T hT
  have hge:=bf hd
  have hp:=hs.nodes
  have e:gI acc (([]:List Node).map (·.cap))=(acc,0):=rfl
  rw[e]
  exact gG 60 _ hT (.len (lM .sh aA s.nodes)<|.no (dF ((↑i:Int)<(↑s.nodes.length:Int)))<|.fin ((.ret (.tuple [.sl (kq c) (acc.map ai),.int .i64 0]),{boxes:=[[.sl .sh (s.nodes.map aA),.sl .sh (s.aj.map af),.sl .sh (s.aY.map aP)]],toks:=[],loops:=[]:Heap})) (by exact⟨c,rfl⟩))
 |cons x post ih=>
  intro i hd acc ha c T hT
  have hlt:=bg hd
  have cq:=aL hd
  have hp:=hs.nodes
  have cn:cc 5 (.sl .sh (s.nodes.map aA)) (.int .i64 (i:Nat))=some (.ref (aA x).cells):=bx (f:=aA) hd rfl
  have hx:=hs.cap x (eo hd)
  obtain⟨c2,h2⟩:=Q1 acc x.cap (by omega) hx.len ha.2 hx.rg
  have hr:=nO acc x.cap
  have e2:gI acc ((x::post).map (·.cap))=if(gu acc x.cap).2=0 then gI (gu acc x.cap).1 (post.map (·.cap))else([],(gu acc x.cap).2):=rfl
  rw[e2]
  generalize gu acc x.cap=z at h2 hr⊢
  obtain⟨w,er⟩:=z
  simp only at h2 hr⊢
  by_cases h0:er=0
  ·subst h0
   rw[if_pos rfl]
   have cQ:=ih (i+1) cq w ⟨hr.2,hr.1⟩ true
   have ek:kq true=.sh:=rfl
   rw[ek]at cQ
   exact gG 120 _ hT (.len (lM .sh aA s.nodes)<|.yes (dT ((↑i:Int)<(↑s.nodes.length:Int)))<|.idx cn<|.bE ([.sl (kq c) (acc.map ai),.sl .sh (x.cap.map ai)]) (.tuple [.sl .sh (List.map ai (w,(0:Int)).fst),.int .i64 (w,(0:Int)).snd]) h2 cA.p fe.p<|.ff<|.bin (iI i)<|.aT zC [(1,.ptr 0 0),(4,.sl .sh (List.map ai (w,(0:Int)).fst)),(5,.int .i64 (↑(i+1)))] ({boxes:=[[.sl .sh (s.nodes.map aA),.sl .sh (s.aj.map af),.sl .sh (s.aY.map aP)]],toks:=[],loops:=[]:Heap}) (fun T hT=>(cQ T hT)))
  ·rw[if_neg h0]
   exact gG 120 _ hT (.len (lM .sh aA s.nodes)<|.yes (dT ((↑i:Int)<(↑s.nodes.length:Int)))<|.idx cn<|.bE ([.sl (kq c) (acc.map ai),.sl .sh (x.cap.map ai)]) (.tuple [.sl .sh (List.map ai (w,er).fst),.int .i64 (w,er).snd]) h2 cA.p fe.p<|.yes (show((w,er).snd !=(0:Int))=true from(by simpa using h0))<|.fin ((.ret (.tuple [.sl .full [],.int .i64 (w,er).snd]),{boxes:=[[.sl .sh (s.nodes.map aA),.sl .sh (s.aj.map af),.sl .sh (s.aY.map aP)]],toks:=[],loops:=[]:Heap})) (by exact⟨false,rfl⟩))
theorem De(s:St)(hs:jm s):∃c,aq cfg 123 [aB s] (xN c (iq s)):=by
 refine xO.GX (TQ _ _) ?_
 have h2:=rJ s hs s.nodes 0 rfl [] ⟨by simp,fun x hx=>by cases hx⟩ false
 have ek:kq false=.full:=rfl
 rw[ek]at h2
 unfold iq
 exact gG 90 [] trivial (.aT zC [(1,.ptr 0 0),(4,.sl .full []),(5,.int .i64 0)] ({boxes:=[[.sl .sh (s.nodes.map aA),.sl .sh (s.aj.map af),.sl .sh (s.aY.map aP)]],toks:=[],loops:=[]:Heap}) (fun T hT=>(h2 T hT)))
theorem vp:∀(vs:List (List aH))(acc:List aH),acc.length≤8∧pJ acc→(gI acc vs).1.length≤8∧pJ (gI acc vs).1
 |[],acc,h=>h
 |v::vs,acc,h=>by
  unfold gI
  split
  ·exact vp vs _ ⟨(nO acc v).2,(nO acc v).1⟩
  ·exact⟨by simp,fun x hx=>by cases hx⟩
theorem xT(s:St)(name:List UInt8):(cU s name).1.length≤8∧pJ (cU s name).1:=by
 unfold cU
 split
 ·exact⟨by simp,fun x hx=>by cases hx⟩
 ·exact vp _ _ ⟨by simp,fun x hx=>by cases hx⟩
theorem G9(s:St)(name:List UInt8):(dG s name).1.length≤8∧pJ (dG s name).1:=by
 unfold dG
 split
 ·exact⟨by simp,fun x hx=>by cases hx⟩
 ·exact vp _ _ ⟨by simp,fun x hx=>by cases hx⟩
end Go.Aa.T
namespace Go.Aa.T
open Go.Aa Go.Proofs
section
variable{call:bL}{i p:Nat}{o:aK}{ops:List aK}{T:Env}{H H':Heap}{u v:AV}
theorem lN(hg:o.guard=none)(h:aM call o.op T H=some (.val u H')):dJ call i (o::ops) none T H=dJ call (i+1) ops none (aU T o.dst u) H':=by
 simp only[dJ,cJ,hg,h]
theorem He(hg:o.guard=none)(h:aM call o.op T H=some (.cS v H')):dJ call i (o::ops) none T H=dJ call (i+1) ops (some (i,v)) T H':=by
 simp only[dJ,cJ,hg,h]
theorem Df(hd:o.deps.contains p=true):dJ call i (o::ops) (some (p,v)) T H=dJ call (i+1) ops (some (p,v)) T H:=by
 simp only[dJ,hd,if_true]
theorem Dg(hd:o.deps.contains p=false)(hg:o.guard=none)(h:aM call o.op T H=some (.val u H')):dJ call i (o::ops) (some (p,v)) T H=dJ call (i+1) ops (some (p,v)) (aU T o.dst u) H':=by
 simp only[dJ,cJ,hd,hg,h,Bool.false_eq_true,if_false]
end
theorem bA.imp{A:aO}{k:List c7}{T:Env}{H:Heap}{R R':cZ×Heap→Prop}(h:bA cfg A k T H R)(hi:∀r,R r→R' r):bA cfg A k T H R':=by
 obtain⟨r,h1,h2⟩:=h
 exact⟨r,h1,hi r h2⟩
theorem nP{agg:Bool}{n k off:Nat}{H:Heap}{cs:List AV}{v:AV}(h:H.boxes[k]?=some cs)(e:ak agg n ⟨[cs],[],[]⟩ (.ptr 0 off)=some v)(T:Env):aM (lim cfg) (.load agg n (.c (.ptr k off))) T H=some (.val v H):=by
 simp only[aM,aR,ev,ah h e]
end Go.Aa.T

