/-
  WHAT THE LAW LEANS ON, part 10 of 14: a machine of values and its soundness; the functions of the law upon it; what they come to.
-/
import Derived.Test.YthlhlfiklmmenaaGreatDoorYonci
set_option linter.unusedVariables false
set_option linter.unusedSimpArgs false
set_option maxRecDepth 100000
namespace Go.Aa.T
open Go.Aa Go.Proofs
instance(n:Pod):Dat (encPd n):=⟨rfl,rfl⟩
def fewPd(p:Pod):Bool:=decide (p.name.length≤50)&&(decide (p.owner.length≤50)&&(decide (p.key.length≤50)&&(decide (p.node.length≤50)&&(fewA p.need&&(fewP p.labels&&(fewM p.sel&&fewL p.tols))))))
theorem fewPd_any(p:Pod):Gives cfg 117 [encPd p] (.bool (fewPd p)):=by
 refine Gives.run (l117 _ _) ?_
 exact let ζ1:Heap:={boxes:=[[.str p.name,.str p.owner,.int .i64 p.prio,.sl .sh (p.need.map encA),.sl .sh (p.labels.map encP),.sl .sh (p.sel.map encM),.sl .sh (p.tols.map encL),.str p.key,.int .i64 p.most,.str p.node,.bool p.hold]],toks:=[],loops:=[]:Heap};gG 120 [] trivial (.len (show lenA true (.str p.name)=some (.int .i64 (↑p.name.length))from len_str _)<|.split ((↑p.name.length:Int)≤(50:Int)) (fun h1=>.yes (dT ((↑p.name.length:Int)≤(50:Int)) h1)<|.len (show lenA true (.str p.owner)=some (.int .i64 (↑p.owner.length))from len_str _)<|.split ((↑p.owner.length:Int)≤(50:Int)) (fun h2=>.yes (dT ((↑p.owner.length:Int)≤(50:Int)) h2)<|.len (show lenA true (.str p.key)=some (.int .i64 (↑p.key.length))from len_str _)<|.split ((↑p.key.length:Int)≤(50:Int)) (fun h3=>.yes (dT ((↑p.key.length:Int)≤(50:Int)) h3)<|.len (show lenA true (.str p.node)=some (.int .i64 (↑p.node.length))from len_str _)<|.split ((↑p.node.length:Int)≤(50:Int)) (fun h4=>.yes (dT ((↑p.node.length:Int)≤(50:Int)) h4)<|.callK ([.sl .sh (p.need.map encA)]) (.bool (fewA p.need)) (show Gives cfg 203 [.sl .sh (p.need.map encA)] (.bool (fewA p.need))from fewA_any _)<|.split (fewA p.need=true) (fun h5=>.yes (show(fewA p.need)=true from h5)<|.callK ([.sl .sh (p.labels.map encP)]) (.bool (fewP p.labels)) (show Gives cfg 204 [.sl .sh (p.labels.map encP)] (.bool (fewP p.labels))from fewP_any _)<|.split (fewP p.labels=true) (fun h6=>.yes (show(fewP p.labels)=true from h6)<|.callK ([.sl .sh (p.sel.map encM)]) (.bool (fewM p.sel)) (show Gives cfg 202 [.sl .sh (p.sel.map encM)] (.bool (fewM p.sel))from fewM_any _)<|.split (fewM p.sel=true) (fun h7=>.yes (show(fewM p.sel)=true from h7)<|.callK ([.sl .sh (p.tols.map encL)]) (.bool (fewL p.tols)) (show Gives cfg 206 [.sl .sh (p.tols.map encL)] (.bool (fewL p.tols))from fewL_any _)<|.fin ((.ret (.bool (fewL p.tols)),ζ1)) (by simp only[IsRet];grind[fewPd])) (fun h7=>.no (show(fewM p.sel)=false from Bool.eq_false_iff.2 h7)<|.fin ((.ret (.bool false),ζ1)) (by simp only[IsRet];grind[fewPd]))) (fun h6=>.no (show(fewP p.labels)=false from Bool.eq_false_iff.2 h6)<|.ff<|.fin ((.ret (.bool false),ζ1)) (by simp only[IsRet];grind[fewPd]))) (fun h5=>.no (show(fewA p.need)=false from Bool.eq_false_iff.2 h5)<|.ff<|.ff<|.fin ((.ret (.bool false),ζ1)) (by simp only[IsRet];grind[fewPd]))) (fun h4=>.no (dF ((↑p.node.length:Int)≤(50:Int)) h4)<|.ff<|.ff<|.ff<|.fin ((.ret (.bool false),ζ1)) (by simp only[IsRet];grind[fewPd]))) (fun h3=>.no (dF ((↑p.key.length:Int)≤(50:Int)) h3)<|.ff<|.ff<|.ff<|.ff<|.fin ((.ret (.bool false),ζ1)) (by simp only[IsRet];grind[fewPd]))) (fun h2=>.no (dF ((↑p.owner.length:Int)≤(50:Int)) h2)<|.ff<|.ff<|.ff<|.ff<|.ff<|.fin ((.ret (.bool false),ζ1)) (by simp only[IsRet];grind[fewPd]))) (fun h1=>.no (dF ((↑p.name.length:Int)≤(50:Int)) h1)<|.ff<|.ff<|.ff<|.ff<|.ff<|.ff<|.fin ((.ret (.bool false),ζ1)) (by simp only[IsRet];grind[fewPd])))
structure FewPod(p:Pod):Prop where
 name:p.name.length≤50
 owner:p.owner.length≤50
 key:p.key.length≤50
 node:p.node.length≤50
 need:p.need.length≤20
 labels:p.labels.length≤20
 sel:p.sel.length≤20
 tols:p.tols.length≤20
 fneed:fewA p.need=true
 flabels:fewP p.labels=true
 fsel:fewM p.sel=true
 ftols:fewL p.tols=true
theorem fewPod{p:Pod}(h:fewPd p=true):FewPod p:=by
 simp only[fewPd,Bool.and_eq_true,decide_eq_true_eq]at h
 obtain⟨h1,h2,h3,h4,h5,h6,h7,h8⟩:=h
 exact⟨h1,h2,h3,h4,fewA_len h5,fewP_len h6,fewM_len h7,fewL_len h8,h5,h6,h7,h8⟩
theorem ofPd1(p:Pod)(m1:p.need.length≤20)(m2:p.labels.length≤20)(m3:p.sel.length≤20)(m4:p.tols.length≤20):Gives cfg 112 [encPd p] (encPd p):=by
 refine Gives.run (l112 _ _) ?_
 exact let ζ1:List AV:=[.str p.name,.str p.owner,.int .i64 p.prio,.sl .sh (p.need.map encA),.sl .sh (p.labels.map encP),.sl .sh (p.sel.map encM),.sl .sh (p.tols.map encL),.str p.key,.int .i64 p.most,.str p.node,.bool p.hold];gG 120 [] trivial (.callG ([.sl .sh (p.need.map encA)]) (.sl .sh (p.need.map encA)) (show Gives cfg 196 [.sl .sh (p.need.map encA)] (rowS Heap.nil (p.need.map encA))from ofA_any _ m1) ⟨rfl,rfl⟩ Res.p<|.callG ([.sl .sh (p.labels.map encP)]) (.sl .sh (p.labels.map encP)) (show Gives cfg 197 [.sl .sh (p.labels.map encP)] (rowS Heap.nil (p.labels.map encP))from ofP_any _ m2) ⟨rfl,rfl⟩ Res.p<|.callG ([.sl .sh (p.sel.map encM)]) (.sl .sh (p.sel.map encM)) (show Gives cfg 198 [.sl .sh (p.sel.map encM)] (rowS Heap.nil (p.sel.map encM))from ofM_any _ m3) ⟨rfl,rfl⟩ Res.p<|.callG ([.sl .sh (p.tols.map encL)]) (.sl .sh (p.tols.map encL)) (show Gives cfg 199 [.sl .sh (p.tols.map encL)] (rowS Heap.nil (p.tols.map encL))from ofL_any _ m4) ⟨rfl,rfl⟩ Res.p<|.fin ((.ret (.agg ζ1),{boxes:=[ζ1,ζ1],toks:=[],loops:=[]:Heap})) rfl)
theorem ofPd_any(p:Pod)(h:fewPd p=true):Gives cfg 112 [encPd p] (encPd p):=ofPd1 p (fewPod h).need (fewPod h).labels (fewPod h).sel (fewPod h).tols
theorem ofPds_loop(l:List Pod)(hn:l.length≤140)(hf:∀x∈l,fewPd x=true):∀(post:List Pod)(i:Nat)(acc:List AV)(hd:l.drop i=post)(ha:acc.length=i)(hl:lenOk 11 acc=true)(T:Env)(hT:Has T [(0,.sl .sh (l.map encPd)),(3,rowS Heap.nil acc),(4,.int .i64 i)]),
 Goes cfg a48 k48_0 T (rowH Heap.nil acc) (IsRet (rowS Heap.nil (acc++post.map encPd))):=by
 intro post
 induction post with
 |nil=>
  intro i acc hd ha hl T hT
  have hge:=drop_ge hd
  exact gG 60 _ hT (.len (lM .sh encPd l)<|.no (dF ((↑i:Int)<(↑l.length:Int)))<|.fin ((.ret (setD (setD (setD (setD (setD (setD (updL T [(0,.sl .sh (l.map encPd)),(3,rowS Heap.nil acc),(4,.int .i64 ↑i)]) (some 5) (ev (updL T [(0,.sl .sh (l.map encPd)),(3,rowS Heap.nil acc),(4,.int .i64 ↑i)]) (.t 4))) (some 6) (ev (setD (updL T [(0,.sl .sh (l.map encPd)),(3,rowS Heap.nil acc),(4,.int .i64 ↑i)]) (some 5) (ev (updL T [(0,.sl .sh (l.map encPd)),(3,rowS Heap.nil acc),(4,.int .i64 ↑i)]) (.t 4))) (.t 0))) (some 7) (.int .i64 (↑l.length))) (some 8) (.bool (decide ((↑i:Int)<(↑l.length:Int))))) (some 19) (ev (setD (setD (setD (setD (updL T [(0,.sl .sh (l.map encPd)),(3,rowS Heap.nil acc),(4,.int .i64 ↑i)]) (some 5) (ev (updL T [(0,.sl .sh (l.map encPd)),(3,rowS Heap.nil acc),(4,.int .i64 ↑i)]) (.t 4))) (some 6) (ev (setD (updL T [(0,.sl .sh (l.map encPd)),(3,rowS Heap.nil acc),(4,.int .i64 ↑i)]) (some 5) (ev (updL T [(0,.sl .sh (l.map encPd)),(3,rowS Heap.nil acc),(4,.int .i64 ↑i)]) (.t 4))) (.t 0))) (some 7) (.int .i64 (↑l.length))) (some 8) (.bool (decide ((↑i:Int)<(↑l.length:Int))))) (.t 3))) (some 2) (ev (setD (setD (setD (setD (setD (updL T [(0,.sl .sh (l.map encPd)),(3,rowS Heap.nil acc),(4,.int .i64 ↑i)]) (some 5) (ev (updL T [(0,.sl .sh (l.map encPd)),(3,rowS Heap.nil acc),(4,.int .i64 ↑i)]) (.t 4))) (some 6) (ev (setD (updL T [(0,.sl .sh (l.map encPd)),(3,rowS Heap.nil acc),(4,.int .i64 ↑i)]) (some 5) (ev (updL T [(0,.sl .sh (l.map encPd)),(3,rowS Heap.nil acc),(4,.int .i64 ↑i)]) (.t 4))) (.t 0))) (some 7) (.int .i64 (↑l.length))) (some 8) (.bool (decide ((↑i:Int)<(↑l.length:Int))))) (some 19) (ev (setD (setD (setD (setD (updL T [(0,.sl .sh (l.map encPd)),(3,rowS Heap.nil acc),(4,.int .i64 ↑i)]) (some 5) (ev (updL T [(0,.sl .sh (l.map encPd)),(3,rowS Heap.nil acc),(4,.int .i64 ↑i)]) (.t 4))) (some 6) (ev (setD (updL T [(0,.sl .sh (l.map encPd)),(3,rowS Heap.nil acc),(4,.int .i64 ↑i)]) (some 5) (ev (updL T [(0,.sl .sh (l.map encPd)),(3,rowS Heap.nil acc),(4,.int .i64 ↑i)]) (.t 4))) (.t 0))) (some 7) (.int .i64 (↑l.length))) (some 8) (.bool (decide ((↑i:Int)<(↑l.length:Int))))) (.t 3))) (.t 19)) 2),rowH Heap.nil acc)) (by simp only[IsRet,List.map_nil,List.append_nil];rfl))
 |cons x post ih=>
  intro i acc hd ha hl T hT
  have hlt:=drop_lt hd
  have hnx:=drop_next hd
  have hx:=hf x (drop_mem hd)
  exact gG 60 _ hT (.len (lM .sh encPd l)<|.yes (dT ((↑i:Int)<(↑l.length:Int)) (by simp;omega))<|.idx (iR 11 encPd hd)<|.load (rfl:loadA true 11 (rowH Heap.nil acc) (.ref [.str x.name,.str x.owner,.int .i64 x.prio,.sl .sh (x.need.map encA),.sl .sh (x.labels.map encP),.sl .sh (x.sel.map encM),.sl .sh (x.tols.map encL),.str x.key,.int .i64 x.most,.str x.node,.bool x.hold])=some (.agg [.str x.name,.str x.owner,.int .i64 x.prio,.sl .sh (x.need.map encA),.sl .sh (x.labels.map encP),.sl .sh (x.sel.map encM),.sl .sh (x.tols.map encL),.str x.key,.int .i64 x.most,.str x.node,.bool x.hold]))<|.callK ([.agg [.str x.name,.str x.owner,.int .i64 x.prio,.sl .sh (x.need.map encA),.sl .sh (x.labels.map encP),.sl .sh (x.sel.map encM),.sl .sh (x.tols.map encL),.str x.key,.int .i64 x.most,.str x.node,.bool x.hold]]) (.agg [.str x.name,.str x.owner,.int .i64 x.prio,.sl .sh (x.need.map encA),.sl .sh (x.labels.map encP),.sl .sh (x.sel.map encM),.sl .sh (x.tols.map encL),.str x.key,.int .i64 x.most,.str x.node,.bool x.hold]) (show Gives cfg 112 [encPd x] (encPd x)from ofPd_any _ hx)<|.append (show appendA 11 184 (rowH Heap.nil acc) (rowS Heap.nil acc) (.sl .full [.agg [.str x.name,.str x.owner,.int .i64 x.prio,.sl .sh (x.need.map encA),.sl .sh (x.labels.map encP),.sl .sh (x.sel.map encM),.sl .sh (x.tols.map encL),.str x.key,.int .i64 x.most,.str x.node,.bool x.hold]])=some ((rowS Heap.nil (acc++[AV.agg [.str x.name,.str x.owner,.int .i64 x.prio,.sl .sh (x.need.map encA),.sl .sh (x.labels.map encP),.sl .sh (x.sel.map encM),.sl .sh (x.tols.map encL),.str x.key,.int .i64 x.most,.str x.node,.bool x.hold]]),rowH Heap.nil (acc++[AV.agg [.str x.name,.str x.owner,.int .i64 x.prio,.sl .sh (x.need.map encA),.sl .sh (x.labels.map encP),.sl .sh (x.sel.map encM),.sl .sh (x.tols.map encL),.str x.key,.int .i64 x.most,.str x.node,.bool x.hold]])))from row_append (by omega) hl (by rfl) (by rfl))<|.bin (iI i)<|.cutQ k48_0 [(0,.sl .sh (l.map encPd)),(3,rowS Heap.nil (acc++[AV.agg [.str x.name,.str x.owner,.int .i64 x.prio,.sl .sh (x.need.map encA),.sl .sh (x.labels.map encP),.sl .sh (x.sel.map encM),.sl .sh (x.tols.map encL),.str x.key,.int .i64 x.most,.str x.node,.bool x.hold]])),(4,.int .i64 (↑(i+1)))] (rowH Heap.nil (acc++[AV.agg [.str x.name,.str x.owner,.int .i64 x.prio,.sl .sh (x.need.map encA),.sl .sh (x.labels.map encP),.sl .sh (x.sel.map encM),.sl .sh (x.tols.map encL),.str x.key,.int .i64 x.most,.str x.node,.bool x.hold]])) (fun T hT=>(ih (i+1) (acc++[AV.agg [.str x.name,.str x.owner,.int .i64 x.prio,.sl .sh (x.need.map encA),.sl .sh (x.labels.map encP),.sl .sh (x.sel.map encM),.sl .sh (x.tols.map encL),.str x.key,.int .i64 x.most,.str x.node,.bool x.hold]]) hnx (by simp;omega) (by exact lenOk_snoc (by assumption) rfl) T hT).to (by simp[encPd])))
theorem ofPds_any(l:List Pod)(hn:l.length≤140)(hf:∀x∈l,fewPd x=true):Gives cfg 48 [.sl .sh (l.map encPd)] (rowS Heap.nil (l.map encPd)):=by
 refine Gives.run (l48 _ _) ?_
 have h:=ofPds_loop l hn hf l 0 [] rfl rfl rfl
 exact gG 60 [] trivial (.cutQ k48_0 [(0,.sl .sh (l.map encPd)),(3,.sl .full []),(4,.int .i64 0)] ({boxes:=[],toks:=[],loops:=[]:Heap}) (fun T hT=>(h T hT)))
theorem ckPd_ref(p:Pod):Gives cfg 208 [encPd p] (.int .i64 (ckPd p)):=by
 refine Gives.run (l208 _ _) ?_
 have e:ckPd p=firstE [if isName p.name then 0 else 3,maybeE p.owner,prioE p,ckV p.need,ckS p.labels,ckM p.sel,ckL p.tols,maybeE p.key,mostE p,maybeE p.node]:=rfl
 have q1:prioE p=if p.prio< -1 then 1 else if 1000000<p.prio then 1 else if p.hold==(p.prio== -1)then 0 else 1:=by
  unfold prioE withinE
  cases p.hold<;>grind
 have q2:mostE p=if p.key=[]then(if p.most=0 then 0 else 1)else(if p.most<1 then 1 else if 128<p.most then 1 else 0):=by
  unfold mostE withinE
  grind
 rw[e,q1,q2]
 clear e q1 q2
 have a1:=ckV_ref p.need
 have a2:=ckS_ref p.labels
 have a3:=ckM_ref p.sel
 have a4:=ckL_any p.tols
 generalize ckV p.need=c1 at a1⊢
 generalize ckS p.labels=c2 at a2⊢
 generalize ckM p.sel=c3 at a3⊢
 generalize ckL p.tols=c4 at a4⊢
 exact let ζ1:Heap:={boxes:=[[.str p.name,.str p.owner,.int .i64 p.prio,.sl .sh (p.need.map encA),.sl .sh (p.labels.map encP),.sl .sh (p.sel.map encM),.sl .sh (p.tols.map encL),.str p.key,.int .i64 p.most,.str p.node,.bool p.hold]],toks:=[],loops:=[]:Heap};gG 160 [] trivial (.callK ([.str p.name]) (.bool (isName p.name)) (show Gives cfg 259 [.str p.name] (.bool (isName p.name))from name_any _)<|.split (isName p.name=true) (fun h1=>.no (show(!isName p.name)=false from by have hh:isName p.name=true:=h1;simp[hh])<|.split ((p.owner==[])=true) (fun h2=>.no (show(!p.owner==[])=false from by have hh:(p.owner==[])=true:=h2;simp[hh])<|.ff<|.split (p.prio<(-1:Int)) (fun h3=>.yes (dT (p.prio<(-1:Int)) h3)<|.tt<|.tt<|.fin ((.ret (.int .i64 1),ζ1)) (by simp only[IsRet];grind[firstE,maybeE])) (fun h3=>.no (dF (p.prio<(-1:Int)) h3)<|.split ((1000000:Int)<p.prio) (fun h4=>.yes (dT ((1000000:Int)<p.prio) h4)<|.tt<|.fin ((.ret (.int .i64 1),ζ1)) (by simp only[IsRet];grind[firstE,maybeE])) (fun h4=>.no (dF ((1000000:Int)<p.prio) h4)<|.split ((if true=true then !p.hold==(p.prio==(-1:Int))else p.hold==(p.prio==(-1:Int)))=true) (fun h5=>.yes (show(if true=true then !p.hold==(p.prio==(-1:Int))else p.hold==(p.prio==(-1:Int)))=true from h5)<|.fin ((.ret (.int .i64 1),ζ1)) (by simp only[IsRet];grind[firstE,maybeE])) (fun h5=>.no (show(if true=true then !p.hold==(p.prio==(-1:Int))else p.hold==(p.prio==(-1:Int)))=false from Bool.eq_false_iff.2 h5)<|.callK ([.sl .sh (p.need.map encA)]) (.int .i64 c1) a1<|.split ((c1 !=(0:Int))=true) (fun h6=>.yes (show(c1 !=(0:Int))=true from h6)<|.fin ((.ret (.int .i64 c1),ζ1)) (by simp only[IsRet];grind[firstE,maybeE])) (fun h6=>.no (show(c1 !=(0:Int))=false from Bool.eq_false_iff.2 h6)<|.callK ([.sl .sh (p.labels.map encP)]) (.int .i64 c2) a2<|.split ((c2 !=(0:Int))=true) (fun h7=>.yes (show(c2 !=(0:Int))=true from h7)<|.fin ((.ret (.int .i64 c2),ζ1)) (by simp only[IsRet];grind[firstE,maybeE])) (fun h7=>.no (show(c2 !=(0:Int))=false from Bool.eq_false_iff.2 h7)<|.callK ([.sl .sh (p.sel.map encM)]) (.int .i64 c3) a3<|.split ((c3 !=(0:Int))=true) (fun h8=>.yes (show(c3 !=(0:Int))=true from h8)<|.fin ((.ret (.int .i64 c3),ζ1)) (by simp only[IsRet];grind[firstE,maybeE])) (fun h8=>.no (show(c3 !=(0:Int))=false from Bool.eq_false_iff.2 h8)<|.callK ([.sl .sh (p.tols.map encL)]) (.int .i64 c4) a4<|.split ((c4 !=(0:Int))=true) (fun h9=>.yes (show(c4 !=(0:Int))=true from h9)<|.fin ((.ret (.int .i64 c4),ζ1)) (by simp only[IsRet];grind[firstE,maybeE])) (fun h9=>.no (show(c4 !=(0:Int))=false from Bool.eq_false_iff.2 h9)<|.split ((p.key==[])=true) (fun h10=>.no (show(!p.key==[])=false from by have hh:(p.key==[])=true:=h10;simp[hh])<|.ff<|.no (show(!p.key==[])=false from by have hh:(p.key==[])=true:=(by omega);simp[hh])<|.ff<|.yes (show(p.key==[])=true from(by omega))<|.split ((p.most !=(0:Int))=true) (fun h11=>.yes (show(p.most !=(0:Int))=true from h11)<|.fin ((.ret (.int .i64 1),ζ1)) (by simp_all+zetaDelta [IsRet,firstE,maybeE];omega)) (fun h11=>.no (show(p.most !=(0:Int))=false from Bool.eq_false_iff.2 h11)<|.split ((p.node==[])=true) (fun h12=>.no (show(!p.node==[])=false from by have hh:(p.node==[])=true:=h12;simp[hh])<|.ff<|.fin ((.ret (.int .i64 0),ζ1)) (by simp_all+zetaDelta [IsRet,firstE,maybeE];omega)) (fun h12=>.yes (show(!p.node==[])=true from by have hh:¬((p.node==[])=true):=h12;simp[hh])<|.callK ([.str p.node]) (.bool (isName p.node)) (show Gives cfg 259 [.str p.node] (.bool (isName p.node))from name_any _)<|.split (isName p.node=true) (fun h13=>.no (show(!isName p.node)=false from by have hh:isName p.node=true:=h13;simp[hh])<|.fin ((.ret (.int .i64 0),ζ1)) (by simp_all+zetaDelta [IsRet,firstE,maybeE];omega)) (fun h13=>.yes (show(!isName p.node)=true from by have hh:¬(isName p.node=true):=h13;simp[hh])<|.fin ((.ret (.int .i64 3),ζ1)) (by simp_all+zetaDelta [IsRet,firstE,maybeE];omega))))) (fun h10=>.yes (show(!p.key==[])=true from by have hh:¬((p.key==[])=true):=h10;simp[hh])<|.callK ([.str p.key]) (.bool (isName p.key)) (show Gives cfg 259 [.str p.key] (.bool (isName p.key))from name_any _)<|.split (isName p.key=true) (fun h11=>.no (show(!isName p.key)=false from by have hh:isName p.key=true:=h11;simp[hh])<|.yes (show(!p.key==[])=true from by have hh:¬((p.key==[])=true):=(by omega);simp[hh])<|.split (p.most<(1:Int)) (fun h12=>.yes (dT (p.most<(1:Int)) h12)<|.tt<|.tt<|.fin ((.ret (.int .i64 1),ζ1)) (by simp_all+zetaDelta [IsRet,firstE,maybeE];omega)) (fun h12=>.no (dF (p.most<(1:Int)) h12)<|.split ((128:Int)<p.most) (fun h13=>.yes (dT ((128:Int)<p.most) h13)<|.tt<|.fin ((.ret (.int .i64 1),ζ1)) (by simp_all+zetaDelta [IsRet,firstE,maybeE];omega)) (fun h13=>.no (dF ((128:Int)<p.most) h13)<|.no (show(p.key==[])=false from Bool.eq_false_iff.2 (by omega))<|.ff<|.split ((p.node==[])=true) (fun h14=>.no (show(!p.node==[])=false from by have hh:(p.node==[])=true:=h14;simp[hh])<|.ff<|.fin ((.ret (.int .i64 0),ζ1)) (by simp_all+zetaDelta [IsRet,firstE,maybeE];omega)) (fun h14=>.yes (show(!p.node==[])=true from by have hh:¬((p.node==[])=true):=h14;simp[hh])<|.callK ([.str p.node]) (.bool (isName p.node)) (show Gives cfg 259 [.str p.node] (.bool (isName p.node))from name_any _)<|.split (isName p.node=true) (fun h15=>.no (show(!isName p.node)=false from by have hh:isName p.node=true:=h15;simp[hh])<|.fin ((.ret (.int .i64 0),ζ1)) (by simp_all+zetaDelta [IsRet,firstE,maybeE];omega)) (fun h15=>.yes (show(!isName p.node)=true from by have hh:¬(isName p.node=true):=h15;simp[hh])<|.fin ((.ret (.int .i64 3),ζ1)) (by simp_all+zetaDelta [IsRet,firstE,maybeE];omega)))))) (fun h11=>.yes (show(!isName p.key)=true from by have hh:¬(isName p.key=true):=h11;simp[hh])<|.fin ((.ret (.int .i64 3),ζ1)) (by simp only[IsRet];grind[firstE,maybeE]))))))))))) (fun h2=>.yes (show(!p.owner==[])=true from by have hh:¬((p.owner==[])=true):=h2;simp[hh])<|.callK ([.str p.owner]) (.bool (isName p.owner)) (show Gives cfg 259 [.str p.owner] (.bool (isName p.owner))from name_any _)<|.split (isName p.owner=true) (fun h3=>.no (show(!isName p.owner)=false from by have hh:isName p.owner=true:=h3;simp[hh])<|.split (p.prio<(-1:Int)) (fun h4=>.yes (dT (p.prio<(-1:Int)) h4)<|.tt<|.tt<|.fin ((.ret (.int .i64 1),ζ1)) (by simp only[IsRet];grind[firstE,maybeE])) (fun h4=>.no (dF (p.prio<(-1:Int)) h4)<|.split ((1000000:Int)<p.prio) (fun h5=>.yes (dT ((1000000:Int)<p.prio) h5)<|.tt<|.fin ((.ret (.int .i64 1),ζ1)) (by simp only[IsRet];grind[firstE,maybeE])) (fun h5=>.no (dF ((1000000:Int)<p.prio) h5)<|.split ((if true=true then !p.hold==(p.prio==(-1:Int))else p.hold==(p.prio==(-1:Int)))=true) (fun h6=>.yes (show(if true=true then !p.hold==(p.prio==(-1:Int))else p.hold==(p.prio==(-1:Int)))=true from h6)<|.fin ((.ret (.int .i64 1),ζ1)) (by simp only[IsRet];grind[firstE,maybeE])) (fun h6=>.no (show(if true=true then !p.hold==(p.prio==(-1:Int))else p.hold==(p.prio==(-1:Int)))=false from Bool.eq_false_iff.2 h6)<|.callK ([.sl .sh (p.need.map encA)]) (.int .i64 c1) a1<|.split ((c1 !=(0:Int))=true) (fun h7=>.yes (show(c1 !=(0:Int))=true from h7)<|.fin ((.ret (.int .i64 c1),ζ1)) (by simp only[IsRet];grind[firstE,maybeE])) (fun h7=>.no (show(c1 !=(0:Int))=false from Bool.eq_false_iff.2 h7)<|.callK ([.sl .sh (p.labels.map encP)]) (.int .i64 c2) a2<|.split ((c2 !=(0:Int))=true) (fun h8=>.yes (show(c2 !=(0:Int))=true from h8)<|.fin ((.ret (.int .i64 c2),ζ1)) (by simp only[IsRet];grind[firstE,maybeE])) (fun h8=>.no (show(c2 !=(0:Int))=false from Bool.eq_false_iff.2 h8)<|.callK ([.sl .sh (p.sel.map encM)]) (.int .i64 c3) a3<|.split ((c3 !=(0:Int))=true) (fun h9=>.yes (show(c3 !=(0:Int))=true from h9)<|.fin ((.ret (.int .i64 c3),ζ1)) (by simp only[IsRet];grind[firstE,maybeE])) (fun h9=>.no (show(c3 !=(0:Int))=false from Bool.eq_false_iff.2 h9)<|.callK ([.sl .sh (p.tols.map encL)]) (.int .i64 c4) a4<|.split ((c4 !=(0:Int))=true) (fun h10=>.yes (show(c4 !=(0:Int))=true from h10)<|.fin ((.ret (.int .i64 c4),ζ1)) (by simp only[IsRet];grind[firstE,maybeE])) (fun h10=>.no (show(c4 !=(0:Int))=false from Bool.eq_false_iff.2 h10)<|.split ((p.key==[])=true) (fun h11=>.no (show(!p.key==[])=false from by have hh:(p.key==[])=true:=h11;simp[hh])<|.ff<|.no (show(!p.key==[])=false from by have hh:(p.key==[])=true:=(by omega);simp[hh])<|.ff<|.yes (show(p.key==[])=true from(by omega))<|.split ((p.most !=(0:Int))=true) (fun h12=>.yes (show(p.most !=(0:Int))=true from h12)<|.fin ((.ret (.int .i64 1),ζ1)) (by simp_all+zetaDelta [IsRet,firstE,maybeE];omega)) (fun h12=>.no (show(p.most !=(0:Int))=false from Bool.eq_false_iff.2 h12)<|.split ((p.node==[])=true) (fun h13=>.no (show(!p.node==[])=false from by have hh:(p.node==[])=true:=h13;simp[hh])<|.ff<|.fin ((.ret (.int .i64 0),ζ1)) (by simp_all+zetaDelta [IsRet,firstE,maybeE];omega)) (fun h13=>.yes (show(!p.node==[])=true from by have hh:¬((p.node==[])=true):=h13;simp[hh])<|.callK ([.str p.node]) (.bool (isName p.node)) (show Gives cfg 259 [.str p.node] (.bool (isName p.node))from name_any _)<|.split (isName p.node=true) (fun h14=>.no (show(!isName p.node)=false from by have hh:isName p.node=true:=h14;simp[hh])<|.fin ((.ret (.int .i64 0),ζ1)) (by simp_all+zetaDelta [IsRet,firstE,maybeE];omega)) (fun h14=>.yes (show(!isName p.node)=true from by have hh:¬(isName p.node=true):=h14;simp[hh])<|.fin ((.ret (.int .i64 3),ζ1)) (by simp_all+zetaDelta [IsRet,firstE,maybeE];omega))))) (fun h11=>.yes (show(!p.key==[])=true from by have hh:¬((p.key==[])=true):=h11;simp[hh])<|.callK ([.str p.key]) (.bool (isName p.key)) (show Gives cfg 259 [.str p.key] (.bool (isName p.key))from name_any _)<|.split (isName p.key=true) (fun h12=>.no (show(!isName p.key)=false from by have hh:isName p.key=true:=h12;simp[hh])<|.yes (show(!p.key==[])=true from by have hh:¬((p.key==[])=true):=(by omega);simp[hh])<|.split (p.most<(1:Int)) (fun h13=>.yes (dT (p.most<(1:Int)) h13)<|.tt<|.tt<|.fin ((.ret (.int .i64 1),ζ1)) (by simp_all+zetaDelta [IsRet,firstE,maybeE];omega)) (fun h13=>.no (dF (p.most<(1:Int)) h13)<|.split ((128:Int)<p.most) (fun h14=>.yes (dT ((128:Int)<p.most) h14)<|.tt<|.fin ((.ret (.int .i64 1),ζ1)) (by simp_all+zetaDelta [IsRet,firstE,maybeE];omega)) (fun h14=>.no (dF ((128:Int)<p.most) h14)<|.no (show(p.key==[])=false from Bool.eq_false_iff.2 (by omega))<|.ff<|.split ((p.node==[])=true) (fun h15=>.no (show(!p.node==[])=false from by have hh:(p.node==[])=true:=h15;simp[hh])<|.ff<|.fin ((.ret (.int .i64 0),ζ1)) (by simp_all+zetaDelta [IsRet,firstE,maybeE];omega)) (fun h15=>.yes (show(!p.node==[])=true from by have hh:¬((p.node==[])=true):=h15;simp[hh])<|.callK ([.str p.node]) (.bool (isName p.node)) (show Gives cfg 259 [.str p.node] (.bool (isName p.node))from name_any _)<|.split (isName p.node=true) (fun h16=>.no (show(!isName p.node)=false from by have hh:isName p.node=true:=h16;simp[hh])<|.fin ((.ret (.int .i64 0),ζ1)) (by simp_all+zetaDelta [IsRet,firstE,maybeE];omega)) (fun h16=>.yes (show(!isName p.node)=true from by have hh:¬(isName p.node=true):=h16;simp[hh])<|.fin ((.ret (.int .i64 3),ζ1)) (by simp_all+zetaDelta [IsRet,firstE,maybeE];omega)))))) (fun h12=>.yes (show(!isName p.key)=true from by have hh:¬(isName p.key=true):=h12;simp[hh])<|.fin ((.ret (.int .i64 3),ζ1)) (by simp only[IsRet];grind[firstE,maybeE]))))))))))) (fun h3=>.yes (show(!isName p.owner)=true from by have hh:¬(isName p.owner=true):=h3;simp[hh])<|.fin ((.ret (.int .i64 3),ζ1)) (by simp only[IsRet];grind[firstE,maybeE])))) (fun h1=>.yes (show(!isName p.name)=true from by have hh:¬(isName p.name=true):=h1;simp[hh])<|.tt<|.fin ((.ret (.int .i64 3),ζ1)) (by simp only[IsRet];grind[firstE,maybeE])))
theorem ckPds_ref_loop(l:List Pod)(hn:l.length≤128):∀(post:List Pod)(i:Nat)(hd:l.drop i=post)(T:Env)(hT:Has T [(0,.sl .sh (l.map encPd)),(3,.int .i64 i)]),
 Goes cfg a119 k119_0 T Heap.nil (IsRet (.int .i64 (ckAl ckPd Pod.name l i post))):=by
 intro post
 induction post with
 |nil=>
  intro i hd T hT
  have hge:=drop_ge hd
  exact gG 60 _ hT (.len (lM .sh encPd l)<|.no (dF ((↑i:Int)<(↑l.length:Int)))<|.fin ((.ret (.int .i64 0),{boxes:=[],toks:=[],loops:=[]:Heap})) rfl)
 |cons x post ih=>
  intro i hd T hT
  have hlt:=drop_lt hd
  have hnx:=drop_next hd
  have hc:=ckPd_ref x
  have e:ckAl ckPd Pod.name l i (x::post)=if ckPd x=0 then(if ordG Pod.name l i x then 13 else ckAl ckPd Pod.name l (i+1) post)else ckPd x:=rfl
  rw[e]
  generalize ckPd x=c at hc⊢
  cases i with
  |zero=>exact let ζ1:Heap:={boxes:=[],toks:=[],loops:=[]:Heap};gG 60 _ hT (.len (lM .sh encPd l)<|.yes (dT ((↑(0:Nat):Int)<(↑l.length:Int)))<|.idx (show idxA 11 (.sl .sh (l.map encPd)) (.int .i64 (↑(0:Nat):Int))=some (.ref (encPd x).cells)from idx_row hd (by rfl))<|.callK ([.agg [.str x.name,.str x.owner,.int .i64 x.prio,.sl .sh (x.need.map encA),.sl .sh (x.labels.map encP),.sl .sh (x.sel.map encM),.sl .sh (x.tols.map encL),.str x.key,.int .i64 x.most,.str x.node,.bool x.hold]]) (.int .i64 c) hc<|.split ((c !=(0:Int))=true) (fun h1=>.yes (show(c !=(0:Int))=true from h1)<|.fin ((.ret (.int .i64 c),ζ1)) (by simp only[IsRet];grind[ordG])) (fun h1=>.no (show(c !=(0:Int))=false from Bool.eq_false_iff.2 h1)<|.ff<|.ff<|.bin (show binA .add (.int .i64 (↑(0:Nat):Int)) (.int .i64 1)=some (.int .i64 (↑(0+1):Int))from inc_i (by omega))<|.cutQ k119_0 [(0,.sl .sh (l.map encPd)),(3,.int .i64 (↑(0+1):Int))] (ζ1) (fun T hT=>(ih (0+1) hnx T hT).to (by grind[ordG]))))
  |succ j=>
   obtain⟨p,hp⟩:∃p,l[j]?=some p:=⟨l[j],List.getElem?_eq_getElem (by omega)⟩
   exact let ζ1:Heap:={boxes:=[],toks:=[],loops:=[]:Heap};gG 60 _ hT (.len (lM .sh encPd l)<|.yes (dT ((↑(j+1):Int)<(↑l.length:Int)))<|.idx (show idxA 11 (.sl .sh (l.map encPd)) (.int .i64 (↑(j+1):Int))=some (.ref (encPd x).cells)from idx_row hd (by rfl))<|.callK ([.agg [.str x.name,.str x.owner,.int .i64 x.prio,.sl .sh (x.need.map encA),.sl .sh (x.labels.map encP),.sl .sh (x.sel.map encM),.sl .sh (x.tols.map encL),.str x.key,.int .i64 x.most,.str x.node,.bool x.hold]]) (.int .i64 c) hc<|.split ((c !=(0:Int))=true) (fun h1=>.yes (show(c !=(0:Int))=true from h1)<|.fin ((.ret (.int .i64 c),ζ1)) (by simp only[IsRet];grind[ordG])) (fun h1=>.no (show(c !=(0:Int))=false from Bool.eq_false_iff.2 h1)<|.yes (dT ((0:Int)<(↑(j+1):Int)))<|.idx (show idxA 11 (.sl .sh (l.map encPd)) (.int .i64 (↑(j+1):Int))=some (.ref (encPd x).cells)from idx_row hd (by rfl))<|.bin (show binA .sub (.int .i64 (↑(j+1):Int)) (.int .i64 1)=some (.int .i64 ↑j)from dec_i (by omega))<|.idx (show idxA 11 (.sl .sh (l.map encPd)) (.int .i64 ↑j)=some (.ref (encPd p).cells)from idx_get hp (by rfl))<|.split ((Op.bytesLess x.name p.name||x.name==p.name)=true) (fun h2=>.yes (show(Op.bytesLess x.name p.name||x.name==p.name)=true from h2)<|.fin ((.ret (.int .i64 13),ζ1)) (by simp only[IsRet];grind[ordG])) (fun h2=>.no (show(Op.bytesLess x.name p.name||x.name==p.name)=false from Bool.eq_false_iff.2 h2)<|.bin (show binA .add (.int .i64 (↑(j+1):Int)) (.int .i64 1)=some (.int .i64 (↑(j+1+1):Int))from inc_i (by omega))<|.cutQ k119_0 [(0,.sl .sh (l.map encPd)),(3,.int .i64 (↑(j+1+1):Int))] (ζ1) (fun T hT=>(ih (j+1+1) hnx T hT).to (by grind[ordG])))))
theorem ckPds_ref(l:List Pod):Gives cfg 119 [.sl .sh (l.map encPd)] (.int .i64 (ckAll 128 ckPd Pod.name l)):=by
 refine Gives.run (l119 _ _) ?_
 have h:=fun hn=>ckPds_ref_loop l hn l 0 rfl
 exact let ζ1:Heap:={boxes:=[],toks:=[],loops:=[]:Heap};gG 60 [] trivial (.len (lM .sh encPd l)<|.split ((128:Int)<(↑l.length:Int)) (fun h1=>.yes (dT ((128:Int)<(↑l.length:Int)) h1)<|.fin ((.ret (.int .i64 4),ζ1)) (by simp only[IsRet];grind[ckAll])) (fun h1=>.no (dF ((128:Int)<(↑l.length:Int)) h1)<|.cutQ k119_0 [(0,.sl .sh (l.map encPd)),(3,.int .i64 0)] (ζ1) (fun T hT=>(h (by omega) T hT).to (by grind[ckAll]))))
end Go.Aa.T
set_option linter.unusedVariables false
set_option linter.unusedSimpArgs false
set_option maxRecDepth 100000
namespace Go.Aa.T
open Go.Aa Go.Proofs
structure Bud where
 name:List UInt8
 sel:List Term
 floor:Int
def encB(b:Bud):AV:=.agg [.str b.name,.sl .sh (b.sel.map encM),.int .i64 b.floor]
instance(n:Bud):Dat (encB n):=⟨rfl,rfl⟩
def fewB1(b:Bud):Bool:=decide (b.name.length≤50)&&fewM b.sel
def fewBs(l:List Bud):Bool:=decide (l.length≤20)&&l.all fewB1
theorem fewBs_len{l:List Bud}(h:fewBs l=true):l.length≤20:=by
 simp only[fewBs,Bool.and_eq_true,decide_eq_true_eq]at h;exact h.1
theorem fewBs_all{l:List Bud}(h:fewBs l=true):∀x∈l,fewB1 x=true:=by
 simp only[fewBs,Bool.and_eq_true,decide_eq_true_eq,List.all_eq_true]at h;exact h.2
theorem fewB1_sel{b:Bud}(h:fewB1 b=true):b.sel.length≤20:=by
 simp only[fewB1,Bool.and_eq_true,decide_eq_true_eq]at h;exact fewM_len h.2
theorem fewBs_loop(l:List Bud)(hn:l.length≤20):∀(post:List Bud)(i:Nat)(hd:l.drop i=post)(T:Env)(hT:Has T [(0,.sl .sh (l.map encB)),(3,.int .i64 i)]),
 Goes cfg a115 k115_0 T Heap.nil (IsRet (.bool (post.all fewB1))):=by
 intro post
 induction post with
 |nil=>
  intro i hd T hT
  have hge:=drop_ge hd
  exact gG 60 _ hT (.len (lM .sh encB l)<|.no (dF ((↑i:Int)<(↑l.length:Int)))<|.fin ((.ret (.bool true),{boxes:=[],toks:=[],loops:=[]:Heap})) rfl)
 |cons x post ih=>
  intro i hd T hT
  have hlt:=drop_lt hd
  have hnx:=drop_next hd
  exact let ζ1:Heap:={boxes:=[],toks:=[],loops:=[]:Heap};gG 60 _ hT (.len (lM .sh encB l)<|.yes (dT ((↑i:Int)<(↑l.length:Int)))<|.idx (iR 3 encB hd)<|.len (show lenA true (.str x.name)=some (.int .i64 (↑x.name.length))from len_str _)<|.split ((50:Int)<(↑x.name.length:Int)) (fun h1=>.yes (dT ((50:Int)<(↑x.name.length:Int)) h1)<|.tt<|.fin ((.ret (.bool false),ζ1)) (by simp only[IsRet];grind[fewB1])) (fun h1=>.no (dF ((50:Int)<(↑x.name.length:Int)) h1)<|.idx (iR 3 encB hd)<|.callK ([.sl .sh (x.sel.map encM)]) (.bool (fewM x.sel)) (show Gives cfg 202 [.sl .sh (x.sel.map encM)] (.bool (fewM x.sel))from fewM_any _)<|.split (fewM x.sel=true) (fun h2=>.no (show(!fewM x.sel)=false from by have hh:fewM x.sel=true:=h2;simp[hh])<|.bin (iI i)<|.cutQ k115_0 [(0,.sl .sh (l.map encB)),(3,.int .i64 (↑(i+1)))] (ζ1) (fun T hT=>(ih (i+1) hnx T hT).to (by grind[fewB1]))) (fun h2=>.yes (show(!fewM x.sel)=true from by have hh:¬(fewM x.sel=true):=h2;simp[hh])<|.fin ((.ret (.bool false),ζ1)) (by simp only[IsRet];grind[fewB1]))))
theorem fewBs_any(l:List Bud):Gives cfg 115 [.sl .sh (l.map encB)] (.bool (fewBs l)):=by
 refine Gives.run (l115 _ _) ?_
 have h:=fun hn=>fewBs_loop l hn l 0 rfl
 exact let ζ1:Heap:={boxes:=[],toks:=[],loops:=[]:Heap};gG 60 [] trivial (.len (lM .sh encB l)<|.split ((20:Int)<(↑l.length:Int)) (fun h1=>.yes (dT ((20:Int)<(↑l.length:Int)) h1)<|.fin ((.ret (.bool false),ζ1)) (by simp only[IsRet];grind[fewBs])) (fun h1=>.no (dF ((20:Int)<(↑l.length:Int)) h1)<|.cutQ k115_0 [(0,.sl .sh (l.map encB)),(3,.int .i64 0)] (ζ1) (fun T hT=>(h (by omega) T hT).to (by grind[fewBs]))))
theorem ofB1(b:Bud)(m1:b.sel.length≤20):Gives cfg 125 [encB b] (encB b):=by
 refine Gives.run (l125 _ _) ?_
 exact let ζ1:List AV:=[.str b.name,.sl .sh (b.sel.map encM),.int .i64 b.floor];gG 80 [] trivial (.callG ([.sl .sh (b.sel.map encM)]) (.sl .sh (b.sel.map encM)) (show Gives cfg 198 [.sl .sh (b.sel.map encM)] (rowS Heap.nil (b.sel.map encM))from ofM_any _ m1) ⟨rfl,rfl⟩ Res.p<|.fin ((.ret (.agg ζ1),{boxes:=[ζ1,ζ1],toks:=[],loops:=[]:Heap})) rfl)
theorem ofB_any(b:Bud)(h:fewB1 b=true):Gives cfg 125 [encB b] (encB b):=ofB1 b (fewB1_sel h)
theorem ofBs_loop(l:List Bud)(hn:l.length≤20)(hf:∀x∈l,fewB1 x=true):∀(post:List Bud)(i:Nat)(acc:List AV)(hd:l.drop i=post)(ha:acc.length=i)(hl:lenOk 3 acc=true)(T:Env)(hT:Has T [(0,.sl .sh (l.map encB)),(3,rowS Heap.nil acc),(4,.int .i64 i)]),
 Goes cfg a54 k54_0 T (rowH Heap.nil acc) (IsRet (rowS Heap.nil (acc++post.map encB))):=by
 intro post
 induction post with
 |nil=>
  intro i acc hd ha hl T hT
  have hge:=drop_ge hd
  exact gG 60 _ hT (.len (lM .sh encB l)<|.no (dF ((↑i:Int)<(↑l.length:Int)))<|.fin ((.ret (setD (setD (setD (setD (setD (setD (updL T [(0,.sl .sh (l.map encB)),(3,rowS Heap.nil acc),(4,.int .i64 ↑i)]) (some 5) (ev (updL T [(0,.sl .sh (l.map encB)),(3,rowS Heap.nil acc),(4,.int .i64 ↑i)]) (.t 4))) (some 6) (ev (setD (updL T [(0,.sl .sh (l.map encB)),(3,rowS Heap.nil acc),(4,.int .i64 ↑i)]) (some 5) (ev (updL T [(0,.sl .sh (l.map encB)),(3,rowS Heap.nil acc),(4,.int .i64 ↑i)]) (.t 4))) (.t 0))) (some 7) (.int .i64 (↑l.length))) (some 8) (.bool (decide ((↑i:Int)<(↑l.length:Int))))) (some 19) (ev (setD (setD (setD (setD (updL T [(0,.sl .sh (l.map encB)),(3,rowS Heap.nil acc),(4,.int .i64 ↑i)]) (some 5) (ev (updL T [(0,.sl .sh (l.map encB)),(3,rowS Heap.nil acc),(4,.int .i64 ↑i)]) (.t 4))) (some 6) (ev (setD (updL T [(0,.sl .sh (l.map encB)),(3,rowS Heap.nil acc),(4,.int .i64 ↑i)]) (some 5) (ev (updL T [(0,.sl .sh (l.map encB)),(3,rowS Heap.nil acc),(4,.int .i64 ↑i)]) (.t 4))) (.t 0))) (some 7) (.int .i64 (↑l.length))) (some 8) (.bool (decide ((↑i:Int)<(↑l.length:Int))))) (.t 3))) (some 2) (ev (setD (setD (setD (setD (setD (updL T [(0,.sl .sh (l.map encB)),(3,rowS Heap.nil acc),(4,.int .i64 ↑i)]) (some 5) (ev (updL T [(0,.sl .sh (l.map encB)),(3,rowS Heap.nil acc),(4,.int .i64 ↑i)]) (.t 4))) (some 6) (ev (setD (updL T [(0,.sl .sh (l.map encB)),(3,rowS Heap.nil acc),(4,.int .i64 ↑i)]) (some 5) (ev (updL T [(0,.sl .sh (l.map encB)),(3,rowS Heap.nil acc),(4,.int .i64 ↑i)]) (.t 4))) (.t 0))) (some 7) (.int .i64 (↑l.length))) (some 8) (.bool (decide ((↑i:Int)<(↑l.length:Int))))) (some 19) (ev (setD (setD (setD (setD (updL T [(0,.sl .sh (l.map encB)),(3,rowS Heap.nil acc),(4,.int .i64 ↑i)]) (some 5) (ev (updL T [(0,.sl .sh (l.map encB)),(3,rowS Heap.nil acc),(4,.int .i64 ↑i)]) (.t 4))) (some 6) (ev (setD (updL T [(0,.sl .sh (l.map encB)),(3,rowS Heap.nil acc),(4,.int .i64 ↑i)]) (some 5) (ev (updL T [(0,.sl .sh (l.map encB)),(3,rowS Heap.nil acc),(4,.int .i64 ↑i)]) (.t 4))) (.t 0))) (some 7) (.int .i64 (↑l.length))) (some 8) (.bool (decide ((↑i:Int)<(↑l.length:Int))))) (.t 3))) (.t 19)) 2),rowH Heap.nil acc)) (by simp only[IsRet,List.map_nil,List.append_nil];rfl))
 |cons x post ih=>
  intro i acc hd ha hl T hT
  have hlt:=drop_lt hd
  have hnx:=drop_next hd
  have hx:=hf x (drop_mem hd)
  exact gG 60 _ hT (.len (lM .sh encB l)<|.yes (dT ((↑i:Int)<(↑l.length:Int)) (by simp;omega))<|.idx (iR 3 encB hd)<|.load (rfl:loadA true 3 (rowH Heap.nil acc) (.ref [.str x.name,.sl .sh (x.sel.map encM),.int .i64 x.floor])=some (.agg [.str x.name,.sl .sh (x.sel.map encM),.int .i64 x.floor]))<|.callK ([.agg [.str x.name,.sl .sh (x.sel.map encM),.int .i64 x.floor]]) (.agg [.str x.name,.sl .sh (x.sel.map encM),.int .i64 x.floor]) (show Gives cfg 125 [encB x] (encB x)from ofB_any _ hx)<|.append (show appendA 3 48 (rowH Heap.nil acc) (rowS Heap.nil acc) (.sl .full [.agg [.str x.name,.sl .sh (x.sel.map encM),.int .i64 x.floor]])=some ((rowS Heap.nil (acc++[AV.agg [.str x.name,.sl .sh (x.sel.map encM),.int .i64 x.floor]]),rowH Heap.nil (acc++[AV.agg [.str x.name,.sl .sh (x.sel.map encM),.int .i64 x.floor]])))from row_append (by omega) hl (by rfl) (by rfl))<|.bin (iI i)<|.cutQ k54_0 [(0,.sl .sh (l.map encB)),(3,rowS Heap.nil (acc++[AV.agg [.str x.name,.sl .sh (x.sel.map encM),.int .i64 x.floor]])),(4,.int .i64 (↑(i+1)))] (rowH Heap.nil (acc++[AV.agg [.str x.name,.sl .sh (x.sel.map encM),.int .i64 x.floor]])) (fun T hT=>(ih (i+1) (acc++[AV.agg [.str x.name,.sl .sh (x.sel.map encM),.int .i64 x.floor]]) hnx (by simp;omega) (by exact lenOk_snoc (by assumption) rfl) T hT).to (by simp[encB])))
theorem ofBs_any(l:List Bud)(hn:l.length≤20)(hf:∀x∈l,fewB1 x=true):Gives cfg 54 [.sl .sh (l.map encB)] (rowS Heap.nil (l.map encB)):=by
 refine Gives.run (l54 _ _) ?_
 have h:=ofBs_loop l hn hf l 0 [] rfl rfl rfl
 exact gG 60 [] trivial (.cutQ k54_0 [(0,.sl .sh (l.map encB)),(3,.sl .full []),(4,.int .i64 0)] ({boxes:=[],toks:=[],loops:=[]:Heap}) (fun T hT=>(h T hT)))
def floorE(n:Int):Int:=if n<0 then 1 else if 128<n then 1 else 0
def ckB(b:Bud):Int:=firstE [if isName b.name then 0 else 3,ckM b.sel,floorE b.floor]
theorem ckB_ref(b:Bud):Gives cfg 209 [encB b] (.int .i64 (ckB b)):=by
 refine Gives.run (l209 _ _) ?_
 have e:ckB b=firstE [if isName b.name then 0 else 3,ckM b.sel,floorE b.floor]:=rfl
 rw[e]
 have a1:=ckM_ref b.sel
 generalize ckM b.sel=c at a1⊢
 exact let ζ1:Heap:={boxes:=[[.str b.name,.sl .sh (b.sel.map encM),.int .i64 b.floor]],toks:=[],loops:=[]:Heap};gG 90 [] trivial (.callK ([.str b.name]) (.bool (isName b.name)) (show Gives cfg 259 [.str b.name] (.bool (isName b.name))from name_any _)<|.split (isName b.name=true) (fun h1=>.no (show(!isName b.name)=false from by have hh:isName b.name=true:=h1;simp[hh])<|.callK ([.sl .sh (b.sel.map encM)]) (.int .i64 c) a1<|.split ((c !=(0:Int))=true) (fun h2=>.yes (show(c !=(0:Int))=true from h2)<|.fin ((.ret (.int .i64 c),ζ1)) (by simp only[IsRet];grind[firstE,floorE])) (fun h2=>.no (show(c !=(0:Int))=false from Bool.eq_false_iff.2 h2)<|.split (b.floor<(0:Int)) (fun h3=>.yes (dT (b.floor<(0:Int)) h3)<|.tt<|.fin ((.ret (.int .i64 1),ζ1)) (by simp only[IsRet];grind[firstE,floorE])) (fun h3=>.no (dF (b.floor<(0:Int)) h3)<|.split ((128:Int)<b.floor) (fun h4=>.yes (dT ((128:Int)<b.floor) h4)<|.fin ((.ret (.int .i64 1),ζ1)) (by simp only[IsRet];grind[firstE,floorE])) (fun h4=>.no (dF ((128:Int)<b.floor) h4)<|.fin ((.ret (.int .i64 0),ζ1)) (by simp only[IsRet];grind[firstE,floorE]))))) (fun h1=>.yes (show(!isName b.name)=true from by have hh:¬(isName b.name=true):=h1;simp[hh])<|.fin ((.ret (.int .i64 3),ζ1)) (by simp only[IsRet];grind[firstE,floorE])))
theorem ckBs_ref_loop(l:List Bud)(hn:l.length≤8):∀(post:List Bud)(i:Nat)(hd:l.drop i=post)(T:Env)(hT:Has T [(0,.sl .sh (l.map encB)),(3,.int .i64 i)]),
 Goes cfg a120 k120_0 T Heap.nil (IsRet (.int .i64 (ckAl ckB Bud.name l i post))):=by
 intro post
 induction post with
 |nil=>
  intro i hd T hT
  have hge:=drop_ge hd
  exact gG 60 _ hT (.len (lM .sh encB l)<|.no (dF ((↑i:Int)<(↑l.length:Int)))<|.fin ((.ret (.int .i64 0),{boxes:=[],toks:=[],loops:=[]:Heap})) rfl)
 |cons x post ih=>
  intro i hd T hT
  have hlt:=drop_lt hd
  have hnx:=drop_next hd
  have hc:=ckB_ref x
  have e:ckAl ckB Bud.name l i (x::post)=if ckB x=0 then(if ordG Bud.name l i x then 13 else ckAl ckB Bud.name l (i+1) post)else ckB x:=rfl
  rw[e]
  generalize ckB x=c at hc⊢
  cases i with
  |zero=>exact let ζ1:Heap:={boxes:=[],toks:=[],loops:=[]:Heap};gG 60 _ hT (.len (lM .sh encB l)<|.yes (dT ((↑(0:Nat):Int)<(↑l.length:Int)))<|.idx (show idxA 3 (.sl .sh (l.map encB)) (.int .i64 (↑(0:Nat):Int))=some (.ref (encB x).cells)from idx_row hd (by rfl))<|.callK ([.agg [.str x.name,.sl .sh (x.sel.map encM),.int .i64 x.floor]]) (.int .i64 c) hc<|.split ((c !=(0:Int))=true) (fun h1=>.yes (show(c !=(0:Int))=true from h1)<|.fin ((.ret (.int .i64 c),ζ1)) (by simp only[IsRet];grind[ordG])) (fun h1=>.no (show(c !=(0:Int))=false from Bool.eq_false_iff.2 h1)<|.ff<|.ff<|.bin (show binA .add (.int .i64 (↑(0:Nat):Int)) (.int .i64 1)=some (.int .i64 (↑(0+1):Int))from inc_i (by omega))<|.cutQ k120_0 [(0,.sl .sh (l.map encB)),(3,.int .i64 (↑(0+1):Int))] (ζ1) (fun T hT=>(ih (0+1) hnx T hT).to (by grind[ordG]))))
  |succ j=>
   obtain⟨p,hp⟩:∃p,l[j]?=some p:=⟨l[j],List.getElem?_eq_getElem (by omega)⟩
   exact let ζ1:Heap:={boxes:=[],toks:=[],loops:=[]:Heap};gG 60 _ hT (.len (lM .sh encB l)<|.yes (dT ((↑(j+1):Int)<(↑l.length:Int)))<|.idx (show idxA 3 (.sl .sh (l.map encB)) (.int .i64 (↑(j+1):Int))=some (.ref (encB x).cells)from idx_row hd (by rfl))<|.callK ([.agg [.str x.name,.sl .sh (x.sel.map encM),.int .i64 x.floor]]) (.int .i64 c) hc<|.split ((c !=(0:Int))=true) (fun h1=>.yes (show(c !=(0:Int))=true from h1)<|.fin ((.ret (.int .i64 c),ζ1)) (by simp only[IsRet];grind[ordG])) (fun h1=>.no (show(c !=(0:Int))=false from Bool.eq_false_iff.2 h1)<|.yes (dT ((0:Int)<(↑(j+1):Int)))<|.idx (show idxA 3 (.sl .sh (l.map encB)) (.int .i64 (↑(j+1):Int))=some (.ref (encB x).cells)from idx_row hd (by rfl))<|.bin (show binA .sub (.int .i64 (↑(j+1):Int)) (.int .i64 1)=some (.int .i64 ↑j)from dec_i (by omega))<|.idx (show idxA 3 (.sl .sh (l.map encB)) (.int .i64 ↑j)=some (.ref (encB p).cells)from idx_get hp (by rfl))<|.split ((Op.bytesLess x.name p.name||x.name==p.name)=true) (fun h2=>.yes (show(Op.bytesLess x.name p.name||x.name==p.name)=true from h2)<|.fin ((.ret (.int .i64 13),ζ1)) (by simp only[IsRet];grind[ordG])) (fun h2=>.no (show(Op.bytesLess x.name p.name||x.name==p.name)=false from Bool.eq_false_iff.2 h2)<|.bin (show binA .add (.int .i64 (↑(j+1):Int)) (.int .i64 1)=some (.int .i64 (↑(j+1+1):Int))from inc_i (by omega))<|.cutQ k120_0 [(0,.sl .sh (l.map encB)),(3,.int .i64 (↑(j+1+1):Int))] (ζ1) (fun T hT=>(ih (j+1+1) hnx T hT).to (by grind[ordG])))))
theorem ckBs_ref(l:List Bud):Gives cfg 120 [.sl .sh (l.map encB)] (.int .i64 (ckAll 8 ckB Bud.name l)):=by
 refine Gives.run (l120 _ _) ?_
 have h:=fun hn=>ckBs_ref_loop l hn l 0 rfl
 exact let ζ1:Heap:={boxes:=[],toks:=[],loops:=[]:Heap};gG 60 [] trivial (.len (lM .sh encB l)<|.split ((8:Int)<(↑l.length:Int)) (fun h1=>.yes (dT ((8:Int)<(↑l.length:Int)) h1)<|.fin ((.ret (.int .i64 4),ζ1)) (by simp only[IsRet];grind[ckAll])) (fun h1=>.no (dF ((8:Int)<(↑l.length:Int)) h1)<|.cutQ k120_0 [(0,.sl .sh (l.map encB)),(3,.int .i64 0)] (ζ1) (fun T hT=>(h (by omega) T hT).to (by grind[ckAll]))))
end Go.Aa.T
set_option linter.unusedVariables false
set_option linter.unusedSimpArgs false
set_option maxRecDepth 100000
namespace Go.Aa.T
open Go.Aa Go.Proofs
structure VOk(v:List Amount):Prop where
 len:v.length≤8
 name:∀x∈v,isName x.name=true
 pos:∀x∈v,0<x.n
 rise:Rise (nms v)
theorem ckVl_ok{s:List Amount}:∀{post:List Amount}{i:Nat},ckVl s i post=0→s.drop i=post→(∀x∈post,isName x.name=true∧0<x.n)∧Rise (nms post)∧∀j p,i=j+1→s[j]?=some p→Rise (p.name::nms post)
 |[],i,h,hd=>⟨by simp,by simp[Rise],fun j p _ _=>by simp[Rise]⟩
 |x::post,i,h,hd=>by
  unfold ckVl at h
  split at h
  ·rename_i hn
   split at h
   ·cases h
   ·rename_i hp
    split at h
    ·cases h
    ·rename_i ho
     obtain⟨h1,h2,h3⟩:=ckVl_ok h (drop_next hd)
     have h4:=h3 i x rfl (drop_at hd)
     refine⟨fun y hy=> ?_,h4,fun j p hj hp'=> ?_⟩
     ·rcases List.mem_cons.1 hy with rfl|hy
      ·exact⟨hn,by omega⟩
      ·exact h1 y hy
     ·subst hj
      simp only[ordV,hp',Bool.not_eq_true]at ho
      have h5:=bl_not ho
      refine List.Pairwise.cons (fun z hz=> ?_) h4
      rcases List.mem_cons.1 hz with rfl|hz
      ·exact h5
      ·exact bl_trans h5 (List.rel_of_pairwise_cons h4 hz)
  ·cases h
theorem vOk{v:List Amount}(h:ckV v=0):VOk v:=by
 unfold ckV at h
 split at h
 ·rename_i hl
  obtain⟨h1,h2,-⟩:=ckVl_ok h rfl
  exact⟨hl,fun x hx=>(h1 x hx).1,fun x hx=>(h1 x hx).2,h2⟩
 ·cases h
theorem ckVl_of{s:List Amount}:∀{post:List Amount}{i:Nat},s.drop i=post→(∀x∈s,isName x.name=true)→(∀x∈s,0<x.n)→Rise (nms s)→ckVl s i post=0
 |[],i,hd,_,_,_=>rfl
 |x::post,i,hd,h1,h2,h3=>by
  have hx:=drop_mem hd
  have ih:=ckVl_of (drop_next hd) h1 h2 h3
  have hp:=h2 x hx
  have ho:ordV s i x=false:=by
   cases i with
   |zero=>rfl
   |succ j=>
    have hlt:=drop_lt hd
    have hj:s[j]?=some (s[j]'(by omega)):=List.getElem?_eq_getElem _
    simp only[ordV,hj]
    have h4:=List.pairwise_iff_getElem.1 h3 j (j+1) (by simp;omega) (by simp;omega) (by omega)
    simp only[List.getElem_map]at h4
    have e:s[j+1]=x:=by
     have:=drop_at hd
     rw[List.getElem?_eq_getElem hlt]at this
     exact Option.some.inj this
    rw[e]at h4
    exact bl_asym h4
  unfold ckVl
  rw[if_pos (h1 x hx),if_neg (by omega),ho,if_neg (by simp)]
  exact ih
theorem ckV_of{v:List Amount}(h:VOk v):ckV v=0:=by
 unfold ckV
 rw[if_pos h.len]
 exact ckVl_of rfl h.name h.pos h.rise
theorem getQ_none{v:List Amount}{s:List UInt8}(h:s∉nms v):getQ v s=0:=by
 unfold getQ
 have:v.find? (fun x=>x.name==s)=none:=by
  rw[List.find?_eq_none]
  intro x hx e
  exact h (List.mem_map.2 ⟨x,hx,by simpa using e⟩)
 rw[this]
theorem getQ_some{v:List Amount}{s:List UInt8}(h:s∈nms v):∃x∈v,x.name=s∧getQ v s=x.n:=by
 unfold getQ
 cases hf:v.find? (fun x=>x.name==s)with
 |none=>
  obtain⟨x,hx,rfl⟩:=List.mem_map.1 h
  have:=List.find?_eq_none.1 hf x hx
  simp at this
 |some x=>exact⟨x,List.mem_of_find?_eq_some hf,by simpa using List.find?_some hf,rfl⟩
theorem getQ_pos{v:List Amount}(h:VOk v){s:List UInt8}(hs:s∈nms v):0<getQ v s:=by
 obtain⟨x,hx,-,e⟩:=getQ_some hs
 rw[e];exact h.pos x hx
theorem getQ_nn{v:List Amount}(h:VOk v)(s:List UInt8):0≤getQ v s:=by
 by_cases hs:s∈nms v
 ·have:=getQ_pos h hs;omega
 ·rw[getQ_none hs];exact Int.le_refl _
def madeA(g:OfQ):List (List UInt8)→List Amount→List Amount×Int
 |[],acc=>(acc,0)
 |s::r,acc=>if(g s).2=0 then madeA g r (acc++[⟨s,(g s).1⟩])else([],(g s).2)
theorem madeA_eq(g:OfQ):∀(l:List (List UInt8))(acc:List Amount),(∀s∈l,(g s).2=0→0<(g s).1)→madeA g l acc=madeF g l acc
 |[],acc,_=>rfl
 |s::r,acc,h=>by
  unfold madeA madeF
  split
  ·rename_i h0
   rw[if_pos (h s (by simp) h0)]
   exact madeA_eq g r _ fun t ht=>h t (by simp[ht])
  ·rfl
theorem both_ref(a b:List Amount):Gives cfg 265 [.sl .sh (a.map encA),.sl .sh (b.map encA)] (.int .i64 (firstE [ckV a,ckV b])):=by
 refine Gives.run (l265 _ _) ?_
 have h1:=ckV_ref a
 have h2:=ckV_ref b
 generalize ckV a=p at h1⊢
 generalize ckV b=q at h2⊢
 by_cases h0:p=0
 ·have e:firstE [p,q]=q:=by simp only[firstE,h0,if_true];split<;>simp_all
  rw[e]
  exact gG 60 [] trivial (.callK ([.sl .sh (a.map encA)]) (.int .i64 p) h1<|.no (show(p !=(0:Int))=false from Bool.eq_false_iff.2 (by simpa using h0))<|.callK ([.sl .sh (b.map encA)]) (.int .i64 q) h2<|.fin ((.ret (.int .i64 q),{boxes:=[],toks:=[],loops:=[]:Heap})) rfl)
 ·have e:firstE [p,q]=p:=by simp[firstE,h0]
  rw[e]
  exact gG 60 [] trivial (.callK ([.sl .sh (a.map encA)]) (.int .i64 p) h1<|.yes (show(p !=(0:Int))=true from(by simpa using h0))<|.fin ((.ret (.int .i64 p),{boxes:=[],toks:=[],loops:=[]:Heap})) rfl)
theorem whole_ok(l:List Amount)(hl:l.length≤8):Gives cfg 268 [.sl .sh (l.map encA)] (.tuple [.sl .sh (l.map encA),.int .i64 0]):=by
 refine Gives.run (l268 _ _) ?_
 exact gG 60 [] trivial (.len (lM .sh encA l)<|.no (dF ((8:Int)<(↑l.length:Int)))<|.fin ((.ret (.tuple [.sl .sh (l.map encA),.int .i64 0]),{boxes:=[],toks:=[],loops:=[]:Heap})) rfl)
theorem whole_long(l:List Amount)(hl:8<l.length):Gives cfg 268 [.sl .sh (l.map encA)] (.tuple [.sl .full [],.int .i64 4]):=by
 refine Gives.run (l268 _ _) ?_
 exact gG 60 [] trivial (.len (lM .sh encA l)<|.yes (dT ((8:Int)<(↑l.length:Int)))<|.fin ((.ret (.tuple [.sl .full [],.int .i64 4]),{boxes:=[],toks:=[],loops:=[]:Heap})) rfl)
def kq:Bool→SK
 |true=>.sh
 |false=>.full
instance(c:Bool)(l:List AV):Shut (.sl (kq c) l) (.sl .sh l):=⟨by cases c<;>exact⟨rfl,rfl⟩⟩
def resV(c:Bool)(p:List Amount×Int):AV:=.tuple [.sl (kq c) (p.1.map encA),.int .i64 p.2]
instance(c:Bool)(p:List Amount×Int):Res (resV c p) (.tuple [.sl .sh (p.1.map encA),.int .i64 p.2]):=⟨by
 cases c<;>exact⟨rfl,rfl⟩⟩
def resW(c:Bool)(l:List Amount)(e:Int):AV:=.tuple [.sl (kq c) (l.map encA),.int .i64 e]
instance(c:Bool)(l:List Amount)(e:Int):Res (resW c l e) (.tuple [.sl .sh (l.map encA),.int .i64 e]):=⟨by
 cases c<;>exact⟨rfl,rfl⟩⟩
def RetV(p:List Amount×Int)(r:ARes×Heap):Prop:=∃c,IsRet (resV c p) r
theorem RetV.gives{g:FuncId}{xs:List AV}{p:List Amount×Int}{A:AFunc}{k:List AIt}{T:Env}(e:lim cfg (.fn g) xs Heap.nil=runL cfg A k T Heap.nil)(h:Goes cfg A k T Heap.nil (RetV p)):∃c,Gives cfg g xs (resV c p):=by
 obtain⟨r,h1,c,h2⟩:=h
 exact⟨c,Gives.run e ⟨r,h1,h2⟩⟩
theorem fin_no(e:Int)(h:e≠0):finV ([],e)=([],e):=by simp[finV,h]
theorem addR_loop(a b:List Amount)(la:a.length<9223372036854775807)(lb:b.length<9223372036854775807)(ra:∀s,inI (getQ a s))(rb:∀s,inI (getQ b s))(ns:List (List UInt8))(hns:ns.length≤100000):∀(post:List (List UInt8))(i:Nat)(hd:ns.drop i=post)(acc:List Amount)(ha:acc.length≤i)(T:Env)
 (hT:Has T [(0,.sl .sh (a.map encA)),(1,.sl .sh (b.map encA)),(7,.sl .sh (ns.map .str)),(8,rowS Heap.nil (acc.map encA)),(9,.int .i64 i)]),
 Goes cfg a210 k210_0 T (rowH Heap.nil (acc.map encA)) (RetV (finV (madeA (fun s=>addQ (getQ a s) (getQ b s)) post acc))):=by
 intro post
 induction post with
 |nil=>
  intro i hd acc ha T hT
  have hge:=drop_ge hd
  have e:madeA (fun s=>addQ (getQ a s) (getQ b s)) [] acc=(acc,0):=rfl
  rw[e]
  by_cases h8:8<acc.length
  ·have e:finV (acc,0)=([],4):=by simp[finV,h8]
   rw[e]
   have hw:=whole_long acc h8
   exact gG 90 _ hT (.len (lM .sh .str ns)<|.no (dF ((↑i:Int)<(↑ns.length:Int)))<|.callG ([rowS Heap.nil (acc.map encA)]) (.tuple [.sl .sh [],.int .i64 4]) hw Shuts.p ⟨rfl,rfl⟩<|.fin ((.ret (.tuple [.sl .sh [],.int .i64 4]),rowH Heap.nil (acc.map encA))) (by exact⟨true,rfl⟩))
  ·have e:finV (acc,0)=(acc,0):=by simp[finV,h8]
   rw[e]
   have hw:=whole_ok acc (by omega)
   exact let ζ1:List AV:=[.sl .sh (acc.map encA),.int .i64 0];gG 90 _ hT (.len (lM .sh .str ns)<|.no (dF ((↑i:Int)<(↑ns.length:Int)))<|.callG ([rowS Heap.nil (acc.map encA)]) (.tuple ζ1) hw Shuts.p ⟨rfl,rfl⟩<|.fin ((.ret (.tuple ζ1),rowH Heap.nil (acc.map encA))) (by exact⟨true,rfl⟩))
 |cons s post ih=>
  intro i hd acc ha T hT
  have hlt:=drop_lt hd
  have hnx:=drop_next hd
  have hx:idxA 1 (.sl .sh (ns.map .str)) (.int .i64 (i:Nat))=some (.ref [.str s]):=idx_row (f:=AV.str) hd rfl
  have g1:=getQ_ref a s la
  have g2:=getQ_ref b s lb
  have g3:=qadd_ref _ _ (ra s) (rb s)
  have e:madeA (fun s=>addQ (getQ a s) (getQ b s)) (s::post) acc=if(addQ (getQ a s) (getQ b s)).2=0 then madeA (fun s=>addQ (getQ a s) (getQ b s)) post (acc++[⟨s,(addQ (getQ a s) (getQ b s)).1⟩])else([],(addQ (getQ a s) (getQ b s)).2):=rfl
  rw[e]
  have ih1:=fun acc'=>ih (i+1) hnx acc'
  generalize getQ a s=p at g1 g3⊢
  generalize getQ b s=q at g2 g3⊢
  generalize addQ p q=z at g3⊢
  obtain⟨n,er⟩:=z
  simp only at g3⊢
  by_cases h0:er=0
  ·subst h0
   rw[if_pos rfl]
   have ap:∀H,appendA 2 24 (rowH H (acc.map encA)) (rowS H (acc.map encA)) (.sl .full [.agg [.str s,.int .i64 n]])=some (rowS H ((acc++[(⟨s,n⟩:Amount)]).map encA),rowH H ((acc++[(⟨s,n⟩:Amount)]).map encA)):=fun H=>row_append_map (f:=encA) (x:=(⟨s,n⟩:Amount)) (ys:=acc) (by simp;omega) lenA2 rfl rfl
   have ih':=ih1 (acc++[(⟨s,n⟩:Amount)]) (by simp;omega)
   exact let ζ1:Heap:=(roomH (rowH Heap.nil (acc.map encA)) (resvCells [mV 28 0,mV 29 7,mV 30 9,⟨some 31,.idx 1 (.t 29) (.t 30),none,[2,1]⟩,⟨some 32,.load false 1 (.t 31),none,[1,2,3]⟩,⟨some 33,.call (.c (.func 211 [])) [.t 28,.t 32],none,[3,2,1,4,0]⟩,mV 34 1,mV 35 7,mV 36 9,⟨some 37,.idx 1 (.t 35) (.t 36),none,[8,7]⟩,⟨some 38,.load false 1 (.t 37),none,[7,8,9]⟩,⟨some 39,.call (.c (.func 211 [])) [.t 34,.t 38],none,[0,4,1,2,3,5,9,8,7,10,6]⟩,⟨some 40,.call (.c (.func 267 [])) [.t 33,.t 39],none,[6,10,7,8,9,11,0,4,1,2,3,5]⟩,⟨some 27,.mov (.t 40),none,[5,3,2,1,4,0,11,9,8,7,10,6,12]⟩,⟨some 41,.extract (.t 27) 0,none,[12,6,10,7,8,9,11,0,4,1,2,3,5,13]⟩,⟨some 42,.extract (.t 27) 1,none,[12,6,10,7,8,9,11,0,4,1,2,3,5,13]⟩,⟨some 10,.mov (.t 41),none,[13,5,3,2,1,4,0,11,9,8,7,10,6,12,14]⟩,⟨some 11,.mov (.t 42),none,[14,16,13,5,3,2,1,4,0,11,9,8,7,10,6,12,15]⟩]));let ζ2:List AV:=[.sl .sh (a.map encA),.str s];let ζ3:List AV:=[.sl .sh (b.map encA),.str s];gG 120 _ hT (.len (lM .sh .str ns)<|.yes (dT ((↑i:Int)<(↑ns.length:Int)))<|.idx hx<|.load (rfl:loadA false 1 ζ1 (.ref [.str s])=some (.str s))<|.callK (ζ2) (.int .i64 p) g1<|.idx hx<|.load (rfl:loadA false 1 ζ1 (.ref [.str s])=some (.str s))<|.callK (ζ3) (.int .i64 q) g2<|.callK ([.int .i64 p,.int .i64 q]) (.tuple [.int .i64 n,.int .i64 0]) g3<|.ff<|.idx hx<|.load (rfl:loadA false 1 ζ1 (.ref [.str s])=some (.str s))<|.append (show appendA 2 24 ζ1 (rowS Heap.nil (acc.map encA)) (.sl .full [.agg [.str s,.int .i64 n]])=some ((rowS Heap.nil (List.map encA (acc++[{name:=s,n:=n:Amount}])),rowH Heap.nil (List.map encA (acc++[{name:=s,n:=n:Amount}]))))from ap _)<|.bin (iI i)<|.cutQ k210_0 [(0,.sl .sh (a.map encA)),(1,.sl .sh (b.map encA)),(7,.sl .sh (List.map .str ns)),(8,rowS Heap.nil (List.map encA (acc++[{name:=s,n:=n:Amount}]))),(9,.int .i64 (↑(i+1)))] (rowH Heap.nil (List.map encA (acc++[{name:=s,n:=n:Amount}]))) (fun T hT=>(ih' T hT)))
  ·rw[if_neg h0,fin_no _ h0]
   exact let ζ1:Heap:=(roomH (rowH Heap.nil (acc.map encA)) (resvCells [mV 28 0,mV 29 7,mV 30 9,⟨some 31,.idx 1 (.t 29) (.t 30),none,[2,1]⟩,⟨some 32,.load false 1 (.t 31),none,[1,2,3]⟩,⟨some 33,.call (.c (.func 211 [])) [.t 28,.t 32],none,[3,2,1,4,0]⟩,mV 34 1,mV 35 7,mV 36 9,⟨some 37,.idx 1 (.t 35) (.t 36),none,[8,7]⟩,⟨some 38,.load false 1 (.t 37),none,[7,8,9]⟩,⟨some 39,.call (.c (.func 211 [])) [.t 34,.t 38],none,[0,4,1,2,3,5,9,8,7,10,6]⟩,⟨some 40,.call (.c (.func 267 [])) [.t 33,.t 39],none,[6,10,7,8,9,11,0,4,1,2,3,5]⟩,⟨some 27,.mov (.t 40),none,[5,3,2,1,4,0,11,9,8,7,10,6,12]⟩,⟨some 41,.extract (.t 27) 0,none,[12,6,10,7,8,9,11,0,4,1,2,3,5,13]⟩,⟨some 42,.extract (.t 27) 1,none,[12,6,10,7,8,9,11,0,4,1,2,3,5,13]⟩,⟨some 10,.mov (.t 41),none,[13,5,3,2,1,4,0,11,9,8,7,10,6,12,14]⟩,⟨some 11,.mov (.t 42),none,[14,16,13,5,3,2,1,4,0,11,9,8,7,10,6,12,15]⟩]));let ζ2:List AV:=[.sl .sh (a.map encA),.str s];let ζ3:List AV:=[.sl .sh (b.map encA),.str s];gG 120 _ hT (.len (lM .sh .str ns)<|.yes (dT ((↑i:Int)<(↑ns.length:Int)))<|.idx hx<|.load (rfl:loadA false 1 ζ1 (.ref [.str s])=some (.str s))<|.callK (ζ2) (.int .i64 p) g1<|.idx hx<|.load (rfl:loadA false 1 ζ1 (.ref [.str s])=some (.str s))<|.callK (ζ3) (.int .i64 q) g2<|.callK ([.int .i64 p,.int .i64 q]) (.tuple [.int .i64 n,.int .i64 er]) g3<|.yes (show(er !=(0:Int))=true from(by simpa using h0))<|.fin ((.ret (.tuple [.sl .full [],.int .i64 er]),roomH (rowH Heap.nil (acc.map encA)) (resvCells [mV 28 0,mV 29 7,mV 30 9,⟨some 31,.idx 1 (.t 29) (.t 30),none,[2,1]⟩,⟨some 32,.load false 1 (.t 31),none,[1,2,3]⟩,⟨some 33,.call (.c (.func 211 [])) [.t 28,.t 32],none,[3,2,1,4,0]⟩,mV 34 1,mV 35 7,mV 36 9,⟨some 37,.idx 1 (.t 35) (.t 36),none,[8,7]⟩,⟨some 38,.load false 1 (.t 37),none,[7,8,9]⟩,⟨some 39,.call (.c (.func 211 [])) [.t 34,.t 38],none,[0,4,1,2,3,5,9,8,7,10,6]⟩,⟨some 40,.call (.c (.func 267 [])) [.t 33,.t 39],none,[6,10,7,8,9,11,0,4,1,2,3,5]⟩,⟨some 27,.mov (.t 40),none,[5,3,2,1,4,0,11,9,8,7,10,6,12]⟩,⟨some 41,.extract (.t 27) 0,none,[12,6,10,7,8,9,11,0,4,1,2,3,5,13]⟩,⟨some 42,.extract (.t 27) 1,none,[12,6,10,7,8,9,11,0,4,1,2,3,5,13]⟩,⟨some 10,.mov (.t 41),none,[13,5,3,2,1,4,0,11,9,8,7,10,6,12,14]⟩,⟨some 11,.mov (.t 42),none,[14,16,13,5,3,2,1,4,0,11,9,8,7,10,6,12,15]⟩]))) (by exact⟨false,rfl⟩))
theorem names_two{a b:List Amount}(ha:ckV a=0)(hb:ckV b=0):namesOf (allNames [a,b])=mergeN (nms a) (nms b):=by
 have e:allNames [a,b]=nms a++nms b:=by simp[allNames]
 rw[e]
 exact merge_names (vOk ha).rise (vOk hb).rise
theorem two_ok{a b:List Amount}(h:firstE [ckV a,ckV b]=0):ckV a=0∧ckV b=0:=by
 have:=firstE_zero h
 simpa using this
theorem merge_len(a b:List (List UInt8)):(mergeN a b).length≤a.length+b.length:=by
 have:∀(n:Nat)(a b:List (List UInt8)),a.length+b.length≤n→(mergeN a b).length≤a.length+b.length:=by
  intro n
  induction n with
  |zero=>
   intro a b h
   obtain rfl:a=[]:=List.length_eq_zero_iff.1 (by omega)
   simp[merge_nil]
  |succ n ih=>
   intro a b h
   cases a with
   |nil=>simp[merge_nil]
   |cons p a=>
    cases b with
    |nil=>simp[merge_nil2]
    |cons q b=>
     simp only[List.length_cons]at h
     rw[mergeN]
     split
     ·have:=ih a (q::b) (by simp;omega)
      simp at this⊢;omega
     ·split
      ·have:=ih (p::a) b (by simp;omega)
       simp at this⊢;omega
      ·have:=ih a b (by omega)
       simp;omega
 exact this _ a b (Nat.le_refl _)
instance(l:List (List UInt8)):Shut (rowT l) (.sl .sh (l.map .str)):=inferInstanceAs(Shut (rowS Heap.nil (l.map .str)) _)
theorem addQ_pos{a b:List Amount}(ha:VOk a)(hb:VOk b){s:List UInt8}(hs:s∈mergeN (nms a) (nms b))(h0:(addQ (getQ a s) (getQ b s)).2=0):0<(addQ (getQ a s) (getQ b s)).1:=by
 have p:=getQ_nn ha s
 have q:=getQ_nn hb s
 have hpq:0<getQ a s+getQ b s:=by
  rcases(merge_mem _ _ _ (Nat.le_refl _) s).1 hs with h|h
  ·have:=getQ_pos ha h;omega
  ·have:=getQ_pos hb h;omega
 have hb0:bothE (getQ a s) (getQ b s)=0:=by
  unfold bothE;rw[if_neg (by omega),if_neg (by omega)]
 unfold addQ at h0⊢
 rw[if_neg (by simp[hb0])]at h0⊢
 unfold toldQ at h0⊢
 split
 ·rename_i h;rw[if_pos h]at h0;cases h0
 ·exact hpq
theorem addR(a b:List Amount)(la:a.length<9223372036854775807)(lb:b.length<9223372036854775807)(ra:rgA a)(rb:rgA b):∃c,Gives cfg 210 [.sl .sh (a.map encA),.sl .sh (b.map encA)] (resV c (addV a b)):=by
 refine RetV.gives (l210 _ _) ?_
 have h0:=both_ref a b
 have e:addV a b=if firstE [ckV a,ckV b]=0 then finV (madeF (fun s=>addQ (getQ a s) (getQ b s)) (namesOf (allNames [a,b])) [])else([],firstE [ckV a,ckV b]):=rfl
 rw[e]
 by_cases hc:firstE [ckV a,ckV b]=0
 ·rw[if_pos hc]
  rw[hc]at h0
  obtain⟨ca,cb⟩:=two_ok hc
  have oa:=vOk ca
  have ob:=vOk cb
  have hn:=names_ref a b (by have:=oa.len;omega) (by have:=ob.len;omega)
  rw[names_two ca cb]
  have hml:(mergeN (nms a) (nms b)).length≤100000:=by
   have:=merge_len (nms a) (nms b)
   have:=oa.len;have:=ob.len
   simp only[List.length_map]at*
   omega
  have hl:=addR_loop a b la lb (rg_get ra) (rg_get rb) (mergeN (nms a) (nms b)) hml (mergeN (nms a) (nms b)) 0 rfl [] (by simp)
  rw[madeA_eq _ _ _ fun s hs h=>addQ_pos oa ob hs h]at hl
  generalize mergeN (nms a) (nms b)=ns at hn hl⊢
  exact let ζ1:List AV:=[.sl .sh (a.map encA),.sl .sh (b.map encA)];gG 90 [] trivial (.callK (ζ1) (.int .i64 0) h0<|.ff<|.callG (ζ1) (.sl .sh (List.map .str ns)) hn ⟨rfl,rfl⟩ Res.p<|.cutQ k210_0 [(0,.sl .sh (a.map encA)),(1,.sl .sh (b.map encA)),(7,.sl .sh (List.map .str ns)),(8,.sl .full []),(9,.int .i64 0)] ({boxes:=[],toks:=[],loops:=[]:Heap}) (fun T hT=>(hl T hT)))
 ·rw[if_neg hc]
  generalize firstE [ckV a,ckV b]=c at h0 hc⊢
  exact let ζ1:List AV:=[.sl .sh (a.map encA),.sl .sh (b.map encA)];gG 90 [] trivial (.callK (ζ1) (.int .i64 c) h0<|.yes (show(c !=(0:Int))=true from(by simpa using hc))<|.fin ((.ret (.tuple [.sl .full [],.int .i64 c]),{boxes:=[],toks:=[],loops:=[]:Heap})) (by exact⟨false,rfl⟩))
end Go.Aa.T
set_option linter.unusedVariables false
set_option linter.unusedSimpArgs false
set_option maxRecDepth 100000
namespace Go.Aa.T
open Go.Aa Go.Proofs
structure St where
 nodes:List Node
 pods:List Pod
 buds:List Bud
def encSt(s:St):AV:=.agg [.sl .sh (s.nodes.map encN),.sl .sh (s.pods.map encPd),.sl .sh (s.buds.map encB)]
instance(s:St):Dat (encSt s):=⟨rfl,rfl⟩
def onP(name:List UInt8)(p:Pod):Bool:=p.node==name&& !(name==[])
def onS(s:St)(name:List UInt8):List Pod:=s.pods.filter (onP name)
def sumG:List Amount→List (List Amount)→List Amount×Int
 |acc,[]=>(acc,0)
 |acc,v::vs=>if(addV acc v).2=0 then sumG (addV acc v).1 vs else([],(addV acc v).2)
theorem addQ_in(a b:Int):inI (addQ a b).1:=by
 unfold addQ
 split
 ·unfold inI;omega
 ·rename_i h
  have:=both_ok (a:=a) (b:=b) (by simpa using h)
  unfold toldQ
  split
  ·unfold inI;omega
  ·unfold inI;simp only;omega
theorem madeF_rg{g:OfQ}(hg:∀s,inI (g s).1):∀(l:List (List UInt8))(acc:List Amount),rgA acc→rgA (madeF g l acc).1
 |[],acc,h=>h
 |s::r,acc,h=>by
  unfold madeF
  split
  ·refine madeF_rg hg r _ ?_
   split
   ·intro x hx
    rcases List.mem_append.1 hx with hx|hx
    ·exact h x hx
    ·rw[List.mem_singleton.1 hx];exact hg s
   ·exact h
  ·intro x hx;cases hx
theorem madeV_rg{g:OfQ}(hg:∀s,inI (g s).1)(vs:List (List Amount)):rgA (madeV g vs).1∧(madeV g vs).1.length≤8:=by
 unfold madeV
 split
 ·unfold finV
  split
  ·split
   ·exact⟨fun x hx=>(by cases hx),by simp⟩
   ·exact⟨madeF_rg hg _ _ (fun x hx=>by cases hx),by simp only;omega⟩
  ·exact⟨fun x hx=>(by cases hx),by simp⟩
 ·exact⟨fun x hx=>(by cases hx),by simp⟩
theorem addV_rg(a b:List Amount):rgA (addV a b).1∧(addV a b).1.length≤8:=madeV_rg (fun s=>addQ_in _ _) _
theorem sumG_err:∀(vs:List (List Amount))(acc:List Amount),(sumG acc vs).2≠0→(sumG acc vs).1=[]
 |[],acc,h=>absurd rfl h
 |v::vs,acc,h=>by
  unfold sumG at h⊢
  split
  ·rename_i h0;rw[if_pos h0]at h;exact sumG_err vs _ h
  ·rfl
theorem take_A(l:List AV):Gives cfg 108 [.sl .sh l,.int .i64 0] (.sl .sh l):=by
 refine Gives.run (l108 _ _) ?_
 exact gG 60 [] trivial (.callK ([.int .i64 0]) (.tuple []) stop_ok<|.fin ((.ret (.sl .sh l),{boxes:=[],toks:=[],loops:=[]:Heap})) rfl)
theorem takeN_A(l:List AV){e:Int}(he:¬e=0):Pans cfg 108 [.sl .sh l,.int .i64 e] (stopV e):=by
 have h:=stop_pan he
 refine Pans.run (l108 _ _) ?_
 exact gG 60 [] trivial (.callP ([.int .i64 e]) ({boxes:=[],toks:=[],loops:=[]:Heap}) h ⟨rfl,rfl⟩ rfl rfl)
theorem trunc_ex{bs0 ex:List (List AV)}{tk:List Nat}{v:AV}(hv:∀nb nt,within nb nt v=true)(hb:∀nb nt,bs0.all (·.all (in2 nb nt))=true):trunc bs0.length 0 v ⟨bs0++ex,tk,[]⟩=⟨bs0,[],[]⟩:=by
 unfold trunc
 simp only[List.take_left,List.all_nil,Bool.true_and,hv,hb,Bool.and_self,if_true,List.take_zero]
structure Vin(v:List Amount):Prop where
 len:v.length<9223372036854775807
 rg:rgA v
def SumR(L fv:AV)(p:List Amount×Int)(r:ARes×Heap):Prop:=(p.2=0∧∃c ex,r=(.ret (.tuple []),⟨[L]::[fv]::[.sl (kq c) (p.1.map encA)]::ex,[],[]⟩))∨(p.2≠0∧r.1=.pan (stopV p.2))
theorem sumP_of(x:Pod):Gives cfg 193 [encPd x] (.sl .sh (x.need.map encA)):=by
 refine Gives.run (l193 _ _) ?_
 exact gG 60 [] trivial (.fin ((.ret (.sl .sh (x.need.map encA)),{boxes:=[[.str x.name,.str x.owner,.int .i64 x.prio,.sl .sh (x.need.map encA),.sl .sh (x.labels.map encP),.sl .sh (x.sel.map encM),.sl .sh (x.tols.map encL),.str x.key,.int .i64 x.most,.str x.node,.bool x.hold]],toks:=[],loops:=[]:Heap})) rfl)
theorem sumP_loop(l:List Pod)(hn:l.length<9223372036854775807)(hv:∀x∈l,Vin x.need):∀(post:List Pod)(i:Nat)(hd:l.drop i=post)(acc:List Amount)(ha:acc.length≤8∧rgA acc)(c:Bool)(ex:List (List AV))(T:Env)
 (hT:Has T [(1,.ptr 2 0),(2,.ptr 1 0),(5,.sl .sh (l.map encPd)),(6,.int .i64 l.length),(7,.int .i64 i)]),
 Goes cfg a255 k255_0 T ⟨[.sl .sh (l.map encPd)]::[.func 193 []]::[.sl (kq c) (acc.map encA)]::ex,[],[]⟩ (SumR (.sl .sh (l.map encPd)) (.func 193 []) (sumG acc (post.map (·.need)))):=by
 intro post
 induction post with
 |nil=>
  intro i hd acc ha c ex T hT
  have hge:=drop_ge hd
  exact gG 60 _ hT (.no (dF ((↑i:Int)<(↑l.length:Int)))<|.fin ((.ret (.tuple []),{boxes:=[.sl .sh (l.map encPd)]::[.func 193 []]::[.sl (kq c) (acc.map encA)]::ex,toks:=[],loops:=[]:Heap})) (by exact .inl ⟨rfl,c,ex,rfl⟩))
 |cons x post ih=>
  intro i hd acc ha c ex T hT
  have hlt:=drop_lt hd
  have hnx:=drop_next hd
  have hx:=hv x (drop_mem hd)
  have h1:=sumP_of x
  have h2:=addV_any acc x.need (by omega) hx.len ha.2 hx.rg
  have hr:=addV_rg acc x.need
  have e:sumG acc ((x::post).map (·.need))=if(addV acc x.need).2=0 then sumG (addV acc x.need).1 (post.map (·.need))else([],(addV acc x.need).2):=rfl
  rw[e]
  generalize addV acc x.need=z at h2 hr⊢
  obtain⟨w,er⟩:=z
  simp only at h2 hr⊢
  by_cases h0:er=0
  ·subst h0
   rw[if_pos rfl]
   have h3:=take_A (w.map encA)
   have ih':=ih (i+1) hnx w ⟨hr.2,hr.1⟩ true (ex++[(encPd x).cells])
   have ek:kq true=.sh:=rfl
   rw[ek]at ih'
   exact let ζ1:List AV:=[.str x.name,.str x.owner,.int .i64 x.prio,.sl .sh (x.need.map encA),.sl .sh (x.labels.map encP),.sl .sh (x.sel.map encM),.sl .sh (x.tols.map encL),.str x.key,.int .i64 x.most,.str x.node,.bool x.hold];let ζ2:Heap:={boxes:=[.sl .sh (l.map encPd)]::[.func 193 []]::[.sl (kq c) (acc.map encA)]::(ex++[ζ1]),toks:=[],loops:=[]:Heap};let ζ3:List AV:=[.str [],.str [],.int .i64 0,.sl .full [],.sl .full [],.sl .full [],.sl .full [],.str [],.int .i64 0,.str [],.bool false];let ζ4:Heap:={boxes:=[.sl .sh (l.map encPd)]::[.func 193 []]::[.sl .sh (w.map encA)]::(ex++[ζ1]),toks:=[],loops:=[]:Heap};let ζ5:List AV:=[.sl .sh (w.map encA),.int .i64 0];gG 120 _ hT (.yes (dT ((↑i:Int)<(↑l.length:Int)))<|.idx (iR 11 encPd hd)<|.load (rfl:loadA true 11 {boxes:=[.sl .sh (l.map encPd)]::[.func 193 []]::[.sl (kq c) (acc.map encA)]::ex,toks:=[],loops:=[]:Heap} (.ref ζ1)=some (.agg ζ1))<|.store (show storeA 11 {boxes:=[.sl .sh (l.map encPd)]::[.func 193 []]::[.sl (kq c) (acc.map encA)]::(ex++[ζ3]),toks:=[],loops:=[]:Heap} (.ptr ([.sl .sh (l.map encPd)]::[.func 193 []]::[.sl (kq c) (acc.map encA)]::ex).length 0) (.agg ζ1)=some (ζ2)from store_box2 (cs:=ζ3) (cs':=ζ1) (by simp+zetaDelta) rfl (by simp+zetaDelta [List.set_append]))<|.load (lB false 1 ζ2 2 0 (.sl (kq c) (acc.map encA)) [.sl (kq c) (acc.map encA)])<|.load (lB false 1 ζ2 1 0 (.func 193 []) [.func 193 []])<|.load (show loadA true 11 ζ2 (.ptr ([.sl .sh (l.map encPd)]::[.func 193 []]::[.sl (kq c) (acc.map encA)]::ex).length 0)=some (.agg ζ1)from load_box (cs:=ζ1) (by simp+zetaDelta) rfl)<|.callK ([.agg ζ1]) (.sl .sh (x.need.map encA)) h1<|.callG ([.sl (kq c) (acc.map encA),.sl .sh (x.need.map encA)]) (.tuple ζ5) h2 Shuts.p ⟨rfl,rfl⟩<|.callK (ζ5) (.sl .sh (w.map encA)) h3<|.store (show storeA 1 ζ2 (.ptr 2 0) (.sl .sh (w.map encA))=some (ζ4)from store_box2 (cs:=[.sl (kq c) (acc.map encA)]) (cs':=[.sl .sh (w.map encA)]) (by simp+zetaDelta) rfl (by simp+zetaDelta [List.set_append]))<|.bin (iI i)<|.cutQ k255_0 [(1,.ptr 2 0),(2,.ptr 1 0),(5,.sl .sh (l.map encPd)),(6,.int .i64 (↑l.length)),(7,.int .i64 (↑(i+1)))] (ζ4) (fun T hT=>(ih' T hT)))
  ·rw[if_neg h0]
   have h3:=takeN_A (w.map encA) h0
   exact let ζ1:List AV:=[.str x.name,.str x.owner,.int .i64 x.prio,.sl .sh (x.need.map encA),.sl .sh (x.labels.map encP),.sl .sh (x.sel.map encM),.sl .sh (x.tols.map encL),.str x.key,.int .i64 x.most,.str x.node,.bool x.hold];let ζ2:Heap:={boxes:=[.sl .sh (l.map encPd)]::[.func 193 []]::[.sl (kq c) (acc.map encA)]::(ex++[ζ1]),toks:=[],loops:=[]:Heap};let ζ3:List AV:=[.str [],.str [],.int .i64 0,.sl .full [],.sl .full [],.sl .full [],.sl .full [],.str [],.int .i64 0,.str [],.bool false];let ζ4:List AV:=[.sl .sh (w.map encA),.int .i64 er];gG 120 _ hT (.yes (dT ((↑i:Int)<(↑l.length:Int)))<|.idx (iR 11 encPd hd)<|.load (rfl:loadA true 11 {boxes:=[.sl .sh (l.map encPd)]::[.func 193 []]::[.sl (kq c) (acc.map encA)]::ex,toks:=[],loops:=[]:Heap} (.ref ζ1)=some (.agg ζ1))<|.store (show storeA 11 {boxes:=[.sl .sh (l.map encPd)]::[.func 193 []]::[.sl (kq c) (acc.map encA)]::(ex++[ζ3]),toks:=[],loops:=[]:Heap} (.ptr ([.sl .sh (l.map encPd)]::[.func 193 []]::[.sl (kq c) (acc.map encA)]::ex).length 0) (.agg ζ1)=some (ζ2)from store_box2 (cs:=ζ3) (cs':=ζ1) (by simp+zetaDelta) rfl (by simp+zetaDelta [List.set_append]))<|.load (lB false 1 ζ2 2 0 (.sl (kq c) (acc.map encA)) [.sl (kq c) (acc.map encA)])<|.load (lB false 1 ζ2 1 0 (.func 193 []) [.func 193 []])<|.load (show loadA true 11 ζ2 (.ptr ([.sl .sh (l.map encPd)]::[.func 193 []]::[.sl (kq c) (acc.map encA)]::ex).length 0)=some (.agg ζ1)from load_box (cs:=ζ1) (by simp+zetaDelta) rfl)<|.callK ([.agg ζ1]) (.sl .sh (x.need.map encA)) h1<|.callG ([.sl (kq c) (acc.map encA),.sl .sh (x.need.map encA)]) (.tuple ζ4) h2 Shuts.p ⟨rfl,rfl⟩<|.callP (ζ4) (ζ2) h3 ⟨rfl,rfl⟩ rfl (by exact .inr ⟨h0,rfl⟩))
theorem sumP_any(l:List Pod)(hn:l.length<9223372036854775807)(hv:∀x∈l,Vin x.need):∃c,Gives cfg 192 [.sl .sh (l.map encPd),.func 193 []] (resV c (sumG [] (l.map (·.need)))):=by
 have h1:=sumP_loop l hn hv l 0 rfl [] ⟨by simp,fun x hx=>by cases hx⟩ false []
 have ek:kq false=.full:=rfl
 rw[ek]at h1
 have key:Goes cfg a255 [.c c255] (initEnv [.ptr 0 0,.ptr 2 0,.ptr 1 0]) ⟨[[.sl .sh (l.map encPd)],[.func 193 []],[.sl .full []]],[],[]⟩ (SumR (.sl .sh (l.map encPd)) (.func 193 []) (sumG [] (l.map (·.need)))):=by
  exact gG 60 [] trivial (.len (lM .sh encPd l)<|.cutQ k255_0 [(1,.ptr 2 0),(2,.ptr 1 0),(5,.sl .sh (l.map encPd)),(6,.int .i64 (↑l.length)),(7,.int .i64 0)] ({boxes:=[[.sl .sh (l.map encPd)],[.func 193 []],[.sl .full []]],toks:=[],loops:=[]:Heap}) (fun T hT=>(h1 T hT)))
 obtain⟨⟨a,H1⟩,hr,hR⟩:=key
 have hz:=sumG_err (l.map (·.need)) []
 generalize sumG [] (l.map (·.need))=z at hR hz⊢
 obtain⟨w,er⟩:=z
 rcases hR with⟨he,c,ex,hR⟩|⟨he,hR⟩
 ·simp only at he
  subst he
  simp only[Prod.mk.injEq]at hR
  obtain⟨rfl,rfl⟩:=hR
  have ht:lim cfg (.fn 66) [.func 255 [.ptr 0 0,.ptr 2 0,.ptr 1 0]] ⟨[[.sl .sh (l.map encPd)],[.func 193 []],[.sl .full []]],[],[]⟩=some (.ret (.int .i64 0),⟨[.sl .sh (l.map encPd)]::[.func 193 []]::[.sl (kq c) (w.map encA)]::ex,[],[]⟩):=by
   rw[lim_try rfl,l255,hr];rfl
  have hd:=does_callE (xs:=[.func 255 [.ptr 0 0,.ptr 2 0,.ptr 1 0]]) (caps:=[]) ht rfl rfl
  have et:trunc 3 0 (.int .i64 0) ⟨[.sl .sh (l.map encPd)]::[.func 193 []]::[.sl (kq c) (w.map encA)]::ex,[],[]⟩=⟨[[.sl .sh (l.map encPd)],[.func 193 []],[.sl (kq c) (w.map encA)]],[],[]⟩:=
   trunc_ex (bs0:=[[.sl .sh (l.map encPd)],[.func 193 []],[.sl (kq c) (w.map encA)]]) (fun _ _=>rfl) (fun _ _=>by cases c<;>rfl)
  have hd':Does cfg (.call (.c (.func 66 [])) [.c (.func 255 [.ptr 0 0,.ptr 2 0,.ptr 1 0])]) ⟨[[.sl .sh (l.map encPd)],[.func 193 []],[.sl .full []]],[],[]⟩ (.int .i64 0) ⟨[[.sl .sh (l.map encPd)],[.func 193 []],[.sl (kq c) (w.map encA)]],[],[]⟩:=by
   rw[←et];exact hd
  refine⟨c,Gives.run (l192 _ _) ?_⟩
  exact gG 60 [] trivial (.effY hd'<|.ff<|.fin ((.ret (.tuple [.sl (kq c) (w.map encA),.int .i64 0]),{boxes:=[[.sl .sh (l.map encPd)],[.func 193 []],[.sl (kq c) (w.map encA)]],toks:=[],loops:=[]:Heap})) rfl)
 ·simp only at he hR
  subst hR
  have e0:w=[]:=hz he
  subst e0
  have ht:lim cfg (.fn 66) [.func 255 [.ptr 0 0,.ptr 2 0,.ptr 1 0]] ⟨[[.sl .sh (l.map encPd)],[.func 193 []],[.sl .full []]],[],[]⟩=some (.ret (.int .i64 er),H1):=by
   rw[lim_try rfl,l255,hr];rfl
  have hd:=does_callE (xs:=[.func 255 [.ptr 0 0,.ptr 2 0,.ptr 1 0]]) (caps:=[]) ht rfl rfl
  generalize trunc _ _ _ H1=H2 at hd
  refine⟨false,Gives.run (l192 _ _) ?_⟩
  exact gG 60 [] trivial (.effY hd<|.yes (show(er !=(0:Int))=true from(by simpa using he))<|.fin ((.ret (.tuple [.sl .full [],.int .i64 er]),H2)) rfl)
end Go.Aa.T
set_option linter.unusedVariables false
set_option linter.unusedSimpArgs false
set_option maxRecDepth 100000
namespace Go.Aa.T
open Go.Aa Go.Proofs
structure StIn(s:St):Prop where
 nodes:s.nodes.length<9223372036854775807
 pods:s.pods.length≤1000
 cap:∀n∈s.nodes,Vin n.cap
 need:∀p∈s.pods,Vin p.need
theorem lenPd{l:List Pod}:lenOk 11 (l.map encPd)=true:=lenOk_map fun _=>rfl
theorem on_loop(s:St)(name:List UInt8)(hs:s.pods.length≤1000):∀(post:List Pod)(i:Nat)(hd:s.pods.drop i=post)(acc:List Pod)(ha:acc.length≤i)(ex:List (List AV))(T:Env)
 (hT:Has T [(1,.str name),(5,rowF encPd acc),(9,.sl .sh (s.pods.map encPd)),(10,.int .i64 s.pods.length),(11,.int .i64 i)]),
 Goes cfg a34 k34_0 T ⟨(encSt s).cells::ex,tkR encPd acc,[]⟩ (IsRet (rowF encPd (acc++post.filter (onP name)))):=by
 intro post
 induction post with
 |nil=>
  intro i hd acc ha ex T hT
  have hge:=drop_ge hd
  rw[show acc++([]:List Pod).filter (onP name)=acc by simp]
  exact gG 60 _ hT (.no (dF ((↑i:Int)<(↑s.pods.length:Int)))<|.fin ((.ret (.sl (skF acc) (acc.map encPd)),{boxes:=[.sl .sh (s.nodes.map encN),.sl .sh (s.pods.map encPd),.sl .sh (s.buds.map encB)]::ex,toks:=tkR encPd acc,loops:=[]:Heap})) rfl)
 |cons x post ih=>
  intro i hd acc ha ex T hT
  have hlt:=drop_lt hd
  have hnx:=drop_next hd
  by_cases hq:onP name x=true
  ·have e:acc++(x::post).filter (onP name)=(acc++[x])++post.filter (onP name):=by simp[List.filter_cons,hq]
   rw[e]
   have ih':=ih (i+1) hnx (acc++[x]) (by simp;omega) (ex++[(encPd x).cells])
   have ap:∀bs ls,appendA 11 184 ⟨bs,tkR encPd acc,ls⟩ (rowF encPd acc) (.sl .full [encPd x])=some (rowF encPd (acc++[x]),⟨bs,tkR encPd (acc++[x]),ls⟩):=fun bs ls=>
    row_append_T encPd (x:=x) (by simp;omega) lenPd rfl rfl
   unfold onP at hq
   simp only[Bool.and_eq_true,beq_iff_eq,Bool.not_eq_true',beq_eq_false_iff_ne]at hq
   obtain⟨q1,q2⟩:=hq
   exact let ζ1:List AV:=[.str x.name,.str x.owner,.int .i64 x.prio,.sl .sh (x.need.map encA),.sl .sh (x.labels.map encP),.sl .sh (x.sel.map encM),.sl .sh (x.tols.map encL),.str x.key,.int .i64 x.most,.str x.node,.bool x.hold];let ζ2:List AV:=[.sl .sh (s.nodes.map encN),.sl .sh (s.pods.map encPd),.sl .sh (s.buds.map encB)];let ζ3:Heap:={boxes:=ζ2::(ex++[ζ1]),toks:=tkR encPd acc,loops:=[]:Heap};let ζ4:List AV:=[.str [],.str [],.int .i64 0,.sl .full [],.sl .full [],.sl .full [],.sl .full [],.str [],.int .i64 0,.str [],.bool false];let ζ5:Heap:={boxes:=ζ2::(ex++[ζ1]),toks:=tkR encPd (acc++[x]),loops:=[]:Heap};gG 120 _ hT (.yes (dT ((↑i:Int)<(↑s.pods.length:Int)))<|.idx (iR 11 encPd hd)<|.load (rfl:loadA true 11 {boxes:=ζ2::ex,toks:=tkR encPd acc,loops:=[]:Heap} (.ref ζ1)=some (.agg ζ1))<|.store (show storeA 11 {boxes:=ζ2::(ex++[ζ4]),toks:=tkR encPd acc,loops:=[]:Heap} (.ptr (ζ2::ex).length 0) (.agg ζ1)=some (ζ3)from store_box2 (cs:=ζ4) (cs':=ζ1) (by simp+zetaDelta) rfl (by simp+zetaDelta [List.set_append]))<|.load (show loadA false 1 ζ3 (.ptr (ζ2::ex).length 9)=some (.str x.node)from load_box (cs:=ζ1) (by simp+zetaDelta) rfl)<|.yes (show(x.node==name)=true from(by simpa using q1))<|.yes (show(!name==[])=true from by have hh:¬((name==[])=true):=(by simpa using q2);simp[hh])<|.load (show loadA true 11 ζ3 (.ptr (ζ2::ex).length 0)=some (.agg ζ1)from load_box (cs:=ζ1) (by simp+zetaDelta) rfl)<|.append (show appendA 11 184 ζ3 (.sl (skF acc) (acc.map encPd)) (.sl .full [.agg ζ1])=some ((rowF encPd (acc++[x]),ζ5))from ap _ _)<|.bin (iI i)<|.cutQ k34_0 [(1,.str name),(5,.sl (skF (acc++[x])) (List.map encPd (acc++[x]))),(9,.sl .sh (s.pods.map encPd)),(10,.int .i64 (↑s.pods.length)),(11,.int .i64 (↑(i+1)))] (ζ5) (fun T hT=>(ih' T hT)))
  ·have e:acc++(x::post).filter (onP name)=acc++post.filter (onP name):=by simp[List.filter_cons,hq]
   rw[e]
   have ih':=ih (i+1) hnx acc (by omega) (ex++[(encPd x).cells])
   by_cases q1:x.node=name
   ·have q2:name=[]:=by
     unfold onP at hq
     simpa[q1]using hq
    exact let ζ1:List AV:=[.str x.name,.str x.owner,.int .i64 x.prio,.sl .sh (x.need.map encA),.sl .sh (x.labels.map encP),.sl .sh (x.sel.map encM),.sl .sh (x.tols.map encL),.str x.key,.int .i64 x.most,.str x.node,.bool x.hold];let ζ2:List AV:=[.sl .sh (s.nodes.map encN),.sl .sh (s.pods.map encPd),.sl .sh (s.buds.map encB)];let ζ3:List AV:=[.str [],.str [],.int .i64 0,.sl .full [],.sl .full [],.sl .full [],.sl .full [],.str [],.int .i64 0,.str [],.bool false];let ζ4:Heap:={boxes:=ζ2::(ex++[ζ1]),toks:=tkR encPd acc,loops:=[]:Heap};gG 120 _ hT (.yes (dT ((↑i:Int)<(↑s.pods.length:Int)))<|.idx (iR 11 encPd hd)<|.load (rfl:loadA true 11 {boxes:=ζ2::ex,toks:=tkR encPd acc,loops:=[]:Heap} (.ref ζ1)=some (.agg ζ1))<|.store (show storeA 11 {boxes:=ζ2::(ex++[ζ3]),toks:=tkR encPd acc,loops:=[]:Heap} (.ptr (ζ2::ex).length 0) (.agg ζ1)=some (ζ4)from store_box2 (cs:=ζ3) (cs':=ζ1) (by simp+zetaDelta) rfl (by simp+zetaDelta [List.set_append]))<|.load (show loadA false 1 ζ4 (.ptr (ζ2::ex).length 9)=some (.str x.node)from load_box (cs:=ζ1) (by simp+zetaDelta) rfl)<|.yes (show(x.node==name)=true from(by simpa using q1))<|.no (show(!name==[])=false from by have hh:(name==[])=true:=(by simpa using q2);simp[hh])<|.bin (iI i)<|.cutQ k34_0 [(1,.str name),(5,.sl (skF acc) (acc.map encPd)),(9,.sl .sh (s.pods.map encPd)),(10,.int .i64 (↑s.pods.length)),(11,.int .i64 (↑(i+1)))] (ζ4) (fun T hT=>(ih' T hT)))
   ·exact let ζ1:List AV:=[.str x.name,.str x.owner,.int .i64 x.prio,.sl .sh (x.need.map encA),.sl .sh (x.labels.map encP),.sl .sh (x.sel.map encM),.sl .sh (x.tols.map encL),.str x.key,.int .i64 x.most,.str x.node,.bool x.hold];let ζ2:List AV:=[.sl .sh (s.nodes.map encN),.sl .sh (s.pods.map encPd),.sl .sh (s.buds.map encB)];let ζ3:List AV:=[.str [],.str [],.int .i64 0,.sl .full [],.sl .full [],.sl .full [],.sl .full [],.str [],.int .i64 0,.str [],.bool false];let ζ4:Heap:={boxes:=ζ2::(ex++[ζ1]),toks:=tkR encPd acc,loops:=[]:Heap};gG 120 _ hT (.yes (dT ((↑i:Int)<(↑s.pods.length:Int)))<|.idx (iR 11 encPd hd)<|.load (rfl:loadA true 11 {boxes:=ζ2::ex,toks:=tkR encPd acc,loops:=[]:Heap} (.ref ζ1)=some (.agg ζ1))<|.store (show storeA 11 {boxes:=ζ2::(ex++[ζ3]),toks:=tkR encPd acc,loops:=[]:Heap} (.ptr (ζ2::ex).length 0) (.agg ζ1)=some (ζ4)from store_box2 (cs:=ζ3) (cs':=ζ1) (by simp+zetaDelta) rfl (by simp+zetaDelta [List.set_append]))<|.load (show loadA false 1 ζ4 (.ptr (ζ2::ex).length 9)=some (.str x.node)from load_box (cs:=ζ1) (by simp+zetaDelta) rfl)<|.no (show(x.node==name)=false from Bool.eq_false_iff.2 (by simpa using q1))<|.ff<|.bin (iI i)<|.cutQ k34_0 [(1,.str name),(5,.sl (skF acc) (acc.map encPd)),(9,.sl .sh (s.pods.map encPd)),(10,.int .i64 (↑s.pods.length)),(11,.int .i64 (↑(i+1)))] (ζ4) (fun T hT=>(ih' T hT)))
theorem on_any(s:St)(name:List UInt8)(hs:s.pods.length≤1000):Gives cfg 34 [encSt s,.str name] (rowF encPd (onS s name)):=by
 refine Gives.run (l34 _ _) ?_
 have h:=on_loop s name hs s.pods 0 rfl [] (by simp) []
 have e:rowF encPd ([]:List Pod)=.sl .full []:=rfl
 rw[e,tk_nil,List.nil_append]at h
 exact gG 60 [] trivial (.len (lM .sh encPd s.pods)<|.cutQ k34_0 [(1,.str name),(5,.sl .full []),(9,.sl .sh (s.pods.map encPd)),(10,.int .i64 (↑s.pods.length)),(11,.int .i64 0)] ({boxes:=[[.sl .sh (s.nodes.map encN),.sl .sh (s.pods.map encPd),.sl .sh (s.buds.map encB)]],toks:=[],loops:=[]:Heap}) (fun T hT=>(h T hT)))
def usedS(s:St)(name:List UInt8):List Amount×Int:=match findG Node.name s.nodes name with
 |none=>([],3)
 |some _=>sumG [] ((onS s name).map (·.need))
theorem on_mem{s:St}{name:List UInt8}{p:Pod}(h:p∈onS s name):p∈s.pods:=(List.mem_filter.1 h).1
theorem on_len(s:St)(name:List UInt8):(onS s name).length≤s.pods.length:=List.length_filter_le _ _
theorem used_any(s:St)(name:List UInt8)(hs:StIn s):∃c,Gives cfg 109 [encSt s,.str name] (resV c (usedS s name)):=by
 have h1:=findN_any s.nodes name hs.nodes
 cases hf:findG Node.name s.nodes name with
 |none=>
  rw[hf]at h1
  have e:usedS s name=([],3):=by unfold usedS;rw[hf]
  rw[e]
  refine⟨false,Gives.run (l109 _ _) ?_⟩
  exact let ζ1:List AV:=[.str [],.sl .sh [],.sl .sh [],.sl .sh [],.bool false];let ζ2:List AV:=[.sl .sh (s.nodes.map encN),.str name];gG 60 [] trivial (.callK (ζ2) (.tuple [.agg ζ1,.bool false]) h1<|.tt<|.fin ((.ret (.tuple [.sl .full [],.int .i64 3]),{boxes:=[[.sl .sh (s.nodes.map encN),.sl .sh (s.pods.map encPd),.sl .sh (s.buds.map encB)],ζ1],toks:=[],loops:=[]:Heap})) rfl)
 |some n=>
  rw[hf]at h1
  have e:usedS s name=sumG [] ((onS s name).map (·.need)):=by unfold usedS;rw[hf]
  rw[e]
  have h2:=on_any s name hs.pods
  obtain⟨c,h3⟩:=sumP_any (onS s name) (by have:=on_len s name;have:=hs.pods;omega) (fun p hp=>hs.need p (on_mem hp))
  generalize sumG [] ((onS s name).map (·.need))=z at h3⊢
  refine⟨true,Gives.run (l109 _ _) ?_⟩
  exact let ζ1:List AV:=[.str n.name,.sl .sh (n.cap.map encA),.sl .sh (n.labels.map encP),.sl .sh (n.taints.map encT),.bool n.cordon];let ζ2:List AV:=[.sl .sh (s.nodes.map encN),.sl .sh (s.pods.map encPd),.sl .sh (s.buds.map encB)];let ζ3:List AV:=[.sl .sh (z.fst.map encA),.int .i64 z.snd];let ζ4:List AV:=[.sl .sh (s.nodes.map encN),.str name];gG 90 [] trivial (.callK (ζ4) (.tuple [.agg ζ1,.bool true]) h1<|.ff<|.callG ([.agg ζ2,.str name]) (.sl .sh (List.map encPd (onS s name))) h2 ⟨rfl,rfl⟩ Res.p<|.callG ([.sl .sh (List.map encPd (onS s name)),.func 193 []]) (.tuple ζ3) h3 ⟨rfl,rfl⟩ Res.p<|.fin ((.ret (.tuple ζ3),{boxes:=[ζ2,ζ1],toks:=[],loops:=[]:Heap})) rfl)
def usedR(s:St)(name:List UInt8):List Amount×Int:=match findG Node.name s.nodes name with
 |none=>([],3)
 |some _=>sumG [] ((s.pods.filter fun p=>p.node==name).map (·.need))
theorem used_ref_loop(s:St)(name:List UInt8)(hs:StIn s)(nc:List AV):∀(post:List Pod)(i:Nat)(hd:s.pods.drop i=post)(acc:List Amount)(ha:acc.length≤8∧rgA acc)(c:Bool)(T:Env)
 (hT:Has T [(1,.str name),(2,.ptr 0 0),(8,.sl (kq c) (acc.map encA)),(9,.int .i64 i)]),
 Goes cfg a121 k121_0 T ⟨[(encSt s).cells,nc],[],[]⟩ (RetV (sumG acc ((post.filter fun p=>p.node==name).map (·.need)))):=by
 intro post
 induction post with
 |nil=>
  intro i hd acc ha c T hT
  have hge:=drop_ge hd
  have hp:=hs.pods
  have e:sumG acc (((([]:List Pod).filter fun p=>p.node==name)).map (·.need))=(acc,0):=rfl
  rw[e]
  exact gG 60 _ hT (.len (lM .sh encPd s.pods)<|.no (dF ((↑i:Int)<(↑s.pods.length:Int)))<|.fin ((.ret (.tuple [.sl (kq c) (acc.map encA),.int .i64 0]),{boxes:=[[.sl .sh (s.nodes.map encN),.sl .sh (s.pods.map encPd),.sl .sh (s.buds.map encB)],nc],toks:=[],loops:=[]:Heap})) (by exact⟨c,rfl⟩))
 |cons x post ih=>
  intro i hd acc ha c T hT
  have hlt:=drop_lt hd
  have hnx:=drop_next hd
  have hp:=hs.pods
  have hxi:idxA 11 (.sl .sh (s.pods.map encPd)) (.int .i64 (i:Nat))=some (.ref (encPd x).cells):=idx_row (f:=encPd) hd rfl
  by_cases hq:x.node=name
  ·have e:((x::post).filter fun p=>p.node==name).map (·.need)=x.need::(post.filter fun p=>p.node==name).map (·.need):=by simp[List.filter_cons,hq]
   rw[e]
   have hx:=hs.need x (drop_mem hd)
   obtain⟨c2,h2⟩:=addR acc x.need (by omega) hx.len ha.2 hx.rg
   have hr:=addV_rg acc x.need
   have e2:sumG acc (x.need::(post.filter fun p=>p.node==name).map (·.need))=if(addV acc x.need).2=0 then sumG (addV acc x.need).1 ((post.filter fun p=>p.node==name).map (·.need))else([],(addV acc x.need).2):=rfl
   rw[e2]
   generalize addV acc x.need=z at h2 hr⊢
   obtain⟨w,er⟩:=z
   simp only at h2 hr⊢
   by_cases h0:er=0
   ·subst h0
    rw[if_pos rfl]
    have ih':=ih (i+1) hnx w ⟨hr.2,hr.1⟩ true
    have ek:kq true=.sh:=rfl
    rw[ek]at ih'
    exact gG 120 _ hT (.len (lM .sh encPd s.pods)<|.yes (dT ((↑i:Int)<(↑s.pods.length:Int)))<|.idx hxi<|.no (show(!x.node==name)=false from by have hh:(x.node==name)=true:=(by simpa using hq);simp[hh])<|.idx hxi<|.callG ([.sl (kq c) (acc.map encA),.sl .sh (x.need.map encA)]) (.tuple [.sl .sh (List.map encA (w,(0:Int)).fst),.int .i64 (w,(0:Int)).snd]) h2 Shuts.p Res.p<|.ff<|.bin (iI i)<|.cutQ k121_0 [(1,.str name),(2,.ptr 0 0),(8,.sl .sh (List.map encA (w,(0:Int)).fst)),(9,.int .i64 (↑(i+1)))] ({boxes:=[[.sl .sh (s.nodes.map encN),.sl .sh (s.pods.map encPd),.sl .sh (s.buds.map encB)],nc],toks:=[],loops:=[]:Heap}) (fun T hT=>(ih' T hT)))
   ·rw[if_neg h0]
    exact gG 120 _ hT (.len (lM .sh encPd s.pods)<|.yes (dT ((↑i:Int)<(↑s.pods.length:Int)))<|.idx hxi<|.no (show(!x.node==name)=false from by have hh:(x.node==name)=true:=(by simpa using hq);simp[hh])<|.idx hxi<|.callG ([.sl (kq c) (acc.map encA),.sl .sh (x.need.map encA)]) (.tuple [.sl .sh (List.map encA (w,er).fst),.int .i64 (w,er).snd]) h2 Shuts.p Res.p<|.yes (show((w,er).snd !=(0:Int))=true from(by simpa using h0))<|.fin ((.ret (.tuple [.sl .full [],.int .i64 (w,er).snd]),{boxes:=[[.sl .sh (s.nodes.map encN),.sl .sh (s.pods.map encPd),.sl .sh (s.buds.map encB)],nc],toks:=[],loops:=[]:Heap})) (by exact⟨false,rfl⟩))
  ·have e:((x::post).filter fun p=>p.node==name).map (·.need)=(post.filter fun p=>p.node==name).map (·.need):=by simp[List.filter_cons,hq]
   rw[e]
   have ih':=ih (i+1) hnx acc ha c
   exact gG 120 _ hT (.len (lM .sh encPd s.pods)<|.yes (dT ((↑i:Int)<(↑s.pods.length:Int)))<|.idx hxi<|.yes (show(!x.node==name)=true from by have hh:¬((x.node==name)=true):=(by simpa using hq);simp[hh])<|.bin (iI i)<|.cutQ k121_0 [(1,.str name),(2,.ptr 0 0),(8,.sl (kq c) (acc.map encA)),(9,.int .i64 (↑(i+1)))] ({boxes:=[[.sl .sh (s.nodes.map encN),.sl .sh (s.pods.map encPd),.sl .sh (s.buds.map encB)],nc],toks:=[],loops:=[]:Heap}) (fun T hT=>(ih' T hT)))
theorem used_ref(s:St)(name:List UInt8)(hs:StIn s):∃c,Gives cfg 121 [encSt s,.str name] (resV c (usedR s name)):=by
 have h1:=findN_ref s.nodes name hs.nodes
 refine RetV.gives (l121 _ _) ?_
 cases hf:findG Node.name s.nodes name with
 |none=>
  rw[hf]at h1
  have e:usedR s name=([],3):=by unfold usedR;rw[hf]
  rw[e]
  exact let ζ1:List AV:=[.str [],.sl .sh [],.sl .sh [],.sl .sh [],.bool false];let ζ2:List AV:=[.sl .sh (s.nodes.map encN),.str name];gG 60 [] trivial (.callK (ζ2) (.tuple [.agg ζ1,.bool false]) h1<|.tt<|.fin ((.ret (.tuple [.sl .full [],.int .i64 3]),{boxes:=[[.sl .sh (s.nodes.map encN),.sl .sh (s.pods.map encPd),.sl .sh (s.buds.map encB)],ζ1],toks:=[],loops:=[]:Heap})) (by exact⟨false,rfl⟩))
 |some n=>
  rw[hf]at h1
  have e:usedR s name=sumG [] ((s.pods.filter fun p=>p.node==name).map (·.need)):=by unfold usedR;rw[hf]
  rw[e]
  have h2:=used_ref_loop s name hs (encN n).cells s.pods 0 rfl [] ⟨by simp,fun x hx=>by cases hx⟩ false
  have ek:kq false=.full:=rfl
  rw[ek]at h2
  exact let ζ1:List AV:=[.str n.name,.sl .sh (n.cap.map encA),.sl .sh (n.labels.map encP),.sl .sh (n.taints.map encT),.bool n.cordon];let ζ2:List AV:=[.sl .sh (s.nodes.map encN),.str name];gG 90 [] trivial (.callK (ζ2) (.tuple [.agg ζ1,.bool true]) h1<|.ff<|.cutQ k121_0 [(1,.str name),(2,.ptr 0 0),(8,.sl .full []),(9,.int .i64 0)] ({boxes:=[[.sl .sh (s.nodes.map encN),.sl .sh (s.pods.map encPd),.sl .sh (s.buds.map encB)],ζ1],toks:=[],loops:=[]:Heap}) (fun T hT=>(h2 T hT)))
theorem used_same(s:St){name:List UInt8}(h:name≠[]):usedR s name=usedS s name:=by
 unfold usedR usedS onS
 have e:(s.pods.filter fun p=>p.node==name)=s.pods.filter (onP name):=by
  refine List.filter_congr fun p _=> ?_
  simp[onP,h]
 rw[e]
def totalS(s:St):List Amount×Int:=sumG [] (s.nodes.map (·.cap))
theorem total_ref_loop(s:St)(hs:StIn s):∀(post:List Node)(i:Nat)(hd:s.nodes.drop i=post)(acc:List Amount)(ha:acc.length≤8∧rgA acc)(c:Bool)(T:Env)
 (hT:Has T [(1,.ptr 0 0),(4,.sl (kq c) (acc.map encA)),(5,.int .i64 i)]),
 Goes cfg a123 k123_0 T ⟨[(encSt s).cells],[],[]⟩ (RetV (sumG acc (post.map (·.cap)))):=by
 intro post
 induction post with
 |nil=>
  intro i hd acc ha c T hT
  have hge:=drop_ge hd
  have hp:=hs.nodes
  have e:sumG acc (([]:List Node).map (·.cap))=(acc,0):=rfl
  rw[e]
  exact gG 60 _ hT (.len (lM .sh encN s.nodes)<|.no (dF ((↑i:Int)<(↑s.nodes.length:Int)))<|.fin ((.ret (.tuple [.sl (kq c) (acc.map encA),.int .i64 0]),{boxes:=[[.sl .sh (s.nodes.map encN),.sl .sh (s.pods.map encPd),.sl .sh (s.buds.map encB)]],toks:=[],loops:=[]:Heap})) (by exact⟨c,rfl⟩))
 |cons x post ih=>
  intro i hd acc ha c T hT
  have hlt:=drop_lt hd
  have hnx:=drop_next hd
  have hp:=hs.nodes
  have hxi:idxA 5 (.sl .sh (s.nodes.map encN)) (.int .i64 (i:Nat))=some (.ref (encN x).cells):=idx_row (f:=encN) hd rfl
  have hx:=hs.cap x (drop_mem hd)
  obtain⟨c2,h2⟩:=addR acc x.cap (by omega) hx.len ha.2 hx.rg
  have hr:=addV_rg acc x.cap
  have e2:sumG acc ((x::post).map (·.cap))=if(addV acc x.cap).2=0 then sumG (addV acc x.cap).1 (post.map (·.cap))else([],(addV acc x.cap).2):=rfl
  rw[e2]
  generalize addV acc x.cap=z at h2 hr⊢
  obtain⟨w,er⟩:=z
  simp only at h2 hr⊢
  by_cases h0:er=0
  ·subst h0
   rw[if_pos rfl]
   have ih':=ih (i+1) hnx w ⟨hr.2,hr.1⟩ true
   have ek:kq true=.sh:=rfl
   rw[ek]at ih'
   exact gG 120 _ hT (.len (lM .sh encN s.nodes)<|.yes (dT ((↑i:Int)<(↑s.nodes.length:Int)))<|.idx hxi<|.callG ([.sl (kq c) (acc.map encA),.sl .sh (x.cap.map encA)]) (.tuple [.sl .sh (List.map encA (w,(0:Int)).fst),.int .i64 (w,(0:Int)).snd]) h2 Shuts.p Res.p<|.ff<|.bin (iI i)<|.cutQ k123_0 [(1,.ptr 0 0),(4,.sl .sh (List.map encA (w,(0:Int)).fst)),(5,.int .i64 (↑(i+1)))] ({boxes:=[[.sl .sh (s.nodes.map encN),.sl .sh (s.pods.map encPd),.sl .sh (s.buds.map encB)]],toks:=[],loops:=[]:Heap}) (fun T hT=>(ih' T hT)))
  ·rw[if_neg h0]
   exact gG 120 _ hT (.len (lM .sh encN s.nodes)<|.yes (dT ((↑i:Int)<(↑s.nodes.length:Int)))<|.idx hxi<|.callG ([.sl (kq c) (acc.map encA),.sl .sh (x.cap.map encA)]) (.tuple [.sl .sh (List.map encA (w,er).fst),.int .i64 (w,er).snd]) h2 Shuts.p Res.p<|.yes (show((w,er).snd !=(0:Int))=true from(by simpa using h0))<|.fin ((.ret (.tuple [.sl .full [],.int .i64 (w,er).snd]),{boxes:=[[.sl .sh (s.nodes.map encN),.sl .sh (s.pods.map encPd),.sl .sh (s.buds.map encB)]],toks:=[],loops:=[]:Heap})) (by exact⟨false,rfl⟩))
theorem total_ref(s:St)(hs:StIn s):∃c,Gives cfg 123 [encSt s] (resV c (totalS s)):=by
 refine RetV.gives (l123 _ _) ?_
 have h2:=total_ref_loop s hs s.nodes 0 rfl [] ⟨by simp,fun x hx=>by cases hx⟩ false
 have ek:kq false=.full:=rfl
 rw[ek]at h2
 unfold totalS
 exact gG 90 [] trivial (.cutQ k123_0 [(1,.ptr 0 0),(4,.sl .full []),(5,.int .i64 0)] ({boxes:=[[.sl .sh (s.nodes.map encN),.sl .sh (s.pods.map encPd),.sl .sh (s.buds.map encB)]],toks:=[],loops:=[]:Heap}) (fun T hT=>(h2 T hT)))
theorem sumG_in:∀(vs:List (List Amount))(acc:List Amount),acc.length≤8∧rgA acc→(sumG acc vs).1.length≤8∧rgA (sumG acc vs).1
 |[],acc,h=>h
 |v::vs,acc,h=>by
  unfold sumG
  split
  ·exact sumG_in vs _ ⟨(addV_rg acc v).2,(addV_rg acc v).1⟩
  ·exact⟨by simp,fun x hx=>by cases hx⟩
theorem usedS_in(s:St)(name:List UInt8):(usedS s name).1.length≤8∧rgA (usedS s name).1:=by
 unfold usedS
 split
 ·exact⟨by simp,fun x hx=>by cases hx⟩
 ·exact sumG_in _ _ ⟨by simp,fun x hx=>by cases hx⟩
theorem usedR_in(s:St)(name:List UInt8):(usedR s name).1.length≤8∧rgA (usedR s name).1:=by
 unfold usedR
 split
 ·exact⟨by simp,fun x hx=>by cases hx⟩
 ·exact sumG_in _ _ ⟨by simp,fun x hx=>by cases hx⟩
end Go.Aa.T
set_option linter.unusedVariables false
set_option linter.unusedSimpArgs false
set_option maxRecDepth 100000
namespace Go.Aa.T
open Go.Aa Go.Proofs
section
variable{call:CallF}{i p:Nat}{o:AOper}{ops:List AOper}{T:Env}{H H':Heap}{u v:AV}
theorem runD_val(hg:o.guard=none)(h:opStepD call o.op T H=some (.val u H')):runD call i (o::ops) none T H=runD call (i+1) ops none (setD T o.dst u) H':=by
 simp only[runD,wantedA,hg,h]
theorem runD_pan(hg:o.guard=none)(h:opStepD call o.op T H=some (.pan v H')):runD call i (o::ops) none T H=runD call (i+1) ops (some (i,v)) T H':=by
 simp only[runD,wantedA,hg,h]
theorem runD_skip(hd:o.deps.contains p=true):runD call i (o::ops) (some (p,v)) T H=runD call (i+1) ops (some (p,v)) T H:=by
 simp only[runD,hd,if_true]
theorem runD_look(hd:o.deps.contains p=false)(hg:o.guard=none)(h:opStepD call o.op T H=some (.val u H')):runD call i (o::ops) (some (p,v)) T H=runD call (i+1) ops (some (p,v)) (setD T o.dst u) H':=by
 simp only[runD,wantedA,hd,hg,h,Bool.false_eq_true,if_false]
end
theorem Goes.imp{A:AFunc}{k:List AIt}{T:Env}{H:Heap}{R R':ARes×Heap→Prop}(h:Goes cfg A k T H R)(hi:∀r,R r→R' r):Goes cfg A k T H R':=by
 obtain⟨r,h1,h2⟩:=h
 exact⟨r,h1,hi r h2⟩
theorem load_any{agg:Bool}{n k off:Nat}{H:Heap}{cs:List AV}{v:AV}(h:H.boxes[k]?=some cs)(e:loadA agg n ⟨[cs],[],[]⟩ (.ptr 0 off)=some v)(T:Env):opStepD (lim cfg) (.load agg n (.c (.ptr k off))) T H=some (.val v H):=by
 simp only[opStepD,opStep,ev,load_box h e]
end Go.Aa.T
