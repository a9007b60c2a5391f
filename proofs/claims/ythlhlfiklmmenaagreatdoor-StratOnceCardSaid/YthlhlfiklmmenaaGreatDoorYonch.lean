/-
  WHAT THE LAW LEANS ON, part 8 of 14: a machine of values and its soundness; the functions of the law upon it; what they come to.
-/
import Derived.Test.YthlhlfiklmmenaaGreatDoorYoncg
set_option linter.unusedVariables false
set_option linter.unusedSimpArgs false
set_option maxRecDepth 100000
namespace Go.Aa.T
open Go.Aa Go.Proofs
structure Pair where
 key:List UInt8
 val:List UInt8
structure Term where
 op:Int
 key:List UInt8
 val:List UInt8
def Pair.cells(t:Pair):List AV:=[.str t.key,.str t.val]
def Term.cells(t:Term):List AV:=[.int .i64 t.op,.str t.key,.str t.val]
def encP(t:Pair):AV:=.agg t.cells
def encM(t:Term):AV:=.agg t.cells
def fewP(l:List Pair):Bool:=decide (l.length≤20)&&few (fun t=>(t.key,t.val)) l
def fewM(l:List Term):Bool:=decide (l.length≤20)&&few (fun t=>(t.key,t.val)) l
theorem fewP_len{l:List Pair}(h:fewP l=true):l.length≤20:=by
 simp only[fewP,Bool.and_eq_true,decide_eq_true_eq]at h;exact h.1
theorem fewM_len{l:List Term}(h:fewM l=true):l.length≤20:=by
 simp only[fewM,Bool.and_eq_true,decide_eq_true_eq]at h;exact h.1
theorem fewP_loop(l:List Pair)(hn:l.length≤20):∀(post:List Pair)(i:Nat)(hd:l.drop i=post)(T:Env)(hT:Has T [(0,.sl .sh (l.map encP)),(3,.int .i64 i)]),
 Goes cfg a204 k204_0 T Heap.nil (IsRet (.bool (few (fun t=>(t.key,t.val)) post))):=by
 intro post
 induction post with
 |nil=>
  intro i hd T hT
  have hge:=drop_ge hd
  exact gG 60 _ hT (.len (lM .sh encP l)<|.no (dF ((↑i:Int)<(↑l.length:Int)))<|.fin ((.ret (.bool true),{boxes:=[],toks:=[],loops:=[]:Heap})) rfl)
 |cons x post ih=>
  intro i hd T hT
  have hlt:=drop_lt hd
  have hnx:=drop_next hd
  exact let ζ1:Heap:={boxes:=[],toks:=[],loops:=[]:Heap};gG 60 _ hT (.len (lM .sh encP l)<|.yes (dT ((↑i:Int)<(↑l.length:Int)))<|.idx (iR 2 encP hd)<|.len (show lenA true (.str x.key)=some (.int .i64 (↑x.key.length))from len_str _)<|.split ((50:Int)<(↑x.key.length:Int)) (fun h1=>.yes (dT ((50:Int)<(↑x.key.length:Int)) h1)<|.tt<|.fin ((.ret (.bool false),ζ1)) (by simp only[IsRet];grind[few])) (fun h1=>.no (dF ((50:Int)<(↑x.key.length:Int)) h1)<|.idx (iR 2 encP hd)<|.len (show lenA true (.str x.val)=some (.int .i64 (↑x.val.length))from len_str _)<|.split ((50:Int)<(↑x.val.length:Int)) (fun h2=>.yes (dT ((50:Int)<(↑x.val.length:Int)) h2)<|.fin ((.ret (.bool false),ζ1)) (by simp only[IsRet];grind[few])) (fun h2=>.no (dF ((50:Int)<(↑x.val.length:Int)) h2)<|.bin (iI i)<|.cutQ k204_0 [(0,.sl .sh (l.map encP)),(3,.int .i64 (↑(i+1)))] (ζ1) (fun T hT=>(ih (i+1) hnx T hT).to (by grind[few])))))
theorem fewM_loop(l:List Term)(hn:l.length≤20):∀(post:List Term)(i:Nat)(hd:l.drop i=post)(T:Env)(hT:Has T [(0,.sl .sh (l.map encM)),(3,.int .i64 i)]),
 Goes cfg a202 k202_0 T Heap.nil (IsRet (.bool (few (fun t=>(t.key,t.val)) post))):=by
 intro post
 induction post with
 |nil=>
  intro i hd T hT
  have hge:=drop_ge hd
  exact gG 60 _ hT (.len (lM .sh encM l)<|.no (dF ((↑i:Int)<(↑l.length:Int)))<|.fin ((.ret (.bool true),{boxes:=[],toks:=[],loops:=[]:Heap})) rfl)
 |cons x post ih=>
  intro i hd T hT
  have hlt:=drop_lt hd
  have hnx:=drop_next hd
  exact let ζ1:Heap:={boxes:=[],toks:=[],loops:=[]:Heap};gG 60 _ hT (.len (lM .sh encM l)<|.yes (dT ((↑i:Int)<(↑l.length:Int)))<|.idx (iR 3 encM hd)<|.len (show lenA true (.str x.key)=some (.int .i64 (↑x.key.length))from len_str _)<|.split ((50:Int)<(↑x.key.length:Int)) (fun h1=>.yes (dT ((50:Int)<(↑x.key.length:Int)) h1)<|.tt<|.fin ((.ret (.bool false),ζ1)) (by simp only[IsRet];grind[few])) (fun h1=>.no (dF ((50:Int)<(↑x.key.length:Int)) h1)<|.idx (iR 3 encM hd)<|.len (show lenA true (.str x.val)=some (.int .i64 (↑x.val.length))from len_str _)<|.split ((50:Int)<(↑x.val.length:Int)) (fun h2=>.yes (dT ((50:Int)<(↑x.val.length:Int)) h2)<|.fin ((.ret (.bool false),ζ1)) (by simp only[IsRet];grind[few])) (fun h2=>.no (dF ((50:Int)<(↑x.val.length:Int)) h2)<|.bin (iI i)<|.cutQ k202_0 [(0,.sl .sh (l.map encM)),(3,.int .i64 (↑(i+1)))] (ζ1) (fun T hT=>(ih (i+1) hnx T hT).to (by grind[few])))))
theorem fewP_any(l:List Pair):Gives cfg 204 [.sl .sh (l.map encP)] (.bool (fewP l)):=by
 refine Gives.run (l204 _ _) ?_
 have h:=fun hn=>fewP_loop l hn l 0 rfl
 exact let ζ1:Heap:={boxes:=[],toks:=[],loops:=[]:Heap};gG 60 [] trivial (.len (lM .sh encP l)<|.split ((20:Int)<(↑l.length:Int)) (fun h1=>.yes (dT ((20:Int)<(↑l.length:Int)) h1)<|.fin ((.ret (.bool false),ζ1)) (by simp only[IsRet];grind[fewP])) (fun h1=>.no (dF ((20:Int)<(↑l.length:Int)) h1)<|.cutQ k204_0 [(0,.sl .sh (l.map encP)),(3,.int .i64 0)] (ζ1) (fun T hT=>(h (by omega) T hT).to (by grind[fewP]))))
theorem fewM_any(l:List Term):Gives cfg 202 [.sl .sh (l.map encM)] (.bool (fewM l)):=by
 refine Gives.run (l202 _ _) ?_
 have h:=fun hn=>fewM_loop l hn l 0 rfl
 exact let ζ1:Heap:={boxes:=[],toks:=[],loops:=[]:Heap};gG 60 [] trivial (.len (lM .sh encM l)<|.split ((20:Int)<(↑l.length:Int)) (fun h1=>.yes (dT ((20:Int)<(↑l.length:Int)) h1)<|.fin ((.ret (.bool false),ζ1)) (by simp only[IsRet];grind[fewM])) (fun h1=>.no (dF ((20:Int)<(↑l.length:Int)) h1)<|.cutQ k202_0 [(0,.sl .sh (l.map encM)),(3,.int .i64 0)] (ζ1) (fun T hT=>(h (by omega) T hT).to (by grind[fewM]))))
theorem ofP_loop(l:List Pair)(hn:l.length≤20):∀(post:List Pair)(i:Nat)(acc:List AV)(hd:l.drop i=post)(ha:acc.length=i)(hl:lenOk 2 acc=true)(T:Env)(hT:Has T [(0,.sl .sh (l.map encP)),(3,rowS Heap.nil acc),(4,.int .i64 i)]),
 Goes cfg a197 k197_0 T (rowH Heap.nil acc) (IsRet (rowS Heap.nil (acc++post.map encP))):=by
 intro post
 induction post with
 |nil=>
  intro i acc hd ha hl T hT
  have hge:=drop_ge hd
  exact gG 60 _ hT (.len (lM .sh encP l)<|.no (dF ((↑i:Int)<(↑l.length:Int)))<|.fin ((.ret (setD (setD (setD (setD (setD (setD (updL T [(0,.sl .sh (l.map encP)),(3,rowS Heap.nil acc),(4,.int .i64 ↑i)]) (some 5) (ev (updL T [(0,.sl .sh (l.map encP)),(3,rowS Heap.nil acc),(4,.int .i64 ↑i)]) (.t 4))) (some 6) (ev (setD (updL T [(0,.sl .sh (l.map encP)),(3,rowS Heap.nil acc),(4,.int .i64 ↑i)]) (some 5) (ev (updL T [(0,.sl .sh (l.map encP)),(3,rowS Heap.nil acc),(4,.int .i64 ↑i)]) (.t 4))) (.t 0))) (some 7) (.int .i64 (↑l.length))) (some 8) (.bool (decide ((↑i:Int)<(↑l.length:Int))))) (some 25) (ev (setD (setD (setD (setD (updL T [(0,.sl .sh (l.map encP)),(3,rowS Heap.nil acc),(4,.int .i64 ↑i)]) (some 5) (ev (updL T [(0,.sl .sh (l.map encP)),(3,rowS Heap.nil acc),(4,.int .i64 ↑i)]) (.t 4))) (some 6) (ev (setD (updL T [(0,.sl .sh (l.map encP)),(3,rowS Heap.nil acc),(4,.int .i64 ↑i)]) (some 5) (ev (updL T [(0,.sl .sh (l.map encP)),(3,rowS Heap.nil acc),(4,.int .i64 ↑i)]) (.t 4))) (.t 0))) (some 7) (.int .i64 (↑l.length))) (some 8) (.bool (decide ((↑i:Int)<(↑l.length:Int))))) (.t 3))) (some 2) (ev (setD (setD (setD (setD (setD (updL T [(0,.sl .sh (l.map encP)),(3,rowS Heap.nil acc),(4,.int .i64 ↑i)]) (some 5) (ev (updL T [(0,.sl .sh (l.map encP)),(3,rowS Heap.nil acc),(4,.int .i64 ↑i)]) (.t 4))) (some 6) (ev (setD (updL T [(0,.sl .sh (l.map encP)),(3,rowS Heap.nil acc),(4,.int .i64 ↑i)]) (some 5) (ev (updL T [(0,.sl .sh (l.map encP)),(3,rowS Heap.nil acc),(4,.int .i64 ↑i)]) (.t 4))) (.t 0))) (some 7) (.int .i64 (↑l.length))) (some 8) (.bool (decide ((↑i:Int)<(↑l.length:Int))))) (some 25) (ev (setD (setD (setD (setD (updL T [(0,.sl .sh (l.map encP)),(3,rowS Heap.nil acc),(4,.int .i64 ↑i)]) (some 5) (ev (updL T [(0,.sl .sh (l.map encP)),(3,rowS Heap.nil acc),(4,.int .i64 ↑i)]) (.t 4))) (some 6) (ev (setD (updL T [(0,.sl .sh (l.map encP)),(3,rowS Heap.nil acc),(4,.int .i64 ↑i)]) (some 5) (ev (updL T [(0,.sl .sh (l.map encP)),(3,rowS Heap.nil acc),(4,.int .i64 ↑i)]) (.t 4))) (.t 0))) (some 7) (.int .i64 (↑l.length))) (some 8) (.bool (decide ((↑i:Int)<(↑l.length:Int))))) (.t 3))) (.t 25)) 2),rowH Heap.nil acc)) (by simp only[IsRet,List.map_nil,List.append_nil];rfl))
 |cons x post ih=>
  intro i acc hd ha hl T hT
  have hlt:=drop_lt hd
  have hnx:=drop_next hd
  exact gG 60 _ hT (.len (lM .sh encP l)<|.yes (dT ((↑i:Int)<(↑l.length:Int)) (by simp;omega))<|.idx (iR 2 encP hd)<|.load (rfl:loadA false 1 (rowH Heap.nil acc) (.ref [.str x.key])=some (.str x.key))<|.idx (iR 2 encP hd)<|.load (rfl:loadA false 1 (rowH Heap.nil acc) (.ref [.str x.val])=some (.str x.val))<|.append (show appendA 2 32 (rowH Heap.nil acc) (rowS Heap.nil acc) (.sl .full [.agg [.str x.key,.str x.val]])=some ((rowS Heap.nil (acc++[AV.agg [.str x.key,.str x.val]]),rowH Heap.nil (acc++[AV.agg [.str x.key,.str x.val]])))from row_append (by omega) hl (by rfl) (by rfl))<|.bin (iI i)<|.cutQ k197_0 [(0,.sl .sh (l.map encP)),(3,rowS Heap.nil (acc++[AV.agg [.str x.key,.str x.val]])),(4,.int .i64 (↑(i+1)))] (rowH Heap.nil (acc++[AV.agg [.str x.key,.str x.val]])) (fun T hT=>(ih (i+1) (acc++[AV.agg [.str x.key,.str x.val]]) hnx (by simp;omega) (by exact lenOk_snoc (by assumption) rfl) T hT).to (by simp[encP,Pair.cells])))
theorem ofM_loop(l:List Term)(hn:l.length≤20):∀(post:List Term)(i:Nat)(acc:List AV)(hd:l.drop i=post)(ha:acc.length=i)(hl:lenOk 3 acc=true)(T:Env)(hT:Has T [(0,.sl .sh (l.map encM)),(3,rowS Heap.nil acc),(4,.int .i64 i)]),
 Goes cfg a198 k198_0 T (rowH Heap.nil acc) (IsRet (rowS Heap.nil (acc++post.map encM))):=by
 intro post
 induction post with
 |nil=>
  intro i acc hd ha hl T hT
  have hge:=drop_ge hd
  exact gG 60 _ hT (.len (lM .sh encM l)<|.no (dF ((↑i:Int)<(↑l.length:Int)))<|.fin ((.ret (setD (setD (setD (setD (setD (setD (updL T [(0,.sl .sh (l.map encM)),(3,rowS Heap.nil acc),(4,.int .i64 ↑i)]) (some 5) (ev (updL T [(0,.sl .sh (l.map encM)),(3,rowS Heap.nil acc),(4,.int .i64 ↑i)]) (.t 4))) (some 6) (ev (setD (updL T [(0,.sl .sh (l.map encM)),(3,rowS Heap.nil acc),(4,.int .i64 ↑i)]) (some 5) (ev (updL T [(0,.sl .sh (l.map encM)),(3,rowS Heap.nil acc),(4,.int .i64 ↑i)]) (.t 4))) (.t 0))) (some 7) (.int .i64 (↑l.length))) (some 8) (.bool (decide ((↑i:Int)<(↑l.length:Int))))) (some 30) (ev (setD (setD (setD (setD (updL T [(0,.sl .sh (l.map encM)),(3,rowS Heap.nil acc),(4,.int .i64 ↑i)]) (some 5) (ev (updL T [(0,.sl .sh (l.map encM)),(3,rowS Heap.nil acc),(4,.int .i64 ↑i)]) (.t 4))) (some 6) (ev (setD (updL T [(0,.sl .sh (l.map encM)),(3,rowS Heap.nil acc),(4,.int .i64 ↑i)]) (some 5) (ev (updL T [(0,.sl .sh (l.map encM)),(3,rowS Heap.nil acc),(4,.int .i64 ↑i)]) (.t 4))) (.t 0))) (some 7) (.int .i64 (↑l.length))) (some 8) (.bool (decide ((↑i:Int)<(↑l.length:Int))))) (.t 3))) (some 2) (ev (setD (setD (setD (setD (setD (updL T [(0,.sl .sh (l.map encM)),(3,rowS Heap.nil acc),(4,.int .i64 ↑i)]) (some 5) (ev (updL T [(0,.sl .sh (l.map encM)),(3,rowS Heap.nil acc),(4,.int .i64 ↑i)]) (.t 4))) (some 6) (ev (setD (updL T [(0,.sl .sh (l.map encM)),(3,rowS Heap.nil acc),(4,.int .i64 ↑i)]) (some 5) (ev (updL T [(0,.sl .sh (l.map encM)),(3,rowS Heap.nil acc),(4,.int .i64 ↑i)]) (.t 4))) (.t 0))) (some 7) (.int .i64 (↑l.length))) (some 8) (.bool (decide ((↑i:Int)<(↑l.length:Int))))) (some 30) (ev (setD (setD (setD (setD (updL T [(0,.sl .sh (l.map encM)),(3,rowS Heap.nil acc),(4,.int .i64 ↑i)]) (some 5) (ev (updL T [(0,.sl .sh (l.map encM)),(3,rowS Heap.nil acc),(4,.int .i64 ↑i)]) (.t 4))) (some 6) (ev (setD (updL T [(0,.sl .sh (l.map encM)),(3,rowS Heap.nil acc),(4,.int .i64 ↑i)]) (some 5) (ev (updL T [(0,.sl .sh (l.map encM)),(3,rowS Heap.nil acc),(4,.int .i64 ↑i)]) (.t 4))) (.t 0))) (some 7) (.int .i64 (↑l.length))) (some 8) (.bool (decide ((↑i:Int)<(↑l.length:Int))))) (.t 3))) (.t 30)) 2),rowH Heap.nil acc)) (by simp only[IsRet,List.map_nil,List.append_nil];rfl))
 |cons x post ih=>
  intro i acc hd ha hl T hT
  have hlt:=drop_lt hd
  have hnx:=drop_next hd
  exact gG 60 _ hT (.len (lM .sh encM l)<|.yes (dT ((↑i:Int)<(↑l.length:Int)) (by simp;omega))<|.idx (iR 3 encM hd)<|.load (rfl:loadA false 1 (rowH Heap.nil acc) (.ref [.int .i64 x.op])=some (.int .i64 x.op))<|.idx (iR 3 encM hd)<|.load (rfl:loadA false 1 (rowH Heap.nil acc) (.ref [.str x.key])=some (.str x.key))<|.idx (iR 3 encM hd)<|.load (rfl:loadA false 1 (rowH Heap.nil acc) (.ref [.str x.val])=some (.str x.val))<|.append (show appendA 3 40 (rowH Heap.nil acc) (rowS Heap.nil acc) (.sl .full [.agg [.int .i64 x.op,.str x.key,.str x.val]])=some ((rowS Heap.nil (acc++[AV.agg [.int .i64 x.op,.str x.key,.str x.val]]),rowH Heap.nil (acc++[AV.agg [.int .i64 x.op,.str x.key,.str x.val]])))from row_append (by omega) hl (by rfl) (by rfl))<|.bin (iI i)<|.cutQ k198_0 [(0,.sl .sh (l.map encM)),(3,rowS Heap.nil (acc++[AV.agg [.int .i64 x.op,.str x.key,.str x.val]])),(4,.int .i64 (↑(i+1)))] (rowH Heap.nil (acc++[AV.agg [.int .i64 x.op,.str x.key,.str x.val]])) (fun T hT=>(ih (i+1) (acc++[AV.agg [.int .i64 x.op,.str x.key,.str x.val]]) hnx (by simp;omega) (by exact lenOk_snoc (by assumption) rfl) T hT).to (by simp[encM,Term.cells])))
theorem ofP_any(l:List Pair)(hn:l.length≤20):Gives cfg 197 [.sl .sh (l.map encP)] (rowS Heap.nil (l.map encP)):=by
 refine Gives.run (l197 _ _) ?_
 have h:=ofP_loop l hn l 0 [] rfl rfl rfl
 exact gG 60 [] trivial (.cutQ k197_0 [(0,.sl .sh (l.map encP)),(3,.sl .full []),(4,.int .i64 0)] ({boxes:=[],toks:=[],loops:=[]:Heap}) (fun T hT=>(h T hT)))
theorem ofM_any(l:List Term)(hn:l.length≤20):Gives cfg 198 [.sl .sh (l.map encM)] (rowS Heap.nil (l.map encM)):=by
 refine Gives.run (l198 _ _) ?_
 have h:=ofM_loop l hn l 0 [] rfl rfl rfl
 exact gG 60 [] trivial (.cutQ k198_0 [(0,.sl .sh (l.map encM)),(3,.sl .full []),(4,.int .i64 0)] ({boxes:=[],toks:=[],loops:=[]:Heap}) (fun T hT=>(h T hT)))
def ordB(s:List Pair)(i:Nat)(x:Pair):Bool:=match i with
 |0=>false
 |j+1=>match s[j]? with
  |some p=>Op.bytesLess x.key p.key||x.key==p.key
  |none=>false
def ckSl(s:List Pair):Nat→List Pair→Int
 |_,[]=>0
 |i,x::post=>if isName x.key&&isName x.val then(if ordB s i x then 13 else ckSl s (i+1) post)else 3
def ckS(s:List Pair):Int:=if s.length≤8 then ckSl s 0 s else 4
theorem dec_i{i:Nat}(h:i<9223372036854775807):binA .sub (.int .i64 ((i+1:Nat):Int)) (.int .i64 1)=some (.int .i64 (i:Int)):=by
 rw[subI (by omega) (by omega)];congr 2;omega
theorem ckS_ref_loop(l:List Pair)(hn:l.length≤8):∀(post:List Pair)(i:Nat)(hd:l.drop i=post)(T:Env)(hT:Has T [(0,.sl .sh (l.map encP)),(3,.int .i64 i)]),
 Goes cfg a261 k261_0 T Heap.nil (IsRet (.int .i64 (ckSl l i post))):=by
 intro post
 induction post with
 |nil=>
  intro i hd T hT
  have hge:=drop_ge hd
  exact gG 60 _ hT (.len (lM .sh encP l)<|.no (dF ((↑i:Int)<(↑l.length:Int)))<|.fin ((.ret (.int .i64 0),{boxes:=[],toks:=[],loops:=[]:Heap})) rfl)
 |cons x post ih=>
  intro i hd T hT
  have hlt:=drop_lt hd
  have hnx:=drop_next hd
  cases i with
  |zero=>exact let ζ1:Heap:={boxes:=[],toks:=[],loops:=[]:Heap};gG 60 _ hT (.len (lM .sh encP l)<|.yes (dT ((↑(0:Nat):Int)<(↑l.length:Int)))<|.idx (show idxA 2 (.sl .sh (l.map encP)) (.int .i64 (↑(0:Nat):Int))=some (.ref (encP x).cells)from idx_row hd (by rfl))<|.callK ([.str x.key]) (.bool (isName x.key)) (show Gives cfg 259 [.str x.key] (.bool (isName x.key))from name_any _)<|.split (isName x.key=true) (fun h1=>.no (show(!isName x.key)=false from by have hh:isName x.key=true:=h1;simp[hh])<|.idx (show idxA 2 (.sl .sh (l.map encP)) (.int .i64 (↑(0:Nat):Int))=some (.ref (encP x).cells)from idx_row hd (by rfl))<|.callK ([.str x.val]) (.bool (isName x.val)) (show Gives cfg 259 [.str x.val] (.bool (isName x.val))from name_any _)<|.split (isName x.val=true) (fun h2=>.no (show(!isName x.val)=false from by have hh:isName x.val=true:=h2;simp[hh])<|.ff<|.ff<|.bin (show binA .add (.int .i64 (↑(0:Nat):Int)) (.int .i64 1)=some (.int .i64 (↑(0+1):Int))from inc_i (by omega))<|.cutQ k261_0 [(0,.sl .sh (l.map encP)),(3,.int .i64 (↑(0+1):Int))] (ζ1) (fun T hT=>(ih (0+1) hnx T hT).to (by grind[ckSl,ordB]))) (fun h2=>.yes (show(!isName x.val)=true from by have hh:¬(isName x.val=true):=h2;simp[hh])<|.fin ((.ret (.int .i64 3),ζ1)) (by simp only[IsRet];grind[ckSl,ordB]))) (fun h1=>.yes (show(!isName x.key)=true from by have hh:¬(isName x.key=true):=h1;simp[hh])<|.tt<|.fin ((.ret (.int .i64 3),ζ1)) (by simp only[IsRet];grind[ckSl,ordB])))
  |succ j=>
   obtain⟨p,hp⟩:∃p,l[j]?=some p:=⟨l[j],List.getElem?_eq_getElem (by omega)⟩
   exact let ζ1:Heap:={boxes:=[],toks:=[],loops:=[]:Heap};gG 60 _ hT (.len (lM .sh encP l)<|.yes (dT ((↑(j+1):Int)<(↑l.length:Int)))<|.idx (show idxA 2 (.sl .sh (l.map encP)) (.int .i64 (↑(j+1):Int))=some (.ref (encP x).cells)from idx_row hd (by rfl))<|.callK ([.str x.key]) (.bool (isName x.key)) (show Gives cfg 259 [.str x.key] (.bool (isName x.key))from name_any _)<|.split (isName x.key=true) (fun h1=>.no (show(!isName x.key)=false from by have hh:isName x.key=true:=h1;simp[hh])<|.idx (show idxA 2 (.sl .sh (l.map encP)) (.int .i64 (↑(j+1):Int))=some (.ref (encP x).cells)from idx_row hd (by rfl))<|.callK ([.str x.val]) (.bool (isName x.val)) (show Gives cfg 259 [.str x.val] (.bool (isName x.val))from name_any _)<|.split (isName x.val=true) (fun h2=>.no (show(!isName x.val)=false from by have hh:isName x.val=true:=h2;simp[hh])<|.yes (dT ((0:Int)<(↑(j+1):Int)))<|.idx (show idxA 2 (.sl .sh (l.map encP)) (.int .i64 (↑(j+1):Int))=some (.ref (encP x).cells)from idx_row hd (by rfl))<|.bin (show binA .sub (.int .i64 (↑(j+1):Int)) (.int .i64 1)=some (.int .i64 ↑j)from dec_i (by omega))<|.idx (show idxA 2 (.sl .sh (l.map encP)) (.int .i64 ↑j)=some (.ref (encP p).cells)from idx_get hp (by rfl))<|.split ((Op.bytesLess x.key p.key||x.key==p.key)=true) (fun h3=>.yes (show(Op.bytesLess x.key p.key||x.key==p.key)=true from h3)<|.fin ((.ret (.int .i64 13),ζ1)) (by simp only[IsRet];grind[ckSl,ordB])) (fun h3=>.no (show(Op.bytesLess x.key p.key||x.key==p.key)=false from Bool.eq_false_iff.2 h3)<|.bin (show binA .add (.int .i64 (↑(j+1):Int)) (.int .i64 1)=some (.int .i64 (↑(j+1+1):Int))from inc_i (by omega))<|.cutQ k261_0 [(0,.sl .sh (l.map encP)),(3,.int .i64 (↑(j+1+1):Int))] (ζ1) (fun T hT=>(ih (j+1+1) hnx T hT).to (by grind[ckSl,ordB])))) (fun h2=>.yes (show(!isName x.val)=true from by have hh:¬(isName x.val=true):=h2;simp[hh])<|.fin ((.ret (.int .i64 3),ζ1)) (by simp only[IsRet];grind[ckSl,ordB]))) (fun h1=>.yes (show(!isName x.key)=true from by have hh:¬(isName x.key=true):=h1;simp[hh])<|.tt<|.fin ((.ret (.int .i64 3),ζ1)) (by simp only[IsRet];grind[ckSl,ordB])))
theorem ckS_ref(l:List Pair):Gives cfg 261 [.sl .sh (l.map encP)] (.int .i64 (ckS l)):=by
 refine Gives.run (l261 _ _) ?_
 have h:=fun hn=>ckS_ref_loop l hn l 0 rfl
 exact let ζ1:Heap:={boxes:=[],toks:=[],loops:=[]:Heap};gG 60 [] trivial (.len (lM .sh encP l)<|.split ((8:Int)<(↑l.length:Int)) (fun h1=>.yes (dT ((8:Int)<(↑l.length:Int)) h1)<|.fin ((.ret (.int .i64 4),ζ1)) (by simp only[IsRet];grind[ckS])) (fun h1=>.no (dF ((8:Int)<(↑l.length:Int)) h1)<|.cutQ k261_0 [(0,.sl .sh (l.map encP)),(3,.int .i64 0)] (ζ1) (fun T hT=>(h (by omega) T hT).to (by grind[ckS]))))
def valOk(x:Term):Bool:=if x.op≤2 then isName x.val else decide (x.val=[])
def ckMl:List Term→Int
 |[]=>0
 |x::post=>if 1≤x.op∧x.op≤4 then(if isName x.key&&valOk x then ckMl post else 3)else 1
def ckM(l:List Term):Int:=if l.length≤8 then ckMl l else 4
theorem ckM_ref_loop(l:List Term)(hn:l.length≤8):∀(post:List Term)(i:Nat)(bs:List (List AV))(hd:l.drop i=post)(T:Env)(hT:Has T [(0,.sl .sh (l.map encM)),(3,.int .i64 i)]),
 Goes cfg a263 k263_0 T ⟨bs,[],[]⟩ (IsRet (.int .i64 (ckMl post))):=by
 intro post
 induction post with
 |nil=>
  intro i bs hd T hT
  have hge:=drop_ge hd
  exact gG 60 _ hT (.len (lM .sh encM l)<|.no (dF ((↑i:Int)<(↑l.length:Int)))<|.fin ((.ret (.int .i64 0),{boxes:=bs,toks:=[],loops:=[]:Heap})) rfl)
 |cons x post ih=>
  intro i bs hd T hT
  have hlt:=drop_lt hd
  have hnx:=drop_next hd
  exact let ζ2:List AV:=[.int .i64 x.op,.str x.key,.str x.val];let ζ1:Heap:={boxes:=bs++[ζ2],toks:=[],loops:=[]:Heap};gG 60 _ hT (.len (lM .sh encM l)<|.yes (dT ((↑i:Int)<(↑l.length:Int)))<|.idx (iR 3 encM hd)<|.load (rfl:loadA true 3 {boxes:=bs,toks:=[],loops:=[]:Heap} (.ref ζ2)=some (.agg ζ2))<|.store (show storeA 3 {boxes:=bs++[[AV.int .i64 0,.str [],.str []]],toks:=[],loops:=[]:Heap} (.ptr bs.length 0) (.agg ζ2)=some (ζ1)from store_box2 (cs:=[.int .i64 0,.str [],.str []]) (cs':=ζ2) (by simp+zetaDelta) rfl (by simp+zetaDelta [List.set_append]))<|.load (lB false 1 ζ1 bs.length 0 (.int .i64 x.op) ζ2)<|.split (x.op<(1:Int)) (fun h1=>.yes (dT (x.op<(1:Int)) h1)<|.tt<|.fin ((.ret (.int .i64 1),ζ1)) (by simp only[IsRet];grind[ckMl,valOk])) (fun h1=>.no (dF (x.op<(1:Int)) h1)<|.load (lB false 1 ζ1 bs.length 0 (.int .i64 x.op) ζ2)<|.split ((4:Int)<x.op) (fun h2=>.yes (dT ((4:Int)<x.op) h2)<|.fin ((.ret (.int .i64 1),ζ1)) (by simp only[IsRet];grind[ckMl,valOk])) (fun h2=>.no (dF ((4:Int)<x.op) h2)<|.load (lB false 1 ζ1 bs.length 1 (.str x.key) ζ2)<|.callK ([.str x.key]) (.bool (isName x.key)) (show Gives cfg 259 [.str x.key] (.bool (isName x.key))from name_any _)<|.split (isName x.key=true) (fun h3=>.no (show(!isName x.key)=false from by have hh:isName x.key=true:=h3;simp[hh])<|.load (lB false 1 ζ1 bs.length 0 (.int .i64 x.op) ζ2)<|.split (x.op≤(2:Int)) (fun h4=>.yes (dT (x.op≤(2:Int)) h4)<|.load (lB false 1 ζ1 bs.length 2 (.str x.val) ζ2)<|.callK ([.str x.val]) (.bool (isName x.val)) (show Gives cfg 259 [.str x.val] (.bool (isName x.val))from name_any _)<|.split (isName x.val=true) (fun h5=>.no (show(!isName x.val)=false from by have hh:isName x.val=true:=h5;simp[hh])<|.load (lB false 1 ζ1 bs.length 0 (.int .i64 x.op) ζ2)<|.no (dF ((3:Int)≤x.op))<|.ff<|.bin (iI i)<|.cutQ k263_0 [(0,.sl .sh (l.map encM)),(3,.int .i64 (↑(i+1)))] (ζ1) (fun T hT=>(ih (i+1) (bs++[ζ2]) hnx T hT).to (by grind[ckMl,valOk]))) (fun h5=>.yes (show(!isName x.val)=true from by have hh:¬(isName x.val=true):=h5;simp[hh])<|.tt<|.fin ((.ret (.int .i64 3),ζ1)) (by simp only[IsRet];grind[ckMl,valOk]))) (fun h4=>.no (dF (x.op≤(2:Int)) h4)<|.ff<|.load (lB false 1 ζ1 bs.length 0 (.int .i64 x.op) ζ2)<|.yes (dT ((3:Int)≤x.op))<|.load (lB false 1 ζ1 bs.length 2 (.str x.val) ζ2)<|.split ((x.val==[])=true) (fun h5=>.no (show(!x.val==[])=false from by have hh:(x.val==[])=true:=h5;simp[hh])<|.bin (iI i)<|.cutQ k263_0 [(0,.sl .sh (l.map encM)),(3,.int .i64 (↑(i+1)))] (ζ1) (fun T hT=>(ih (i+1) (bs++[ζ2]) hnx T hT).to (by grind[ckMl,valOk]))) (fun h5=>.yes (show(!x.val==[])=true from by have hh:¬((x.val==[])=true):=h5;simp[hh])<|.fin ((.ret (.int .i64 3),ζ1)) (by simp only[IsRet];grind[ckMl,valOk])))) (fun h3=>.yes (show(!isName x.key)=true from by have hh:¬(isName x.key=true):=h3;simp[hh])<|.tt<|.tt<|.fin ((.ret (.int .i64 3),ζ1)) (by simp only[IsRet];grind[ckMl,valOk])))))
theorem ckM_ref(l:List Term):Gives cfg 263 [.sl .sh (l.map encM)] (.int .i64 (ckM l)):=by
 refine Gives.run (l263 _ _) ?_
 have h:=fun hn=>ckM_ref_loop l hn l 0 [] rfl
 exact let ζ1:Heap:={boxes:=[],toks:=[],loops:=[]:Heap};gG 60 [] trivial (.len (lM .sh encM l)<|.split ((8:Int)<(↑l.length:Int)) (fun h1=>.yes (dT ((8:Int)<(↑l.length:Int)) h1)<|.fin ((.ret (.int .i64 4),ζ1)) (by simp only[IsRet];grind[ckM])) (fun h1=>.no (dF ((8:Int)<(↑l.length:Int)) h1)<|.cutQ k263_0 [(0,.sl .sh (l.map encM)),(3,.int .i64 0)] (ζ1) (fun T hT=>(h (by omega) T hT).to (by grind[ckM]))))
end Go.Aa.T
set_option linter.unusedVariables false
set_option linter.unusedSimpArgs false
set_option maxRecDepth 100000
namespace Go.Aa.T
open Go.Aa Go.Proofs
def getP(s:List Pair)(k:List UInt8):Option (List UInt8):=(s.find? (fun p=>p.key==k)).map (·.val)
def getV(o:Option (List UInt8)):AV:=.tuple [.str (o.getD []),.bool o.isSome]
theorem get_loop(s:List Pair)(k:List UInt8)(hn:s.length<9223372036854775807):∀(post:List Pair)(i:Nat)(bs:List (List AV))(hd:s.drop i=post)(T:Env)
 (hT:Has T [(1,.str k),(8,.sl .sh (s.map encP)),(9,.int .i64 s.length),(10,.int .i64 i)]),
 Goes cfg a223 k223_0 T ⟨bs,[],[]⟩ (IsRet (getV (getP post k))):=by
 intro post
 induction post with
 |nil=>
  intro i bs hd T hT
  have hge:=drop_ge hd
  exact gG 60 _ hT (.no (dF ((↑i:Int)<(↑s.length:Int)))<|.fin ((.ret (.tuple [.str [],.bool false]),{boxes:=bs,toks:=[],loops:=[]:Heap})) rfl)
 |cons x post ih=>
  intro i bs hd T hT
  have hlt:=drop_lt hd
  have hnx:=drop_next hd
  exact let ζ1:Heap:={boxes:=bs++[[AV.str x.key,.str x.val]],toks:=[],loops:=[]:Heap};gG 60 _ hT (.yes (dT ((↑i:Int)<(↑s.length:Int)))<|.idx (iR 2 encP hd)<|.load (rfl:loadA true 2 {boxes:=bs,toks:=[],loops:=[]:Heap} (.ref [.str x.key,.str x.val])=some (.agg [.str x.key,.str x.val]))<|.store (show storeA 2 {boxes:=bs++[[AV.str [],.str []]],toks:=[],loops:=[]:Heap} (.ptr bs.length 0) (.agg [.str x.key,.str x.val])=some (ζ1)from store_box2 (cs:=[.str [],.str []]) (cs':=[.str x.key,.str x.val]) (by simp+zetaDelta) rfl (by simp+zetaDelta [List.set_append]))<|.load (lB false 1 ζ1 bs.length 0 (.str x.key) [.str x.key,.str x.val])<|.split ((x.key==k)=true) (fun h1=>.yes (show(x.key==k)=true from h1)<|.load (lB false 1 ζ1 bs.length 1 (.str x.val) [.str x.key,.str x.val])<|.fin ((.ret (.tuple [.str x.val,.bool true]),ζ1)) (by simp only[IsRet];grind[getP,getV])) (fun h1=>.no (show(x.key==k)=false from Bool.eq_false_iff.2 h1)<|.bin (iI i)<|.cutQ k223_0 [(1,.str k),(8,.sl .sh (s.map encP)),(9,.int .i64 (↑s.length)),(10,.int .i64 (↑(i+1)))] (ζ1) (fun T hT=>(ih (i+1) (bs++[[AV.str x.key,.str x.val]]) hnx T hT).to (by grind[getP,getV]))))
theorem get_any(s:List Pair)(k:List UInt8)(hn:s.length<9223372036854775807):Gives cfg 223 [.sl .sh (s.map encP),.str k] (getV (getP s k)):=by
 refine Gives.run (l223 _ _) ?_
 have h:=get_loop s k hn s 0 [] rfl
 exact gG 60 [] trivial (.len (lM .sh encP s)<|.cutQ k223_0 [(1,.str k),(8,.sl .sh (s.map encP)),(9,.int .i64 (↑s.length)),(10,.int .i64 0)] ({boxes:=[],toks:=[],loops:=[]:Heap}) (fun T hT=>(h T hT)))
def fidxB{α:Type}(p:α→Bool):List α→Nat→Int
 |[],_=> -1
 |x::l,i=>if p x then i else fidxB p l (i+1)
theorem fidxB_ge{α:Type}(p:α→Bool):∀(l:List α)(i:Nat),decide (0≤fidxB p l i)=l.any p
 |[],i=>rfl
 |x::l,i=>by
  unfold fidxB
  by_cases h:p x=true
  ·simp[h]
  ·have:=fidxB_ge p l (i+1);simp[h,this]
end Go.Aa.T
set_option linter.unusedVariables false
set_option linter.unusedSimpArgs false
set_option maxRecDepth 100000
namespace Go.Aa.T
open Go.Aa Go.Proofs
theorem fewT_len{l:List Taint}(h:fewT l=true):l.length≤20:=by
 simp only[fewT,Bool.and_eq_true,decide_eq_true_eq]at h;exact h.1
theorem fewL_len{l:List Tol}(h:fewL l=true):l.length≤20:=by
 simp only[fewL,Bool.and_eq_true,decide_eq_true_eq]at h;exact h.1
theorem in0_data{nb nt:Nat}:∀{x:AV},data0 x=true→in0 nb nt x=true
 |.undef,h=>by cases h
 |.bool _,_=>rfl
 |.int ..,_=>rfl
 |.flt _,_=>rfl
 |.nan,_=>rfl
 |.str _,_=>rfl
 |.sl .sh _,_=>rfl
 |.sl .full _,_=>rfl
 |.sl .nil _,h=>by cases h
 |.sl (.own _) _,h=>by cases h
 |.agg _,h=>by cases h
 |.tuple _,h=>by cases h
 |.ptr ..,h=>by cases h
 |.ref _,_=>rfl
 |.nilptr,_=>rfl
 |.func ..,h=>by cases h
 |.nilFunc,_=>rfl
 |.iface ..,h=>by cases h
 |.nilIface,_=>rfl
 |.msl ..,h=>by cases h
 |.yield _,h=>by cases h
theorem in2_data0{nb nt:Nat}{x:AV}(h:data0 x=true):in2 nb nt x=true:=by
 have:=in0_data (nb:=nb) (nt:=nt) h
 cases x<;>first|exact this|cases h
theorem trunc_plain{bs ex:List (List AV)}{ts:List Nat}{b:Bool}(hb:bs.all (·.all data0)=true):trunc bs.length ts.length (.bool b) ⟨bs++ex,ts,[]⟩=⟨bs,ts,[]⟩:=by
 have hin:∀nb nt,bs.all (·.all (in2 nb nt))=true:=fun nb nt=>by
  rw[List.all_eq_true]at hb⊢
  intro l hl
  have:=hb l hl
  rw[List.all_eq_true]at this⊢
  exact fun x hx=>in2_data0 (this x hx)
 unfold trunc
 simp only[List.take_left',hin,List.all_nil,Bool.true_and,Bool.and_true]
 simp[within,in2,in1,in0]
section
variable{H:Heap}{k:Nat}{p:Taint→Bool}
end
def one1(x:Tol)(t:Taint):Bool:=(x.key==[]||x.key==t.key)&&(x.any||x.val==t.val)
end Go.Aa.T
set_option linter.unusedVariables false
set_option linter.unusedSimpArgs false
set_option maxRecDepth 100000
namespace Go.Aa.T
open Go.Aa Go.Proofs
end Go.Aa.T
set_option linter.unusedVariables false
set_option linter.unusedSimpArgs false
set_option maxRecDepth 100000
namespace Go.Aa.T
open Go.Aa Go.Proofs
structure Amount where
 name:List UInt8
 n:Int
def encA(x:Amount):AV:=.agg [.str x.name,.int .i64 x.n]
instance(x:Amount):Dat (encA x):=⟨rfl,rfl⟩
theorem lenA2{l:List Amount}:lenOk 2 (l.map encA)=true:=lenOk_map fun _=>rfl
def ordV(s:List Amount)(i:Nat)(x:Amount):Bool:=match i with
 |0=>false
 |j+1=>match s[j]? with
  |some p=>Op.bytesLess x.name p.name||x.name==p.name
  |none=>false
def ckVl(s:List Amount):Nat→List Amount→Int
 |_,[]=>0
 |i,x::post=>if isName x.name then(if x.n≤0 then 1 else if ordV s i x then 13 else ckVl s (i+1) post)else 3
def ckV(s:List Amount):Int:=if s.length≤8 then ckVl s 0 s else 4
theorem ckV_ref_loop(l:List Amount)(hn:l.length≤8):∀(post:List Amount)(i:Nat)(hd:l.drop i=post)(T:Env)(hT:Has T [(0,.sl .sh (l.map encA)),(3,.int .i64 i)]),
 Goes cfg a260 k260_0 T Heap.nil (IsRet (.int .i64 (ckVl l i post))):=by
 intro post
 induction post with
 |nil=>
  intro i hd T hT
  have hge:=drop_ge hd
  exact gG 60 _ hT (.len (lM .sh encA l)<|.no (dF ((↑i:Int)<(↑l.length:Int)))<|.fin ((.ret (.int .i64 0),{boxes:=[],toks:=[],loops:=[]:Heap})) rfl)
 |cons x post ih=>
  intro i hd T hT
  have hlt:=drop_lt hd
  have hnx:=drop_next hd
  cases i with
  |zero=>exact let ζ1:Heap:={boxes:=[],toks:=[],loops:=[]:Heap};gG 60 _ hT (.len (lM .sh encA l)<|.yes (dT ((↑(0:Nat):Int)<(↑l.length:Int)))<|.idx (show idxA 2 (.sl .sh (l.map encA)) (.int .i64 (↑(0:Nat):Int))=some (.ref (encA x).cells)from idx_row hd (by rfl))<|.callK ([.str x.name]) (.bool (isName x.name)) (show Gives cfg 259 [.str x.name] (.bool (isName x.name))from name_any _)<|.split (isName x.name=true) (fun h1=>.no (show(!isName x.name)=false from by have hh:isName x.name=true:=h1;simp[hh])<|.idx (show idxA 2 (.sl .sh (l.map encA)) (.int .i64 (↑(0:Nat):Int))=some (.ref (encA x).cells)from idx_row hd (by rfl))<|.split (x.n≤(0:Int)) (fun h2=>.yes (dT (x.n≤(0:Int)) h2)<|.fin ((.ret (.int .i64 1),ζ1)) (by simp only[IsRet];grind[ckVl,ordV])) (fun h2=>.no (dF (x.n≤(0:Int)) h2)<|.ff<|.ff<|.bin (show binA .add (.int .i64 (↑(0:Nat):Int)) (.int .i64 1)=some (.int .i64 (↑(0+1):Int))from inc_i (by omega))<|.cutQ k260_0 [(0,.sl .sh (l.map encA)),(3,.int .i64 (↑(0+1):Int))] (ζ1) (fun T hT=>(ih (0+1) hnx T hT).to (by grind[ckVl,ordV])))) (fun h1=>.yes (show(!isName x.name)=true from by have hh:¬(isName x.name=true):=h1;simp[hh])<|.fin ((.ret (.int .i64 3),ζ1)) (by simp only[IsRet];grind[ckVl,ordV])))
  |succ j=>
   obtain⟨p,hp⟩:∃p,l[j]?=some p:=⟨l[j],List.getElem?_eq_getElem (by omega)⟩
   exact let ζ1:Heap:={boxes:=[],toks:=[],loops:=[]:Heap};gG 60 _ hT (.len (lM .sh encA l)<|.yes (dT ((↑(j+1):Int)<(↑l.length:Int)))<|.idx (show idxA 2 (.sl .sh (l.map encA)) (.int .i64 (↑(j+1):Int))=some (.ref (encA x).cells)from idx_row hd (by rfl))<|.callK ([.str x.name]) (.bool (isName x.name)) (show Gives cfg 259 [.str x.name] (.bool (isName x.name))from name_any _)<|.split (isName x.name=true) (fun h1=>.no (show(!isName x.name)=false from by have hh:isName x.name=true:=h1;simp[hh])<|.idx (show idxA 2 (.sl .sh (l.map encA)) (.int .i64 (↑(j+1):Int))=some (.ref (encA x).cells)from idx_row hd (by rfl))<|.split (x.n≤(0:Int)) (fun h2=>.yes (dT (x.n≤(0:Int)) h2)<|.fin ((.ret (.int .i64 1),ζ1)) (by simp only[IsRet];grind[ckVl,ordV])) (fun h2=>.no (dF (x.n≤(0:Int)) h2)<|.yes (dT ((0:Int)<(↑(j+1):Int)))<|.idx (show idxA 2 (.sl .sh (l.map encA)) (.int .i64 (↑(j+1):Int))=some (.ref (encA x).cells)from idx_row hd (by rfl))<|.bin (show binA .sub (.int .i64 (↑(j+1):Int)) (.int .i64 1)=some (.int .i64 ↑j)from dec_i (by omega))<|.idx (show idxA 2 (.sl .sh (l.map encA)) (.int .i64 ↑j)=some (.ref (encA p).cells)from idx_get hp (by rfl))<|.split ((Op.bytesLess x.name p.name||x.name==p.name)=true) (fun h3=>.yes (show(Op.bytesLess x.name p.name||x.name==p.name)=true from h3)<|.fin ((.ret (.int .i64 13),ζ1)) (by simp only[IsRet];grind[ckVl,ordV])) (fun h3=>.no (show(Op.bytesLess x.name p.name||x.name==p.name)=false from Bool.eq_false_iff.2 h3)<|.bin (show binA .add (.int .i64 (↑(j+1):Int)) (.int .i64 1)=some (.int .i64 (↑(j+1+1):Int))from inc_i (by omega))<|.cutQ k260_0 [(0,.sl .sh (l.map encA)),(3,.int .i64 (↑(j+1+1):Int))] (ζ1) (fun T hT=>(ih (j+1+1) hnx T hT).to (by grind[ckVl,ordV]))))) (fun h1=>.yes (show(!isName x.name)=true from by have hh:¬(isName x.name=true):=h1;simp[hh])<|.fin ((.ret (.int .i64 3),ζ1)) (by simp only[IsRet];grind[ckVl,ordV])))
theorem ckV_ref(l:List Amount):Gives cfg 260 [.sl .sh (l.map encA)] (.int .i64 (ckV l)):=by
 refine Gives.run (l260 _ _) ?_
 have h:=fun hn=>ckV_ref_loop l hn l 0 rfl
 exact let ζ1:Heap:={boxes:=[],toks:=[],loops:=[]:Heap};gG 60 [] trivial (.len (lM .sh encA l)<|.split ((8:Int)<(↑l.length:Int)) (fun h1=>.yes (dT ((8:Int)<(↑l.length:Int)) h1)<|.fin ((.ret (.int .i64 4),ζ1)) (by simp only[IsRet];grind[ckV])) (fun h1=>.no (dF ((8:Int)<(↑l.length:Int)) h1)<|.cutQ k260_0 [(0,.sl .sh (l.map encA)),(3,.int .i64 0)] (ζ1) (fun T hT=>(h (by omega) T hT).to (by grind[ckV]))))
theorem ckV_loop(l:List Amount)(hn:l.length≤8):∀(post:List Amount)(i:Nat)(bs:List (List AV))(hd:l.drop i=post)(T:Env)(hT:Has T [(0,.sl .sh (l.map encA)),(8,.sl .sh (l.map encA)),(9,.int .i64 l.length),(10,.int .i64 i)]),
 Goes cfg a247 k247_0 T ⟨bs,[],[]⟩ (IsRet (.int .i64 (ckVl l i post))):=by
 intro post
 induction post with
 |nil=>
  intro i bs hd T hT
  have hge:=drop_ge hd
  exact gG 60 _ hT (.no (dF ((↑i:Int)<(↑l.length:Int)))<|.fin ((.ret (.int .i64 0),{boxes:=bs,toks:=[],loops:=[]:Heap})) rfl)
 |cons x post ih=>
  intro i bs hd T hT
  have hlt:=drop_lt hd
  have hnx:=drop_next hd
  cases i with
  |zero=>exact let ζ1:Heap:={boxes:=bs++[[AV.str x.name,.int .i64 x.n]],toks:=[],loops:=[]:Heap};gG 60 _ hT (.yes (dT ((↑(0:Nat):Int)<(↑l.length:Int)))<|.idx (show idxA 2 (.sl .sh (l.map encA)) (.int .i64 (↑(0:Nat):Int))=some (.ref (encA x).cells)from idx_row hd (by rfl))<|.load (rfl:loadA true 2 {boxes:=bs,toks:=[],loops:=[]:Heap} (.ref [.str x.name,.int .i64 x.n])=some (.agg [.str x.name,.int .i64 x.n]))<|.store (show storeA 2 {boxes:=bs++[[AV.str [],.int .i64 0]],toks:=[],loops:=[]:Heap} (.ptr bs.length 0) (.agg [.str x.name,.int .i64 x.n])=some (ζ1)from store_box2 (cs:=[.str [],.int .i64 0]) (cs':=[.str x.name,.int .i64 x.n]) (by simp+zetaDelta) rfl (by simp+zetaDelta [List.set_append]))<|.load (lB false 1 ζ1 bs.length 0 (.str x.name) [.str x.name,.int .i64 x.n])<|.callK ([.str x.name]) (.bool (isName x.name)) (show Gives cfg 235 [.str x.name] (.bool (isName x.name))from res_name _)<|.split (isName x.name=true) (fun h1=>.no (show(!isName x.name)=false from by have hh:isName x.name=true:=h1;simp[hh])<|.load (lB false 1 ζ1 bs.length 1 (.int .i64 x.n) [.str x.name,.int .i64 x.n])<|.split (x.n≤(0:Int)) (fun h2=>.yes (dT (x.n≤(0:Int)) h2)<|.fin ((.ret (.int .i64 1),ζ1)) (by simp only[IsRet];grind[ckVl,ordV])) (fun h2=>.no (dF (x.n≤(0:Int)) h2)<|.ff<|.ff<|.bin (show binA .add (.int .i64 (↑(0:Nat):Int)) (.int .i64 1)=some (.int .i64 (↑(0+1):Int))from inc_i (by omega))<|.cutQ k247_0 [(0,.sl .sh (l.map encA)),(8,.sl .sh (l.map encA)),(9,.int .i64 (↑l.length)),(10,.int .i64 (↑(0+1):Int))] (ζ1) (fun T hT=>(ih (0+1) (bs++[[AV.str x.name,.int .i64 x.n]]) hnx T hT).to (by grind[ckVl,ordV])))) (fun h1=>.yes (show(!isName x.name)=true from by have hh:¬(isName x.name=true):=h1;simp[hh])<|.fin ((.ret (.int .i64 3),ζ1)) (by simp only[IsRet];grind[ckVl,ordV])))
  |succ j=>
   obtain⟨p,hp⟩:∃p,l[j]?=some p:=⟨l[j],List.getElem?_eq_getElem (by omega)⟩
   exact let ζ1:Heap:={boxes:=bs++[[AV.str x.name,.int .i64 x.n]],toks:=[],loops:=[]:Heap};gG 60 _ hT (.yes (dT ((↑(j+1):Int)<(↑l.length:Int)))<|.idx (show idxA 2 (.sl .sh (l.map encA)) (.int .i64 (↑(j+1):Int))=some (.ref (encA x).cells)from idx_row hd (by rfl))<|.load (rfl:loadA true 2 {boxes:=bs,toks:=[],loops:=[]:Heap} (.ref [.str x.name,.int .i64 x.n])=some (.agg [.str x.name,.int .i64 x.n]))<|.store (show storeA 2 {boxes:=bs++[[AV.str [],.int .i64 0]],toks:=[],loops:=[]:Heap} (.ptr bs.length 0) (.agg [.str x.name,.int .i64 x.n])=some (ζ1)from store_box2 (cs:=[.str [],.int .i64 0]) (cs':=[.str x.name,.int .i64 x.n]) (by simp+zetaDelta) rfl (by simp+zetaDelta [List.set_append]))<|.load (lB false 1 ζ1 bs.length 0 (.str x.name) [.str x.name,.int .i64 x.n])<|.callK ([.str x.name]) (.bool (isName x.name)) (show Gives cfg 235 [.str x.name] (.bool (isName x.name))from res_name _)<|.split (isName x.name=true) (fun h1=>.no (show(!isName x.name)=false from by have hh:isName x.name=true:=h1;simp[hh])<|.load (lB false 1 ζ1 bs.length 1 (.int .i64 x.n) [.str x.name,.int .i64 x.n])<|.split (x.n≤(0:Int)) (fun h2=>.yes (dT (x.n≤(0:Int)) h2)<|.fin ((.ret (.int .i64 1),ζ1)) (by simp only[IsRet];grind[ckVl,ordV])) (fun h2=>.no (dF (x.n≤(0:Int)) h2)<|.yes (dT ((0:Int)<(↑(j+1):Int)))<|.load (lB false 1 ζ1 bs.length 0 (.str x.name) [.str x.name,.int .i64 x.n])<|.bin (show binA .sub (.int .i64 (↑(j+1):Int)) (.int .i64 1)=some (.int .i64 ↑j)from dec_i (by omega))<|.idx (show idxA 2 (.sl .sh (l.map encA)) (.int .i64 ↑j)=some (.ref (encA p).cells)from idx_get hp (by rfl))<|.load (rfl:loadA false 1 ζ1 (.ref [.str p.name])=some (.str p.name))<|.split ((Op.bytesLess x.name p.name||x.name==p.name)=true) (fun h3=>.yes (show(Op.bytesLess x.name p.name||x.name==p.name)=true from h3)<|.fin ((.ret (.int .i64 13),ζ1)) (by simp only[IsRet];grind[ckVl,ordV])) (fun h3=>.no (show(Op.bytesLess x.name p.name||x.name==p.name)=false from Bool.eq_false_iff.2 h3)<|.bin (show binA .add (.int .i64 (↑(j+1):Int)) (.int .i64 1)=some (.int .i64 (↑(j+1+1):Int))from inc_i (by omega))<|.cutQ k247_0 [(0,.sl .sh (l.map encA)),(8,.sl .sh (l.map encA)),(9,.int .i64 (↑l.length)),(10,.int .i64 (↑(j+1+1):Int))] (ζ1) (fun T hT=>(ih (j+1+1) (bs++[[AV.str x.name,.int .i64 x.n]]) hnx T hT).to (by grind[ckVl,ordV]))))) (fun h1=>.yes (show(!isName x.name)=true from by have hh:¬(isName x.name=true):=h1;simp[hh])<|.fin ((.ret (.int .i64 3),ζ1)) (by simp only[IsRet];grind[ckVl,ordV])))
theorem ckV_any(l:List Amount):Gives cfg 247 [.sl .sh (l.map encA)] (.int .i64 (ckV l)):=by
 refine Gives.run (l247 _ _) ?_
 have h:=fun hn=>ckV_loop l hn l 0 [] rfl
 exact let ζ1:Heap:={boxes:=[],toks:=[],loops:=[]:Heap};gG 60 [] trivial (.len (lM .sh encA l)<|.split ((8:Int)<(↑l.length:Int)) (fun h1=>.yes (dT ((8:Int)<(↑l.length:Int)) h1)<|.fin ((.ret (.int .i64 4),ζ1)) (by simp only[IsRet];grind[ckV])) (fun h1=>.no (dF ((8:Int)<(↑l.length:Int)) h1)<|.len (lM .sh encA l)<|.cutQ k247_0 [(0,.sl .sh (l.map encA)),(8,.sl .sh (l.map encA)),(9,.int .i64 (↑l.length)),(10,.int .i64 0)] (ζ1) (fun T hT=>(h (by omega) T hT).to (by grind[ckV]))))
end Go.Aa.T
set_option linter.unusedVariables false
set_option linter.unusedSimpArgs false
set_option maxRecDepth 100000
namespace Go.Aa.T
open Go.Aa Go.Proofs
def firstE:List Int→Int
 |[]=>0
 |x::r=>if x=0 then firstE r else x
end Go.Aa.T
set_option linter.unusedVariables false
set_option linter.unusedSimpArgs false
set_option maxRecDepth 100000
namespace Go.Aa.T
open Go.Aa Go.Proofs
structure Node where
 name:List UInt8
 cap:List Amount
 labels:List Pair
 taints:List Taint
 cordon:Bool
def encN(n:Node):AV:=.agg [.str n.name,.sl .sh (n.cap.map encA),.sl .sh (n.labels.map encP),.sl .sh (n.taints.map encT),.bool n.cordon]
def ckN(n:Node):Int:=firstE [if isName n.name then 0 else 3,ckV n.cap,ckS n.labels,ckT n.taints]
end Go.Aa.T
set_option linter.unusedVariables false
set_option linter.unusedSimpArgs false
set_option maxRecDepth 100000
namespace Go.Aa.T
open Go.Aa Go.Proofs
end Go.Aa.T
set_option linter.unusedVariables false
set_option linter.unusedSimpArgs false
set_option maxRecDepth 100000
namespace Go.Aa.T
open Go.Aa Go.Proofs
def short1(x:Amount):Bool:=decide (x.name.length≤50)
def fewA(l:List Amount):Bool:=decide (l.length≤20)&&l.all short1
theorem fewA_len{l:List Amount}(h:fewA l=true):l.length≤20:=by
 simp only[fewA,Bool.and_eq_true,decide_eq_true_eq]at h;exact h.1
theorem fewA_loop(l:List Amount)(hn:l.length≤20):∀(post:List Amount)(i:Nat)(hd:l.drop i=post)(T:Env)(hT:Has T [(0,.sl .sh (l.map encA)),(3,.int .i64 i)]),
 Goes cfg a203 k203_0 T Heap.nil (IsRet (.bool (post.all short1))):=by
 intro post
 induction post with
 |nil=>
  intro i hd T hT
  have hge:=drop_ge hd
  exact gG 60 _ hT (.len (lM .sh encA l)<|.no (dF ((↑i:Int)<(↑l.length:Int)))<|.fin ((.ret (.bool true),{boxes:=[],toks:=[],loops:=[]:Heap})) rfl)
 |cons x post ih=>
  intro i hd T hT
  have hlt:=drop_lt hd
  have hnx:=drop_next hd
  exact let ζ1:Heap:={boxes:=[],toks:=[],loops:=[]:Heap};gG 60 _ hT (.len (lM .sh encA l)<|.yes (dT ((↑i:Int)<(↑l.length:Int)))<|.idx (iR 2 encA hd)<|.len (show lenA true (.str x.name)=some (.int .i64 (↑x.name.length))from len_str _)<|.split ((50:Int)<(↑x.name.length:Int)) (fun h1=>.yes (dT ((50:Int)<(↑x.name.length:Int)) h1)<|.fin ((.ret (.bool false),ζ1)) (by simp only[IsRet];grind[short1])) (fun h1=>.no (dF ((50:Int)<(↑x.name.length:Int)) h1)<|.bin (iI i)<|.cutQ k203_0 [(0,.sl .sh (l.map encA)),(3,.int .i64 (↑(i+1)))] (ζ1) (fun T hT=>(ih (i+1) hnx T hT).to (by grind[short1]))))
theorem fewA_any(l:List Amount):Gives cfg 203 [.sl .sh (l.map encA)] (.bool (fewA l)):=by
 refine Gives.run (l203 _ _) ?_
 have h:=fun hn=>fewA_loop l hn l 0 rfl
 exact let ζ1:Heap:={boxes:=[],toks:=[],loops:=[]:Heap};gG 60 [] trivial (.len (lM .sh encA l)<|.split ((20:Int)<(↑l.length:Int)) (fun h1=>.yes (dT ((20:Int)<(↑l.length:Int)) h1)<|.fin ((.ret (.bool false),ζ1)) (by simp only[IsRet];grind[fewA])) (fun h1=>.no (dF ((20:Int)<(↑l.length:Int)) h1)<|.cutQ k203_0 [(0,.sl .sh (l.map encA)),(3,.int .i64 0)] (ζ1) (fun T hT=>(h (by omega) T hT).to (by grind[fewA]))))
theorem ofA_loop(l:List Amount)(hn:l.length≤20):∀(post:List Amount)(i:Nat)(acc:List AV)(hd:l.drop i=post)(ha:acc.length=i)(hl:lenOk 2 acc=true)(T:Env)(hT:Has T [(0,.sl .sh (l.map encA)),(3,rowS Heap.nil acc),(4,.int .i64 i)]),
 Goes cfg a196 k196_0 T (rowH Heap.nil acc) (IsRet (rowS Heap.nil (acc++post.map encA))):=by
 intro post
 induction post with
 |nil=>
  intro i acc hd ha hl T hT
  have hge:=drop_ge hd
  exact gG 60 _ hT (.len (lM .sh encA l)<|.no (dF ((↑i:Int)<(↑l.length:Int)))<|.fin ((.ret (setD (setD (setD (setD (setD (setD (updL T [(0,.sl .sh (l.map encA)),(3,rowS Heap.nil acc),(4,.int .i64 ↑i)]) (some 5) (ev (updL T [(0,.sl .sh (l.map encA)),(3,rowS Heap.nil acc),(4,.int .i64 ↑i)]) (.t 4))) (some 6) (ev (setD (updL T [(0,.sl .sh (l.map encA)),(3,rowS Heap.nil acc),(4,.int .i64 ↑i)]) (some 5) (ev (updL T [(0,.sl .sh (l.map encA)),(3,rowS Heap.nil acc),(4,.int .i64 ↑i)]) (.t 4))) (.t 0))) (some 7) (.int .i64 (↑l.length))) (some 8) (.bool (decide ((↑i:Int)<(↑l.length:Int))))) (some 25) (ev (setD (setD (setD (setD (updL T [(0,.sl .sh (l.map encA)),(3,rowS Heap.nil acc),(4,.int .i64 ↑i)]) (some 5) (ev (updL T [(0,.sl .sh (l.map encA)),(3,rowS Heap.nil acc),(4,.int .i64 ↑i)]) (.t 4))) (some 6) (ev (setD (updL T [(0,.sl .sh (l.map encA)),(3,rowS Heap.nil acc),(4,.int .i64 ↑i)]) (some 5) (ev (updL T [(0,.sl .sh (l.map encA)),(3,rowS Heap.nil acc),(4,.int .i64 ↑i)]) (.t 4))) (.t 0))) (some 7) (.int .i64 (↑l.length))) (some 8) (.bool (decide ((↑i:Int)<(↑l.length:Int))))) (.t 3))) (some 2) (ev (setD (setD (setD (setD (setD (updL T [(0,.sl .sh (l.map encA)),(3,rowS Heap.nil acc),(4,.int .i64 ↑i)]) (some 5) (ev (updL T [(0,.sl .sh (l.map encA)),(3,rowS Heap.nil acc),(4,.int .i64 ↑i)]) (.t 4))) (some 6) (ev (setD (updL T [(0,.sl .sh (l.map encA)),(3,rowS Heap.nil acc),(4,.int .i64 ↑i)]) (some 5) (ev (updL T [(0,.sl .sh (l.map encA)),(3,rowS Heap.nil acc),(4,.int .i64 ↑i)]) (.t 4))) (.t 0))) (some 7) (.int .i64 (↑l.length))) (some 8) (.bool (decide ((↑i:Int)<(↑l.length:Int))))) (some 25) (ev (setD (setD (setD (setD (updL T [(0,.sl .sh (l.map encA)),(3,rowS Heap.nil acc),(4,.int .i64 ↑i)]) (some 5) (ev (updL T [(0,.sl .sh (l.map encA)),(3,rowS Heap.nil acc),(4,.int .i64 ↑i)]) (.t 4))) (some 6) (ev (setD (updL T [(0,.sl .sh (l.map encA)),(3,rowS Heap.nil acc),(4,.int .i64 ↑i)]) (some 5) (ev (updL T [(0,.sl .sh (l.map encA)),(3,rowS Heap.nil acc),(4,.int .i64 ↑i)]) (.t 4))) (.t 0))) (some 7) (.int .i64 (↑l.length))) (some 8) (.bool (decide ((↑i:Int)<(↑l.length:Int))))) (.t 3))) (.t 25)) 2),rowH Heap.nil acc)) (by simp only[IsRet,List.map_nil,List.append_nil];rfl))
 |cons x post ih=>
  intro i acc hd ha hl T hT
  have hlt:=drop_lt hd
  have hnx:=drop_next hd
  exact gG 60 _ hT (.len (lM .sh encA l)<|.yes (dT ((↑i:Int)<(↑l.length:Int)) (by simp;omega))<|.idx (iR 2 encA hd)<|.load (rfl:loadA false 1 (rowH Heap.nil acc) (.ref [.str x.name])=some (.str x.name))<|.idx (iR 2 encA hd)<|.load (rfl:loadA false 1 (rowH Heap.nil acc) (.ref [.int .i64 x.n])=some (.int .i64 x.n))<|.append (show appendA 2 24 (rowH Heap.nil acc) (rowS Heap.nil acc) (.sl .full [.agg [.str x.name,.int .i64 x.n]])=some ((rowS Heap.nil (acc++[AV.agg [.str x.name,.int .i64 x.n]]),rowH Heap.nil (acc++[AV.agg [.str x.name,.int .i64 x.n]])))from row_append (by omega) hl (by rfl) (by rfl))<|.bin (iI i)<|.cutQ k196_0 [(0,.sl .sh (l.map encA)),(3,rowS Heap.nil (acc++[AV.agg [.str x.name,.int .i64 x.n]])),(4,.int .i64 (↑(i+1)))] (rowH Heap.nil (acc++[AV.agg [.str x.name,.int .i64 x.n]])) (fun T hT=>(ih (i+1) (acc++[AV.agg [.str x.name,.int .i64 x.n]]) hnx (by simp;omega) (by exact lenOk_snoc (by assumption) rfl) T hT).to (by simp[encA])))
theorem ofA_any(l:List Amount)(hn:l.length≤20):Gives cfg 196 [.sl .sh (l.map encA)] (rowS Heap.nil (l.map encA)):=by
 refine Gives.run (l196 _ _) ?_
 have h:=ofA_loop l hn l 0 [] rfl rfl rfl
 exact gG 60 [] trivial (.cutQ k196_0 [(0,.sl .sh (l.map encA)),(3,.sl .full []),(4,.int .i64 0)] ({boxes:=[],toks:=[],loops:=[]:Heap}) (fun T hT=>(h T hT)))
instance(n:Node):Dat (encN n):=⟨rfl,rfl⟩
def fewN(n:Node):Bool:=decide (n.name.length≤50)&&(fewA n.cap&&(fewP n.labels&&fewT n.taints))
theorem fewN_any(n:Node):Gives cfg 116 [encN n] (.bool (fewN n)):=by
 refine Gives.run (l116 _ _) ?_
 exact let ζ1:Heap:={boxes:=[[.str n.name,.sl .sh (n.cap.map encA),.sl .sh (n.labels.map encP),.sl .sh (n.taints.map encT),.bool n.cordon]],toks:=[],loops:=[]:Heap};gG 80 [] trivial (.len (show lenA true (.str n.name)=some (.int .i64 (↑n.name.length))from len_str _)<|.split ((↑n.name.length:Int)≤(50:Int)) (fun h1=>.yes (dT ((↑n.name.length:Int)≤(50:Int)) h1)<|.callK ([.sl .sh (n.cap.map encA)]) (.bool (fewA n.cap)) (show Gives cfg 203 [.sl .sh (n.cap.map encA)] (.bool (fewA n.cap))from fewA_any _)<|.split (fewA n.cap=true) (fun h2=>.yes (show(fewA n.cap)=true from h2)<|.callK ([.sl .sh (n.labels.map encP)]) (.bool (fewP n.labels)) (show Gives cfg 204 [.sl .sh (n.labels.map encP)] (.bool (fewP n.labels))from fewP_any _)<|.split (fewP n.labels=true) (fun h3=>.yes (show(fewP n.labels)=true from h3)<|.callK ([.sl .sh (n.taints.map encT)]) (.bool (fewT n.taints)) (show Gives cfg 205 [.sl .sh (n.taints.map encT)] (.bool (fewT n.taints))from fewT_any _)<|.fin ((.ret (.bool (fewT n.taints)),ζ1)) (by simp only[IsRet];grind[fewN])) (fun h3=>.no (show(fewP n.labels)=false from Bool.eq_false_iff.2 h3)<|.fin ((.ret (.bool false),ζ1)) (by simp only[IsRet];grind[fewN]))) (fun h2=>.no (show(fewA n.cap)=false from Bool.eq_false_iff.2 h2)<|.ff<|.fin ((.ret (.bool false),ζ1)) (by simp only[IsRet];grind[fewN]))) (fun h1=>.no (dF ((↑n.name.length:Int)≤(50:Int)) h1)<|.ff<|.ff<|.fin ((.ret (.bool false),ζ1)) (by simp only[IsRet];grind[fewN])))
structure FewNd(n:Node):Prop where
 cap:n.cap.length≤20
 labels:n.labels.length≤20
 taints:n.taints.length≤20
theorem fewNd{n:Node}(h:fewN n=true):FewNd n:=by
 simp only[fewN,Bool.and_eq_true,decide_eq_true_eq]at h
 exact⟨fewA_len h.2.1,fewP_len h.2.2.1,fewT_len h.2.2.2⟩
theorem ofN1(n:Node)(m1:n.cap.length≤20)(m2:n.labels.length≤20)(m3:n.taints.length≤20):Gives cfg 124 [encN n] (encN n):=by
 refine Gives.run (l124 _ _) ?_
 exact let ζ1:List AV:=[.str n.name,.sl .sh (n.cap.map encA),.sl .sh (n.labels.map encP),.sl .sh (n.taints.map encT),.bool n.cordon];gG 80 [] trivial (.callG ([.sl .sh (n.cap.map encA)]) (.sl .sh (n.cap.map encA)) (show Gives cfg 196 [.sl .sh (n.cap.map encA)] (rowS Heap.nil (n.cap.map encA))from ofA_any _ m1) ⟨rfl,rfl⟩ Res.p<|.callG ([.sl .sh (n.labels.map encP)]) (.sl .sh (n.labels.map encP)) (show Gives cfg 197 [.sl .sh (n.labels.map encP)] (rowS Heap.nil (n.labels.map encP))from ofP_any _ m2) ⟨rfl,rfl⟩ Res.p<|.callG ([.sl .sh (n.taints.map encT)]) (.sl .sh (n.taints.map encT)) (show Gives cfg 212 [.sl .sh (n.taints.map encT)] (rowS Heap.nil (n.taints.map encT))from ofT_any _ m3) ⟨rfl,rfl⟩ Res.p<|.fin ((.ret (.agg ζ1),{boxes:=[ζ1,ζ1],toks:=[],loops:=[]:Heap})) rfl)
theorem ofN_any(n:Node)(h:fewN n=true):Gives cfg 124 [encN n] (encN n):=ofN1 n (fewNd h).cap (fewNd h).labels (fewNd h).taints
theorem ofNs_loop(l:List Node)(hn:l.length≤40)(hf:∀x∈l,fewN x=true):∀(post:List Node)(i:Nat)(acc:List AV)(hd:l.drop i=post)(ha:acc.length=i)(hl:lenOk 5 acc=true)(T:Env)(hT:Has T [(0,.sl .sh (l.map encN)),(3,rowS Heap.nil acc),(4,.int .i64 i)]),
 Goes cfg a53 k53_0 T (rowH Heap.nil acc) (IsRet (rowS Heap.nil (acc++post.map encN))):=by
 intro post
 induction post with
 |nil=>
  intro i acc hd ha hl T hT
  have hge:=drop_ge hd
  exact gG 60 _ hT (.len (lM .sh encN l)<|.no (dF ((↑i:Int)<(↑l.length:Int)))<|.fin ((.ret (setD (setD (setD (setD (setD (setD (updL T [(0,.sl .sh (l.map encN)),(3,rowS Heap.nil acc),(4,.int .i64 ↑i)]) (some 5) (ev (updL T [(0,.sl .sh (l.map encN)),(3,rowS Heap.nil acc),(4,.int .i64 ↑i)]) (.t 4))) (some 6) (ev (setD (updL T [(0,.sl .sh (l.map encN)),(3,rowS Heap.nil acc),(4,.int .i64 ↑i)]) (some 5) (ev (updL T [(0,.sl .sh (l.map encN)),(3,rowS Heap.nil acc),(4,.int .i64 ↑i)]) (.t 4))) (.t 0))) (some 7) (.int .i64 (↑l.length))) (some 8) (.bool (decide ((↑i:Int)<(↑l.length:Int))))) (some 19) (ev (setD (setD (setD (setD (updL T [(0,.sl .sh (l.map encN)),(3,rowS Heap.nil acc),(4,.int .i64 ↑i)]) (some 5) (ev (updL T [(0,.sl .sh (l.map encN)),(3,rowS Heap.nil acc),(4,.int .i64 ↑i)]) (.t 4))) (some 6) (ev (setD (updL T [(0,.sl .sh (l.map encN)),(3,rowS Heap.nil acc),(4,.int .i64 ↑i)]) (some 5) (ev (updL T [(0,.sl .sh (l.map encN)),(3,rowS Heap.nil acc),(4,.int .i64 ↑i)]) (.t 4))) (.t 0))) (some 7) (.int .i64 (↑l.length))) (some 8) (.bool (decide ((↑i:Int)<(↑l.length:Int))))) (.t 3))) (some 2) (ev (setD (setD (setD (setD (setD (updL T [(0,.sl .sh (l.map encN)),(3,rowS Heap.nil acc),(4,.int .i64 ↑i)]) (some 5) (ev (updL T [(0,.sl .sh (l.map encN)),(3,rowS Heap.nil acc),(4,.int .i64 ↑i)]) (.t 4))) (some 6) (ev (setD (updL T [(0,.sl .sh (l.map encN)),(3,rowS Heap.nil acc),(4,.int .i64 ↑i)]) (some 5) (ev (updL T [(0,.sl .sh (l.map encN)),(3,rowS Heap.nil acc),(4,.int .i64 ↑i)]) (.t 4))) (.t 0))) (some 7) (.int .i64 (↑l.length))) (some 8) (.bool (decide ((↑i:Int)<(↑l.length:Int))))) (some 19) (ev (setD (setD (setD (setD (updL T [(0,.sl .sh (l.map encN)),(3,rowS Heap.nil acc),(4,.int .i64 ↑i)]) (some 5) (ev (updL T [(0,.sl .sh (l.map encN)),(3,rowS Heap.nil acc),(4,.int .i64 ↑i)]) (.t 4))) (some 6) (ev (setD (updL T [(0,.sl .sh (l.map encN)),(3,rowS Heap.nil acc),(4,.int .i64 ↑i)]) (some 5) (ev (updL T [(0,.sl .sh (l.map encN)),(3,rowS Heap.nil acc),(4,.int .i64 ↑i)]) (.t 4))) (.t 0))) (some 7) (.int .i64 (↑l.length))) (some 8) (.bool (decide ((↑i:Int)<(↑l.length:Int))))) (.t 3))) (.t 19)) 2),rowH Heap.nil acc)) (by simp only[IsRet,List.map_nil,List.append_nil];rfl))
 |cons x post ih=>
  intro i acc hd ha hl T hT
  have hlt:=drop_lt hd
  have hnx:=drop_next hd
  have hx:=hf x (drop_mem hd)
  exact gG 60 _ hT (.len (lM .sh encN l)<|.yes (dT ((↑i:Int)<(↑l.length:Int)) (by simp;omega))<|.idx (iR 5 encN hd)<|.load (rfl:loadA true 5 (rowH Heap.nil acc) (.ref [.str x.name,.sl .sh (x.cap.map encA),.sl .sh (x.labels.map encP),.sl .sh (x.taints.map encT),.bool x.cordon])=some (.agg [.str x.name,.sl .sh (x.cap.map encA),.sl .sh (x.labels.map encP),.sl .sh (x.taints.map encT),.bool x.cordon]))<|.callK ([.agg [.str x.name,.sl .sh (x.cap.map encA),.sl .sh (x.labels.map encP),.sl .sh (x.taints.map encT),.bool x.cordon]]) (.agg [.str x.name,.sl .sh (x.cap.map encA),.sl .sh (x.labels.map encP),.sl .sh (x.taints.map encT),.bool x.cordon]) (show Gives cfg 124 [encN x] (encN x)from ofN_any _ hx)<|.append (show appendA 5 96 (rowH Heap.nil acc) (rowS Heap.nil acc) (.sl .full [.agg [.str x.name,.sl .sh (x.cap.map encA),.sl .sh (x.labels.map encP),.sl .sh (x.taints.map encT),.bool x.cordon]])=some ((rowS Heap.nil (acc++[AV.agg [.str x.name,.sl .sh (x.cap.map encA),.sl .sh (x.labels.map encP),.sl .sh (x.taints.map encT),.bool x.cordon]]),rowH Heap.nil (acc++[AV.agg [.str x.name,.sl .sh (x.cap.map encA),.sl .sh (x.labels.map encP),.sl .sh (x.taints.map encT),.bool x.cordon]])))from row_append (by omega) hl (by rfl) (by rfl))<|.bin (iI i)<|.cutQ k53_0 [(0,.sl .sh (l.map encN)),(3,rowS Heap.nil (acc++[AV.agg [.str x.name,.sl .sh (x.cap.map encA),.sl .sh (x.labels.map encP),.sl .sh (x.taints.map encT),.bool x.cordon]])),(4,.int .i64 (↑(i+1)))] (rowH Heap.nil (acc++[AV.agg [.str x.name,.sl .sh (x.cap.map encA),.sl .sh (x.labels.map encP),.sl .sh (x.taints.map encT),.bool x.cordon]])) (fun T hT=>(ih (i+1) (acc++[AV.agg [.str x.name,.sl .sh (x.cap.map encA),.sl .sh (x.labels.map encP),.sl .sh (x.taints.map encT),.bool x.cordon]]) hnx (by simp;omega) (by exact lenOk_snoc (by assumption) rfl) T hT).to (by simp[encN])))
theorem ofNs_any(l:List Node)(hn:l.length≤40)(hf:∀x∈l,fewN x=true):Gives cfg 53 [.sl .sh (l.map encN)] (rowS Heap.nil (l.map encN)):=by
 refine Gives.run (l53 _ _) ?_
 have h:=ofNs_loop l hn hf l 0 [] rfl rfl rfl
 exact gG 60 [] trivial (.cutQ k53_0 [(0,.sl .sh (l.map encN)),(3,.sl .full []),(4,.int .i64 0)] ({boxes:=[],toks:=[],loops:=[]:Heap}) (fun T hT=>(h T hT)))
theorem ckN_ref(n:Node):Gives cfg 207 [encN n] (.int .i64 (ckN n)):=by
 refine Gives.run (l207 _ _) ?_
 exact let ζ1:Heap:={boxes:=[[.str n.name,.sl .sh (n.cap.map encA),.sl .sh (n.labels.map encP),.sl .sh (n.taints.map encT),.bool n.cordon]],toks:=[],loops:=[]:Heap};gG 80 [] trivial (.callK ([.str n.name]) (.bool (isName n.name)) (show Gives cfg 259 [.str n.name] (.bool (isName n.name))from name_any _)<|.split (isName n.name=true) (fun h1=>.no (show(!isName n.name)=false from by have hh:isName n.name=true:=h1;simp[hh])<|.callK ([.sl .sh (n.cap.map encA)]) (.int .i64 (ckV n.cap)) (show Gives cfg 260 [.sl .sh (n.cap.map encA)] (.int .i64 (ckV n.cap))from ckV_ref _)<|.split ((ckV n.cap !=(0:Int))=true) (fun h2=>.yes (show(ckV n.cap !=(0:Int))=true from h2)<|.fin ((.ret (.int .i64 (ckV n.cap)),ζ1)) (by simp only[IsRet];grind[ckN,firstE])) (fun h2=>.no (show(ckV n.cap !=(0:Int))=false from Bool.eq_false_iff.2 h2)<|.callK ([.sl .sh (n.labels.map encP)]) (.int .i64 (ckS n.labels)) (show Gives cfg 261 [.sl .sh (n.labels.map encP)] (.int .i64 (ckS n.labels))from ckS_ref _)<|.split ((ckS n.labels !=(0:Int))=true) (fun h3=>.yes (show(ckS n.labels !=(0:Int))=true from h3)<|.fin ((.ret (.int .i64 (ckS n.labels)),ζ1)) (by simp only[IsRet];grind[ckN,firstE])) (fun h3=>.no (show(ckS n.labels !=(0:Int))=false from Bool.eq_false_iff.2 h3)<|.callK ([.sl .sh (n.taints.map encT)]) (.int .i64 (ckT n.taints)) (show Gives cfg 262 [.sl .sh (n.taints.map encT)] (.int .i64 (ckT n.taints))from ckT_any _)<|.fin ((.ret (.int .i64 (ckT n.taints)),ζ1)) (by simp only[IsRet];grind[ckN,firstE])))) (fun h1=>.yes (show(!isName n.name)=true from by have hh:¬(isName n.name=true):=h1;simp[hh])<|.fin ((.ret (.int .i64 3),ζ1)) (by simp only[IsRet];grind[ckN,firstE])))
def ordG{X:Type}(nm:X→List UInt8)(s:List X)(i:Nat)(x:X):Bool:=match i with
 |0=>false
 |j+1=>match s[j]? with
  |some p=>Op.bytesLess (nm x) (nm p)||nm x==nm p
  |none=>false
def ckAl{X:Type}(ck:X→Int)(nm:X→List UInt8)(s:List X):Nat→List X→Int
 |_,[]=>0
 |i,x::post=>if ck x=0 then(if ordG nm s i x then 13 else ckAl ck nm s (i+1) post)else ck x
def ckAll{X:Type}(most:Nat)(ck:X→Int)(nm:X→List UInt8)(s:List X):Int:=if s.length≤most then ckAl ck nm s 0 s else 4
def findG{X:Type}(nm:X→List UInt8)(l:List X)(n:List UInt8):Option X:=l.find? fun x=>nm x==n
theorem ckNs_ref_loop(l:List Node)(hn:l.length≤32):∀(post:List Node)(i:Nat)(hd:l.drop i=post)(T:Env)(hT:Has T [(0,.sl .sh (l.map encN)),(3,.int .i64 i)]),
 Goes cfg a118 k118_0 T Heap.nil (IsRet (.int .i64 (ckAl ckN Node.name l i post))):=by
 intro post
 induction post with
 |nil=>
  intro i hd T hT
  have hge:=drop_ge hd
  exact gG 60 _ hT (.len (lM .sh encN l)<|.no (dF ((↑i:Int)<(↑l.length:Int)))<|.fin ((.ret (.int .i64 0),{boxes:=[],toks:=[],loops:=[]:Heap})) rfl)
 |cons x post ih=>
  intro i hd T hT
  have hlt:=drop_lt hd
  have hnx:=drop_next hd
  have hc:=ckN_ref x
  have e:ckAl ckN Node.name l i (x::post)=if ckN x=0 then(if ordG Node.name l i x then 13 else ckAl ckN Node.name l (i+1) post)else ckN x:=rfl
  rw[e]
  generalize ckN x=c at hc⊢
  cases i with
  |zero=>exact let ζ1:Heap:={boxes:=[],toks:=[],loops:=[]:Heap};gG 60 _ hT (.len (lM .sh encN l)<|.yes (dT ((↑(0:Nat):Int)<(↑l.length:Int)))<|.idx (show idxA 5 (.sl .sh (l.map encN)) (.int .i64 (↑(0:Nat):Int))=some (.ref (encN x).cells)from idx_row hd (by rfl))<|.callK ([.agg [.str x.name,.sl .sh (x.cap.map encA),.sl .sh (x.labels.map encP),.sl .sh (x.taints.map encT),.bool x.cordon]]) (.int .i64 c) hc<|.split ((c !=(0:Int))=true) (fun h1=>.yes (show(c !=(0:Int))=true from h1)<|.fin ((.ret (.int .i64 c),ζ1)) (by simp only[IsRet];grind[ordG])) (fun h1=>.no (show(c !=(0:Int))=false from Bool.eq_false_iff.2 h1)<|.ff<|.ff<|.bin (show binA .add (.int .i64 (↑(0:Nat):Int)) (.int .i64 1)=some (.int .i64 (↑(0+1):Int))from inc_i (by omega))<|.cutQ k118_0 [(0,.sl .sh (l.map encN)),(3,.int .i64 (↑(0+1):Int))] (ζ1) (fun T hT=>(ih (0+1) hnx T hT).to (by grind[ordG]))))
  |succ j=>
   obtain⟨p,hp⟩:∃p,l[j]?=some p:=⟨l[j],List.getElem?_eq_getElem (by omega)⟩
   exact let ζ1:Heap:={boxes:=[],toks:=[],loops:=[]:Heap};gG 60 _ hT (.len (lM .sh encN l)<|.yes (dT ((↑(j+1):Int)<(↑l.length:Int)))<|.idx (show idxA 5 (.sl .sh (l.map encN)) (.int .i64 (↑(j+1):Int))=some (.ref (encN x).cells)from idx_row hd (by rfl))<|.callK ([.agg [.str x.name,.sl .sh (x.cap.map encA),.sl .sh (x.labels.map encP),.sl .sh (x.taints.map encT),.bool x.cordon]]) (.int .i64 c) hc<|.split ((c !=(0:Int))=true) (fun h1=>.yes (show(c !=(0:Int))=true from h1)<|.fin ((.ret (.int .i64 c),ζ1)) (by simp only[IsRet];grind[ordG])) (fun h1=>.no (show(c !=(0:Int))=false from Bool.eq_false_iff.2 h1)<|.yes (dT ((0:Int)<(↑(j+1):Int)))<|.idx (show idxA 5 (.sl .sh (l.map encN)) (.int .i64 (↑(j+1):Int))=some (.ref (encN x).cells)from idx_row hd (by rfl))<|.bin (show binA .sub (.int .i64 (↑(j+1):Int)) (.int .i64 1)=some (.int .i64 ↑j)from dec_i (by omega))<|.idx (show idxA 5 (.sl .sh (l.map encN)) (.int .i64 ↑j)=some (.ref (encN p).cells)from idx_get hp (by rfl))<|.split ((Op.bytesLess x.name p.name||x.name==p.name)=true) (fun h2=>.yes (show(Op.bytesLess x.name p.name||x.name==p.name)=true from h2)<|.fin ((.ret (.int .i64 13),ζ1)) (by simp only[IsRet];grind[ordG])) (fun h2=>.no (show(Op.bytesLess x.name p.name||x.name==p.name)=false from Bool.eq_false_iff.2 h2)<|.bin (show binA .add (.int .i64 (↑(j+1):Int)) (.int .i64 1)=some (.int .i64 (↑(j+1+1):Int))from inc_i (by omega))<|.cutQ k118_0 [(0,.sl .sh (l.map encN)),(3,.int .i64 (↑(j+1+1):Int))] (ζ1) (fun T hT=>(ih (j+1+1) hnx T hT).to (by grind[ordG])))))
theorem ckNs_ref(l:List Node):Gives cfg 118 [.sl .sh (l.map encN)] (.int .i64 (ckAll 32 ckN Node.name l)):=by
 refine Gives.run (l118 _ _) ?_
 have h:=fun hn=>ckNs_ref_loop l hn l 0 rfl
 exact let ζ1:Heap:={boxes:=[],toks:=[],loops:=[]:Heap};gG 60 [] trivial (.len (lM .sh encN l)<|.split ((32:Int)<(↑l.length:Int)) (fun h1=>.yes (dT ((32:Int)<(↑l.length:Int)) h1)<|.fin ((.ret (.int .i64 4),ζ1)) (by simp only[IsRet];grind[ckAll])) (fun h1=>.no (dF ((32:Int)<(↑l.length:Int)) h1)<|.cutQ k118_0 [(0,.sl .sh (l.map encN)),(3,.int .i64 0)] (ζ1) (fun T hT=>(h (by omega) T hT).to (by grind[ckAll]))))
def noN:Node:=⟨[],[],[],[],false⟩
def findNZ:List AV:=[.str [],.sl .full [],.sl .full [],.sl .full [],.bool false]
def findNV:Option Node→AV
 |none=>.tuple [.agg findNZ,.bool false]
 |some x=>.tuple [encN x,.bool true]
theorem findN_any_loop(l:List Node)(s:List UInt8)(hn:l.length<9223372036854775807):∀(post:List Node)(i:Nat)(bs:List (List AV))(hd:l.drop i=post)(T:Env)(hT:Has T [(4,.ptr 0 0),(1,.str s),(8,.sl .sh (l.map encN)),(9,.int .i64 l.length),(10,.int .i64 i)]),
 Goes cfg a81 k81_0 T ⟨findNZ::bs,[],[]⟩ (IsRet (findNV (findG Node.name post s))):=by
 intro post
 induction post with
 |nil=>
  intro i bs hd T hT
  have hge:=drop_ge hd
  exact let ζ1:List AV:=[.str [],.sl .full [],.sl .full [],.sl .full [],.bool false];let ζ2:Heap:={boxes:=ζ1::bs,toks:=[],loops:=[]:Heap};gG 60 _ hT (.no (dF ((↑i:Int)<(↑l.length:Int)))<|.store (show storeA 5 ζ2 (.ptr 0 0) (.agg ζ1)=some (ζ2)from store_box2 (cs:=ζ1) (cs':=ζ1) (by simp+zetaDelta) rfl (by simp+zetaDelta [List.set_append]))<|.fin ((.ret (.tuple [.agg ζ1,.bool false]),ζ2)) rfl)
 |cons x post ih=>
  intro i bs hd T hT
  have hlt:=drop_lt hd
  have hnx:=drop_next hd
  by_cases hx:Node.name x=s
  ·have e:findG Node.name (x::post) s=some x:=by simp[findG,List.find?_cons,hx]
   rw[e]
   exact let ζ1:List AV:=[.str x.name,.sl .sh (x.cap.map encA),.sl .sh (x.labels.map encP),.sl .sh (x.taints.map encT),.bool x.cordon];let ζ2:List AV:=[.str [],.sl .full [],.sl .full [],.sl .full [],.bool false];let ζ3:Heap:={boxes:=ζ2::(bs++[ζ1]),toks:=[],loops:=[]:Heap};let ζ4:Heap:={boxes:=ζ1::(bs++[ζ1]),toks:=[],loops:=[]:Heap};gG 60 _ hT (.yes (dT ((↑i:Int)<(↑l.length:Int)))<|.idx (iR 5 encN hd)<|.load (rfl:loadA true 5 {boxes:=ζ2::bs,toks:=[],loops:=[]:Heap} (.ref ζ1)=some (.agg ζ1))<|.store (show storeA 5 {boxes:=ζ2::(bs++[ζ2]),toks:=[],loops:=[]:Heap} (.ptr (ζ2::bs).length 0) (.agg ζ1)=some (ζ3)from store_box2 (cs:=ζ2) (cs':=ζ1) (by simp+zetaDelta) rfl (by simp+zetaDelta [List.set_append]))<|.load (show loadA false 1 ζ3 (.ptr (ζ2::bs).length 0)=some (.str x.name)from load_box (cs:=ζ1) (by simp+zetaDelta) rfl)<|.yes (show(x.name==s)=true from(by simpa using hx))<|.load (show loadA true 5 ζ3 (.ptr (ζ2::bs).length 0)=some (.agg ζ1)from load_box (cs:=ζ1) (by simp+zetaDelta) rfl)<|.store (show storeA 5 ζ3 (.ptr 0 0) (.agg ζ1)=some (ζ4)from store_box2 (cs:=ζ2) (cs':=ζ1) (by simp+zetaDelta) rfl (by simp+zetaDelta [List.set_append]))<|.fin ((.ret (.tuple [.agg ζ1,.bool true]),ζ4)) rfl)
  ·have e:findG Node.name (x::post) s=findG Node.name post s:=by simp[findG,List.find?_cons,hx]
   rw[e]
   exact let ζ1:List AV:=[.str x.name,.sl .sh (x.cap.map encA),.sl .sh (x.labels.map encP),.sl .sh (x.taints.map encT),.bool x.cordon];let ζ2:List AV:=[.str [],.sl .full [],.sl .full [],.sl .full [],.bool false];let ζ3:Heap:={boxes:=ζ2::(bs++[ζ1]),toks:=[],loops:=[]:Heap};gG 60 _ hT (.yes (dT ((↑i:Int)<(↑l.length:Int)))<|.idx (iR 5 encN hd)<|.load (rfl:loadA true 5 {boxes:=ζ2::bs,toks:=[],loops:=[]:Heap} (.ref ζ1)=some (.agg ζ1))<|.store (show storeA 5 {boxes:=ζ2::(bs++[ζ2]),toks:=[],loops:=[]:Heap} (.ptr (ζ2::bs).length 0) (.agg ζ1)=some (ζ3)from store_box2 (cs:=ζ2) (cs':=ζ1) (by simp+zetaDelta) rfl (by simp+zetaDelta [List.set_append]))<|.load (show loadA false 1 ζ3 (.ptr (ζ2::bs).length 0)=some (.str x.name)from load_box (cs:=ζ1) (by simp+zetaDelta) rfl)<|.no (show(x.name==s)=false from Bool.eq_false_iff.2 (by simpa using hx))<|.bin (iI i)<|.cutQ k81_0 [(4,.ptr 0 0),(1,.str s),(8,.sl .sh (l.map encN)),(9,.int .i64 (↑l.length)),(10,.int .i64 (↑(i+1)))] (ζ3) (fun T hT=>(ih (i+1) (bs++[ζ1]) hnx T hT)))
theorem findN_any(l:List Node)(s:List UInt8)(hn:l.length<9223372036854775807):Gives cfg 81 [.sl .sh (l.map encN),.str s] (findNV (findG Node.name l s)):=by
 refine Gives.run (l81 _ _) ?_
 have h:=findN_any_loop l s hn l 0 [] rfl
 exact gG 60 [] trivial (.len (lM .sh encN l)<|.cutQ k81_0 [(4,.ptr 0 0),(1,.str s),(8,.sl .sh (l.map encN)),(9,.int .i64 (↑l.length)),(10,.int .i64 0)] ({boxes:=[[.str [],.sl .full [],.sl .full [],.sl .full [],.bool false]],toks:=[],loops:=[]:Heap}) (fun T hT=>(h T hT)))
theorem findN_ref_loop(l:List Node)(s:List UInt8)(hn:l.length<9223372036854775807):∀(post:List Node)(i:Nat)(bs:List (List AV))(hd:l.drop i=post)(T:Env)(hT:Has T [(4,.ptr 0 0),(0,.sl .sh (l.map encN)),(1,.str s),(6,.int .i64 i)]),
 Goes cfg a73 k73_0 T ⟨findNZ::bs,[],[]⟩ (IsRet (findNV (findG Node.name post s))):=by
 intro post
 induction post with
 |nil=>
  intro i bs hd T hT
  have hge:=drop_ge hd
  exact let ζ1:List AV:=[.str [],.sl .full [],.sl .full [],.sl .full [],.bool false];let ζ2:Heap:={boxes:=ζ1::bs,toks:=[],loops:=[]:Heap};gG 60 _ hT (.len (lM .sh encN l)<|.no (dF ((↑i:Int)<(↑l.length:Int)))<|.store (show storeA 5 ζ2 (.ptr 0 0) (.agg ζ1)=some (ζ2)from store_box2 (cs:=ζ1) (cs':=ζ1) (by simp+zetaDelta) rfl (by simp+zetaDelta [List.set_append]))<|.fin ((.ret (.tuple [.agg ζ1,.bool false]),ζ2)) rfl)
 |cons x post ih=>
  intro i bs hd T hT
  have hlt:=drop_lt hd
  have hnx:=drop_next hd
  by_cases hx:Node.name x=s
  ·have e:findG Node.name (x::post) s=some x:=by simp[findG,List.find?_cons,hx]
   rw[e]
   exact let ζ1:List AV:=[.str x.name,.sl .sh (x.cap.map encA),.sl .sh (x.labels.map encP),.sl .sh (x.taints.map encT),.bool x.cordon];let ζ2:Heap:={boxes:=[.str [],.sl .full [],.sl .full [],.sl .full [],.bool false]::bs,toks:=[],loops:=[]:Heap};let ζ3:Heap:={boxes:=ζ1::bs,toks:=[],loops:=[]:Heap};gG 60 _ hT (.len (lM .sh encN l)<|.yes (dT ((↑i:Int)<(↑l.length:Int)))<|.idx (iR 5 encN hd)<|.load (rfl:loadA false 1 ζ2 (.ref [.str x.name])=some (.str x.name))<|.yes (show(x.name==s)=true from(by simpa using hx))<|.idx (iR 5 encN hd)<|.load (rfl:loadA true 5 ζ2 (.ref ζ1)=some (.agg ζ1))<|.store (show storeA 5 ζ2 (.ptr 0 0) (.agg ζ1)=some (ζ3)from store_box2 (cs:=[.str [],.sl .full [],.sl .full [],.sl .full [],.bool false]) (cs':=ζ1) (by simp+zetaDelta) rfl (by simp+zetaDelta [List.set_append]))<|.fin ((.ret (.tuple [.agg ζ1,.bool true]),ζ3)) rfl)
  ·have e:findG Node.name (x::post) s=findG Node.name post s:=by simp[findG,List.find?_cons,hx]
   rw[e]
   exact let ζ1:Heap:={boxes:=[.str [],.sl .full [],.sl .full [],.sl .full [],.bool false]::bs,toks:=[],loops:=[]:Heap};gG 60 _ hT (.len (lM .sh encN l)<|.yes (dT ((↑i:Int)<(↑l.length:Int)))<|.idx (iR 5 encN hd)<|.load (rfl:loadA false 1 ζ1 (.ref [.str x.name])=some (.str x.name))<|.no (show(x.name==s)=false from Bool.eq_false_iff.2 (by simpa using hx))<|.bin (iI i)<|.cutQ k73_0 [(4,.ptr 0 0),(0,.sl .sh (l.map encN)),(1,.str s),(6,.int .i64 (↑(i+1)))] (ζ1) (fun T hT=>(ih (i+1) (bs) hnx T hT)))
theorem findN_ref(l:List Node)(s:List UInt8)(hn:l.length<9223372036854775807):Gives cfg 73 [.sl .sh (l.map encN),.str s] (findNV (findG Node.name l s)):=by
 refine Gives.run (l73 _ _) ?_
 have h:=findN_ref_loop l s hn l 0 [] rfl
 exact gG 60 [] trivial (.cutQ k73_0 [(4,.ptr 0 0),(0,.sl .sh (l.map encN)),(1,.str s),(6,.int .i64 0)] ({boxes:=[[.str [],.sl .full [],.sl .full [],.sl .full [],.bool false]],toks:=[],loops:=[]:Heap}) (fun T hT=>(h T hT)))
theorem findG_mem{X:Type}{nm:X→List UInt8}{l:List X}{s:List UInt8}{x:X}(h:findG nm l s=some x):x∈l:=List.mem_of_find?_eq_some h
end Go.Aa.T
set_option linter.unusedVariables false
set_option linter.unusedSimpArgs false
set_option maxRecDepth 100000
namespace Go.Aa.T
open Go.Aa Go.Proofs
def inI(a:Int):Prop:= -9223372036854775808≤a∧a≤9223372036854775807
def bothE(a b:Int):Int:=if a<0 then 1 else if b<0 then 1 else 0
theorem both_any(a b:Int):Gives cfg 274 [.int .i64 a,.int .i64 b] (.int .i64 (bothE a b)):=by
 refine Gives.run (l274 _ _) ?_
 exact let ζ1:Heap:={boxes:=[],toks:=[],loops:=[]:Heap};gG 60 [] trivial (.split (a<(0:Int)) (fun h1=>.yes (dT (a<(0:Int)) h1)<|.tt<|.fin ((.ret (.int .i64 1),ζ1)) (by simp only[IsRet];grind[bothE])) (fun h1=>.no (dF (a<(0:Int)) h1)<|.split (b<(0:Int)) (fun h2=>.yes (dT (b<(0:Int)) h2)<|.fin ((.ret (.int .i64 1),ζ1)) (by simp only[IsRet];grind[bothE])) (fun h2=>.no (dF (b<(0:Int)) h2)<|.fin ((.ret (.int .i64 0),ζ1)) (by simp only[IsRet];grind[bothE]))))
theorem wrap_u64{x:Int}(h1:0≤x)(h2:x<18446744073709551616):IntKind.u64.wrap x=x:=by
 simp only[IntKind.wrap,IntKind.bits,IntKind.signed,Bool.false_and,show(2:Int)^64=18446744073709551616 from rfl,Bool.false_eq_true,if_false]
 omega
theorem conv_u64{x:Int}(h1:0≤x)(h2:x<18446744073709551616):convA (.int .u64) (.int .i64 x)=some (.int .u64 x):=by
 simp[convA,wrap_u64 h1 h2]
theorem addU{a b:Int}(h1:0≤a+b)(h2:a+b<18446744073709551616):binA .add (.int .u64 a) (.int .u64 b)=some (.int .u64 (a+b)):=by
 simp[binA,intBin,wrap_u64 h1 h2]
def toldQ(n:Int):Int×Int:=if 9223372036854775807<n then(0,5)else(n,0)
theorem told_any(n:Int)(h:0≤n):Gives cfg 275 [.int .u64 n,.bool false] (.tuple [.int .i64 (toldQ n).1,.int .i64 (toldQ n).2]):=by
 refine Gives.run (l275 _ _) ?_
 by_cases hn:9223372036854775807<n
 ·have e:toldQ n=(0,5):=by simp[toldQ,hn]
  rw[e]
  exact gG 60 [] trivial (.ff<|.yes (dT ((9223372036854775807:Int)<n) (by exact hn))<|.fin ((.ret (.tuple [.int .i64 0,.int .i64 5]),{boxes:=[],toks:=[],loops:=[]:Heap})) rfl)
 ·have e:toldQ n=(n,0):=by simp[toldQ,hn]
  rw[e]
  have hc:convA (.int .i64) (.int .u64 n)=some (.int .i64 n):=conv_i64 (by omega)
  exact gG 60 [] trivial (.ff<|.no (dF ((9223372036854775807:Int)<n) (by exact hn))<|.conv hc<|.fin ((.ret (.tuple [.int .i64 n,.int .i64 0]),{boxes:=[],toks:=[],loops:=[]:Heap})) rfl)
def addQ(a b:Int):Int×Int:=if bothE a b≠0 then(0,bothE a b)else toldQ (a+b)
theorem both_ok{a b:Int}(h:bothE a b=0):0≤a∧0≤b:=by
 unfold bothE at h
 split at h
 ·cases h
 ·split at h
  ·cases h
  ·omega
theorem qadd_any(a b:Int)(ha:inI a)(hb:inI b):Gives cfg 285 [.int .i64 a,.int .i64 b] (.tuple [.int .i64 (addQ a b).1,.int .i64 (addQ a b).2]):=by
 refine Gives.run (l285 _ _) ?_
 obtain⟨ha1,ha2⟩:=ha
 obtain⟨hb1,hb2⟩:=hb
 have h0:=both_any a b
 by_cases he:bothE a b=0
 ·have e:addQ a b=toldQ (a+b):=by simp[addQ,he]
  rw[e]
  obtain⟨i1,i2⟩:=both_ok he
  rw[he]at h0
  have h1:=told_any (a+b) (by omega)
  have c1:convA (.int .u64) (.int .i64 a)=some (.int .u64 a):=conv_u64 i1 (by omega)
  have c2:convA (.int .u64) (.int .i64 b)=some (.int .u64 b):=conv_u64 i2 (by omega)
  have c3:binA .add (.int .u64 a) (.int .u64 b)=some (.int .u64 (a+b)):=addU (by omega) (by omega)
  exact let ζ1:List AV:=[.int .i64 (toldQ (a+b)).fst,.int .i64 (toldQ (a+b)).snd];gG 60 [] trivial (.callK ([.int .i64 a,.int .i64 b]) (.int .i64 0) h0<|.ff<|.conv c1<|.conv c2<|.bin c3<|.callK ([.int .u64 (a+b),.bool false]) (.tuple ζ1) h1<|.fin ((.ret (.tuple ζ1),{boxes:=[],toks:=[],loops:=[]:Heap})) rfl)
 ·have e:addQ a b=(0,bothE a b):=by simp[addQ,he]
  rw[e]
  generalize bothE a b=c at*
  exact gG 60 [] trivial (.callK ([.int .i64 a,.int .i64 b]) (.int .i64 c) h0<|.yes (show(c !=(0:Int))=true from(by simpa using he))<|.fin ((.ret (.tuple [.int .i64 0,.int .i64 c]),{boxes:=[],toks:=[],loops:=[]:Heap})) rfl)
theorem qadd_ref(a b:Int)(ha:inI a)(hb:inI b):Gives cfg 267 [.int .i64 a,.int .i64 b] (.tuple [.int .i64 (addQ a b).1,.int .i64 (addQ a b).2]):=by
 refine Gives.run (l267 _ _) ?_
 obtain⟨ha1,ha2⟩:=ha
 obtain⟨hb1,hb2⟩:=hb
 have hs:0≤b→binA .sub (.int .i64 9223372036854775807) (.int .i64 b)=some (.int .i64 (9223372036854775807-b)):=fun h=>subI (by omega) (by omega)
 by_cases he:bothE a b=0
 ·obtain⟨i1,i2⟩:=both_ok he
  have hs:=hs i2
  by_cases ho:9223372036854775807<a+b
  ·have e:addQ a b=(0,5):=by simp[addQ,he,toldQ,ho]
   rw[e]
   exact gG 60 [] trivial (.no (dF (a<(0:Int)))<|.no (dF (b<(0:Int)))<|.bin hs<|.yes (dT ((9223372036854775807:Int)-b<a))<|.fin ((.ret (.tuple [.int .i64 0,.int .i64 5]),{boxes:=[],toks:=[],loops:=[]:Heap})) rfl)
  ·have e:addQ a b=(a+b,0):=by simp[addQ,he,toldQ,ho]
   rw[e]
   have ha:binA .add (.int .i64 a) (.int .i64 b)=some (.int .i64 (a+b)):=addI (by omega) (by omega)
   exact gG 60 [] trivial (.no (dF (a<(0:Int)))<|.no (dF (b<(0:Int)))<|.bin hs<|.no (dF ((9223372036854775807:Int)-b<a))<|.bin ha<|.fin ((.ret (.tuple [.int .i64 (a+b),.int .i64 0]),{boxes:=[],toks:=[],loops:=[]:Heap})) rfl)
 ·have e:addQ a b=(0,1):=by
   have:bothE a b=1:=by unfold bothE at he⊢;grind
   simp[addQ,this]
  rw[e]
  have hor:a<0∨b<0:=by unfold bothE at he;grind
  by_cases h1:a<0
  ·exact gG 60 [] trivial (.yes (dT (a<(0:Int)))<|.tt<|.fin ((.ret (.tuple [.int .i64 0,.int .i64 1]),{boxes:=[],toks:=[],loops:=[]:Heap})) rfl)
  ·exact gG 60 [] trivial (.no (dF (a<(0:Int)))<|.yes (dT (b<(0:Int)))<|.fin ((.ret (.tuple [.int .i64 0,.int .i64 1]),{boxes:=[],toks:=[],loops:=[]:Heap})) rfl)
def getQ(v:List Amount)(s:List UInt8):Int:=match v.find? (fun x=>x.name==s)with
 |some x=>x.n
 |none=>0
theorem getQ_cons(x:Amount)(v:List Amount)(s:List UInt8):getQ (x::v) s=if x.name=s then x.n else getQ v s:=by
 unfold getQ
 by_cases h:x.name=s
 ·simp[List.find?_cons,h]
 ·simp[List.find?_cons,h]
section
variable{H:Heap}{g:FuncId}{k:Nat}{p:Amount→Bool}
theorem idxV_loop(hd:∀y:Amount,Does cfg (.call (.c (.func g [.ptr k 0])) [.c (encA y)]) H (.bool (p y)) H)(l:List Amount)(hn:l.length<9223372036854775807):∀(post:List Amount)(i:Nat)(hdr:l.drop i=post)(T:Env)
 (hT:Has T [(0,.sl .sh (l.map encA)),(1,.func g [.ptr k 0]),(7,.int .i64 l.length),(8,.int .i64 i)]),
 Goes cfg a232 k232_0 T H (fun r=>r=(.ret (.int .i64 (fidxB p post i)),H)):=by
 intro post
 induction post with
 |nil=>
  intro i hdr T hT
  have hge:=drop_ge hdr
  exact gG 60 _ hT (.no (dF ((↑i:Int)<(↑l.length:Int)))<|.fin ((.ret (.int .i64 (-1:Int)),H)) rfl)
 |cons x post ih=>
  intro i hdr T hT
  have hlt:=drop_lt hdr
  have hnx:=drop_next hdr
  have hdx:=hd x
  cases hp:p x with
  |true=>
   rw[hp]at hdx
   have e:fidxB p (x::post) i=i:=by simp[fidxB,hp]
   rw[e]
   exact gG 60 _ hT (.yes (dT ((↑i:Int)<(↑l.length:Int)))<|.idx (iR 2 encA hdr)<|.load (rfl:loadA true 2 H (.ref [.str x.name,.int .i64 x.n])=some (.agg [.str x.name,.int .i64 x.n]))<|.effY hdx<|.tt<|.fin ((.ret (.int .i64 ↑i),H)) rfl)
  |false=>
   rw[hp]at hdx
   have e:fidxB p (x::post) i=fidxB p post (i+1):=by simp[fidxB,hp]
   rw[e]
   exact gG 60 _ hT (.yes (dT ((↑i:Int)<(↑l.length:Int)))<|.idx (iR 2 encA hdr)<|.load (rfl:loadA true 2 H (.ref [.str x.name,.int .i64 x.n])=some (.agg [.str x.name,.int .i64 x.n]))<|.effY hdx<|.ff<|.bin (iI i)<|.cutQ k232_0 [(0,.sl .sh (l.map encA)),(1,.func g [.ptr k 0]),(7,.int .i64 (↑l.length)),(8,.int .i64 (↑(i+1)))] (H) (fun T hT=>(ih (i+1) hnx T hT)))
theorem idxV(hd:∀y:Amount,Does cfg (.call (.c (.func g [.ptr k 0])) [.c (encA y)]) H (.bool (p y)) H)(l:List Amount)(hn:l.length<9223372036854775807):
 lim cfg (.fn 232) [.sl .sh (l.map encA),.func g [.ptr k 0]] H=some (.ret (.int .i64 (fidxB p l 0)),H):=by
 rw[l232]
 have h:=idxV_loop hd l hn l 0 rfl
 have key:Goes cfg a232 [.c c232] (initEnv [.sl .sh (l.map encA),.func g [.ptr k 0]]) H (fun r=>r=(.ret (.int .i64 (fidxB p l 0)),H)):=by
  exact gG 60 [] trivial (.len (lM .sh encA l)<|.cutQ k232_0 [(0,.sl .sh (l.map encA)),(1,.func g [.ptr k 0]),(7,.int .i64 (↑l.length)),(8,.int .i64 0)] (H) (fun T hT=>(h T hT)))
 obtain⟨r,h,rfl⟩:=key
 exact h
end
theorem fidx_get(s:List UInt8):∀(l pre:List Amount)(i:Nat),pre.length=i→(getQ l s=0∧fidxB (fun x:Amount=>x.name==s) l i= -1)∨∃j x,fidxB (fun x:Amount=>x.name==s) l i=(j:Nat)∧(pre++l)[j]?=some x∧getQ l s=x.n
 |[],pre,i,h=>.inl ⟨rfl,rfl⟩
 |x::l,pre,i,h=>by
  by_cases hx:x.name=s
  ·refine .inr ⟨i,x,by simp[fidxB,hx],by simp[←h],by rw[getQ_cons,if_pos hx]⟩
  ·have e1:fidxB (fun x:Amount=>x.name==s) (x::l) i=fidxB (fun x:Amount=>x.name==s) l (i+1):=by simp[fidxB,hx]
   rw[getQ_cons,if_neg hx,e1]
   rcases fidx_get s l (pre++[x]) (i+1) (by simp[h])with h1|⟨j,y,h1,h2,h3⟩
   ·exact .inl h1
   ·exact .inr ⟨j,y,h1,by simpa using h2,h3⟩
theorem get_one(s:List UInt8)(y:Amount):Does cfg (.call (.c (.func 233 [.ptr 0 0])) [.c (encA y)]) ⟨[[.str s]],[],[]⟩ (.bool (y.name==s)) ⟨[[.str s]],[],[]⟩:=by
 have key:Goes cfg a233 [.c c233] (initEnv [encA y,.ptr 0 0]) ⟨[[.str s]],[],[]⟩ (fun r=>r=(.ret (.bool (y.name==s)),⟨[[.str s]]++[(encA y).cells],[],[]⟩)):=by
  exact gG 60 [] trivial (.fin ((.ret (.bool (y.name==s)),{boxes:=[[.str s],[.str y.name,.int .i64 y.n]],toks:=[],loops:=[]:Heap})) rfl)
 obtain⟨r,h,rfl⟩:=key
 have h2:lim cfg (.fn 233) ([encA y]++[.ptr 0 0]) ⟨[[.str s]],[],[]⟩=some (.ret (.bool (y.name==s)),⟨[[.str s]]++[(encA y).cells],[],[]⟩):=by
  rw[l233];exact h
 have hd:=does_callE h2 rfl rfl
 rwa [show shutA (.bool (y.name==s))=.bool (y.name==s)from rfl,trunc_plain (bs:=[[.str s]]) (ex:=[(encA y).cells]) (ts:=[]) rfl]at hd
theorem getQ_any(v:List Amount)(s:List UInt8)(hn:v.length<9223372036854775807):Gives cfg 165 [.sl .sh (v.map encA),.str s] (.int .i64 (getQ v s)):=by
 refine Gives.run (l165 _ _) ?_
 have h0:=does_callE (xs:=[.sl .sh (v.map encA),.func 233 [.ptr 0 0]]) (caps:=[]) (idxV (g:=233) (k:=0) (get_one s) v hn) rfl rfl
 rw[show shutA (.int .i64 (fidxB (fun y:Amount=>y.name==s) v 0))=.int .i64 (fidxB (fun y:Amount=>y.name==s) v 0)from rfl,
  show trunc (⟨[[.str s]],[],[]⟩:Heap).boxes.length (⟨[[.str s]],[],[]⟩:Heap).toks.length (.int .i64 (fidxB (fun y:Amount=>y.name==s) v 0)) ⟨[[.str s]],[],[]⟩=⟨[[.str s]],[],[]⟩from rfl]at h0
 rcases fidx_get s v [] 0 rfl with⟨h1,h2⟩|⟨j,x,h1,h2,h3⟩
 ·rw[h2]at h0
  rw[h1]
  exact let ζ1:Heap:={boxes:=[[.str s]],toks:=[],loops:=[]:Heap};gG 60 [] trivial (.effY h0<|.tt<|.fin ((.ret (.int .i64 0),ζ1)) rfl)
 ·rw[h1]at h0
  rw[h3]
  have hx:idxA 2 (.sl .sh (v.map encA)) (.int .i64 (j:Nat))=some (.ref [.str x.name,.int .i64 x.n]):=idx_get (f:=encA) (x:=x) (by simpa using h2) rfl
  exact let ζ1:Heap:={boxes:=[[.str s]],toks:=[],loops:=[]:Heap};gG 60 [] trivial (.effY h0<|.ff<|.idx hx<|.fin ((.ret (.int .i64 x.n),ζ1)) rfl)
theorem getQ_ref_loop(v:List Amount)(s:List UInt8)(hn:v.length<9223372036854775807):∀(post:List Amount)(i:Nat)(hd:v.drop i=post)(T:Env)(hT:Has T [(0,.sl .sh (v.map encA)),(1,.str s),(5,.int .i64 i)]),
 Goes cfg a211 k211_0 T Heap.nil (IsRet (.int .i64 (getQ post s))):=by
 intro post
 induction post with
 |nil=>
  intro i hd T hT
  have hge:=drop_ge hd
  exact gG 60 _ hT (.len (lM .sh encA v)<|.no (dF ((↑i:Int)<(↑v.length:Int)))<|.fin ((.ret (.int .i64 0),{boxes:=[],toks:=[],loops:=[]:Heap})) rfl)
 |cons x post ih=>
  intro i hd T hT
  have hlt:=drop_lt hd
  have hnx:=drop_next hd
  rw[getQ_cons]
  by_cases hq:x.name=s
  ·rw[if_pos hq]
   exact gG 60 _ hT (.len (lM .sh encA v)<|.yes (dT ((↑i:Int)<(↑v.length:Int)))<|.idx (iR 2 encA hd)<|.yes (show(x.name==s)=true from(by simpa using hq))<|.idx (iR 2 encA hd)<|.fin ((.ret (.int .i64 x.n),{boxes:=[],toks:=[],loops:=[]:Heap})) rfl)
  ·rw[if_neg hq]
   exact gG 60 _ hT (.len (lM .sh encA v)<|.yes (dT ((↑i:Int)<(↑v.length:Int)))<|.idx (iR 2 encA hd)<|.no (show(x.name==s)=false from Bool.eq_false_iff.2 (by simpa using hq))<|.bin (iI i)<|.cutQ k211_0 [(0,.sl .sh (v.map encA)),(1,.str s),(5,.int .i64 (↑(i+1)))] ({boxes:=[],toks:=[],loops:=[]:Heap}) (fun T hT=>(ih (i+1) hnx T hT)))
theorem getQ_ref(v:List Amount)(s:List UInt8)(hn:v.length<9223372036854775807):Gives cfg 211 [.sl .sh (v.map encA),.str s] (.int .i64 (getQ v s)):=by
 refine Gives.run (l211 _ _) ?_
 have h:=getQ_ref_loop v s hn v 0 rfl
 exact gG 60 [] trivial (.cutQ k211_0 [(0,.sl .sh (v.map encA)),(1,.str s),(5,.int .i64 0)] ({boxes:=[],toks:=[],loops:=[]:Heap}) (fun T hT=>(h T hT)))
def fitsV(need have_:List Amount):Bool:=need.all fun x=>decide (x.n≤getQ have_ x.name)
theorem fits_ref_loop(v w:List Amount)(hv:v.length<9223372036854775807)(hn:w.length<9223372036854775807):∀(post:List Amount)(i:Nat)(hd:v.drop i=post)(T:Env)(hT:Has T [(0,.sl .sh (v.map encA)),(1,.sl .sh (w.map encA)),(5,.int .i64 i)]),
 Goes cfg a122 k122_0 T Heap.nil (IsRet (.bool (fitsV post w))):=by
 intro post
 induction post with
 |nil=>
  intro i hd T hT
  have hge:=drop_ge hd
  exact gG 60 _ hT (.len (lM .sh encA v)<|.no (dF ((↑i:Int)<(↑v.length:Int)))<|.fin ((.ret (.bool true),{boxes:=[],toks:=[],loops:=[]:Heap})) rfl)
 |cons x post ih=>
  intro i hd T hT
  have hlt:=drop_lt hd
  have hnx:=drop_next hd
  have hg:=getQ_ref w x.name hn
  have e:fitsV (x::post) w=(decide (x.n≤getQ w x.name)&&fitsV post w):=rfl
  rw[e]
  by_cases hq:x.n≤getQ w x.name
  ·rw[decide_eq_true hq,Bool.true_and]
   exact let ζ1:List AV:=[.sl .sh (w.map encA),.str x.name];gG 90 _ hT (.len (lM .sh encA v)<|.yes (dT ((↑i:Int)<(↑v.length:Int)))<|.idx (iR 2 encA hd)<|.idx (iR 2 encA hd)<|.callK (ζ1) (.int .i64 (getQ w x.name)) hg<|.no (dF (getQ w x.name<x.n))<|.bin (iI i)<|.cutQ k122_0 [(0,.sl .sh (v.map encA)),(1,.sl .sh (w.map encA)),(5,.int .i64 (↑(i+1)))] ({boxes:=[],toks:=[],loops:=[]:Heap}) (fun T hT=>(ih (i+1) hnx T hT)))
  ·rw[decide_eq_false hq,Bool.false_and]
   exact let ζ1:List AV:=[.sl .sh (w.map encA),.str x.name];gG 90 _ hT (.len (lM .sh encA v)<|.yes (dT ((↑i:Int)<(↑v.length:Int)))<|.idx (iR 2 encA hd)<|.idx (iR 2 encA hd)<|.callK (ζ1) (.int .i64 (getQ w x.name)) hg<|.yes (dT (getQ w x.name<x.n))<|.fin ((.ret (.bool false),{boxes:=[],toks:=[],loops:=[]:Heap})) rfl)
theorem fits_ref(v w:List Amount)(hv:v.length<9223372036854775807)(hn:w.length<9223372036854775807):Gives cfg 122 [.sl .sh (v.map encA),.sl .sh (w.map encA)] (.bool (fitsV v w)):=by
 refine Gives.run (l122 _ _) ?_
 have h:=fits_ref_loop v w hv hn v 0 rfl
 exact gG 60 [] trivial (.cutQ k122_0 [(0,.sl .sh (v.map encA)),(1,.sl .sh (w.map encA)),(5,.int .i64 0)] ({boxes:=[],toks:=[],loops:=[]:Heap}) (fun T hT=>(h T hT)))
end Go.Aa.T
set_option linter.unusedVariables false
set_option linter.unusedSimpArgs false
set_option maxRecDepth 100000
namespace Go.Aa.T
open Go.Aa Go.Proofs
def uqG(x:List UInt8):List (List UInt8)→List (List UInt8)
 |[]=>[]
 |y::l=>if y=x then uqG x l else y::uqG y l
def uq:List (List UInt8)→List (List UInt8)
 |[]=>[]
 |x::l=>x::uqG x l
def namesOf(l:List (List UInt8)):List (List UInt8):=uq (isort l)
theorem uqG_len(x:List UInt8):∀l:List (List UInt8),(uqG x l).length≤l.length
 |[]=>Nat.le_refl _
 |y::l=>by
  unfold uqG
  split
  ·have:=uqG_len x l;simp;omega
  ·have:=uqG_len y l;simp;omega
theorem uq_len(l:List (List UInt8)):(uq l).length≤l.length:=by
 cases l with
 |nil=>exact Nat.le_refl _
 |cons x l=>have:=uqG_len x l;simp[uq];omega
theorem trunc_len{bs:List (List AV)}{ls:List LRec}{v:AV}{nb nt:Nat}(h:bs.length=nb):trunc nb nt v ⟨bs,[],ls⟩=⟨bs,[],ls⟩:=by
 unfold trunc
 have e:∀(b:Bool),(if b=true then bs.take nb else bs)=bs:=fun b=>by
  split
  ·exact List.take_of_length_le (by omega)
  ·rfl
 simp only[e,List.take_nil,ite_self]
theorem unrow_one:∀(n:Nat)(cs:List AV),n≤cs.length→unrow 1 n cs=cs.take n
 |0,cs,_=>by simp[unrow]
 |n+1,[],h=>by simp at h
 |n+1,c::cs,h=>by
  simp only[unrow,if_true,List.headD_cons,List.drop_succ_cons,List.drop_zero,List.take_succ_cons]
  rw[unrow_one n cs (by simpa using h)]
theorem strs_data(l:List (List UInt8)):(l.map AV.str).all data0=true:=List.all_eq_true.2 fun x hx=>by
 obtain⟨s,-,rfl⟩:=List.mem_map.1 hx
 rfl
theorem out_box1{bs:List (List AV)}{tk:List Nat}{ls:List LRec}{kk n:Nat}{cs:List AV}(hk:bs[kk]?=some cs)(hn:n≤cs.length)(hd:cs.all data0=true):dataOut ⟨bs,tk,ls⟩ (.msl kk 0 n 1)=some (.sl .sh (cs.take n)):=by
 have h1:frzA ⟨bs,tk,ls⟩ (.msl kk 0 n 1)=some (.sl .sh (cs.take n)):=by
  simp only[frzA,frz2,frz1,hk,Nat.zero_add,List.drop_zero,Nat.mul_one]
  rw[if_pos ⟨hn,Nat.zero_le _,Nat.one_pos,hd⟩,unrow_one n cs hn]
 unfold dataOut
 rw[if_neg (by simp[shutA,shut2,shut1,isData,data2,data1,data0]),h1]
 rfl
theorem does_load1{kk m:Nat}{bs:List (List AV)}{tk:List Nat}{ls:List LRec}{C:List (List UInt8)}{y:List UInt8}(hk:bs[kk]?=some (C.map .str))(hy:C[m]?=some y):Does cfg (.load false 1 (.c (.ptr kk m))) ⟨bs,tk,ls⟩ (.str y) ⟨bs,tk,ls⟩:=fun T=>by
 have hm:=(List.getElem?_eq_some_iff.1 hy).1
 have:loadA false 1 ⟨bs,tk,ls⟩ (.ptr kk m)=some (.str y):=by
  simp only[loadA,hk,List.length_map]
  rw[if_pos (by omega)]
  simp[hy]
 simp only[opStep,ev,this]
theorem does_store1{kk m:Nat}{bs:List (List AV)}{tk:List Nat}{ls:List LRec}{C:List (List UInt8)}(y:List UInt8)(hk:bs[kk]?=some (C.map .str))(hm:m<C.length):Does cfg (.store 1 (.c (.ptr kk m)) (.c (.str y))) ⟨bs,tk,ls⟩ .undef ⟨bs.set kk ((C.set m y).map .str),tk,ls⟩:=fun T=>by
 have:storeA 1 ⟨bs,tk,ls⟩ (.ptr kk m) (.str y)=some ⟨bs.set kk ((C.set m y).map .str),tk,ls⟩:=by
  simp only[storeA,hk,List.length_map]
  rw[if_pos ⟨by omega,rfl,rfl,by omega⟩]
  simp[AV.cells,paste,List.map_set]
 simp only[opStep,ev,this]
theorem does_growB{es b kk n:Nat}{B:List (List AV)}{tk:List Nat}{ls:List LRec}{cs:List AV}{v:AV}{sk:SK}(hk:B[kk]?=some cs)(hn:cs.length=n*es)(h0:0<n)(hd:cs.all data0=true)(hv:cellsN es v=true)(hvd:dataOk [v]=true)(hb:(n+1)*b≤140737488355328):
 Does cfg (.appendM es b (.c (.msl kk 0 n es)) (.c (.sl sk [v]))) ⟨B,tk,ls⟩ (.msl B.length 0 (n+1) es) ⟨B.set kk []++[cs++v.cells],tk,ls⟩:=fun T=>by
 have:appendMA es b ⟨B,tk,ls⟩ (.msl kk 0 n es) (.sl sk [v])=some (.msl B.length 0 (n+1) es,⟨B.set kk []++[cs++v.cells],tk,ls⟩):=by
  simp only[appendMA,hk]
  rw[if_pos ⟨trivial,trivial,h0,hn,hd,hb,by simp only[lenOk,List.all_cons,List.all_nil,Bool.and_true];exact hv,hvd⟩]
  simp[rowCells]
 simp only[opStep,ev,this]
theorem does_newB{es b:Nat}{B:List (List AV)}{tk:List Nat}{ls:List LRec}{v:AV}{sk:SK}(hv:cellsN es v=true)(hvd:dataOk [v]=true)(hb:b≤140737488355328):
 Does cfg (.appendM es b (.c (.sl .full [])) (.c (.sl sk [v]))) ⟨B,tk,ls⟩ (.msl B.length 0 1 es) ⟨B++[v.cells],tk,ls⟩:=fun T=>by
 have:appendMA es b ⟨B,tk,ls⟩ (.sl .full []) (.sl sk [v])=some (.msl B.length 0 1 es,⟨B++[v.cells],tk,ls⟩):=by
  simp only[appendMA]
  rw[if_pos ⟨by trivial,by trivial,by simpa using hb,by simp only[lenOk,List.all_cons,List.all_nil,Bool.and_true];exact hv,hvd⟩]
  simp[rowCells]
 simp only[opStep,ev,this]
section
variable(kk n:Nat)(B0:List (List AV))
def RetC(res:List (List UInt8))(r:ARes×Heap):Prop:=∃(m:Nat)(C:List (List UInt8)),r=(.ret (.msl kk 0 m 1),⟨B0.set kk (C.map .str),[],[]⟩)∧C.take m=res∧m≤C.length∧C.length=n
theorem compact_loop2(hn:n<9223372036854775807)(hk0:kk<B0.length)(k0:Nat)(h1:1≤k0):∀(post:List (List UInt8))(q m:Nat)(prev:List UInt8)(U C:List (List UInt8))(hm:m=k0+q)(hq:1≤q)(hC:C.length=n)(hU:C.take U.length=U)(hd:C.drop (m-1)=prev::post)(hl:U.length+1≤m)(T:Env)
 (hT:Has T [(0,.msl kk 0 n 1),(3,.int .i64 U.length),(4,.msl kk k0 (n-k0) 1),(5,.int .i64 q)]),
 Goes cfg a228 k228_1 T ⟨B0.set kk (C.map .str),[],[]⟩ (RetC kk n B0 (U++uqG prev post)):=by
 intro post
 induction post with
 |nil=>
  intro q m prev U C hm hq hC hU hd hl T hT
  have hlen:n-(m-1)=1:=by
   have:=congrArg List.length hd
   simpa[hC]using this
  have hk:(B0.set kk (C.map AV.str))[kk]?=some (C.map .str):=by rw[List.getElem?_set_self hk0]
  have c1:binA .lss (.int .i64 (q:Nat)) (.int .i64 ((n-k0:Nat):Int))=some (.bool false):=lssF (by omega)
  have s1:sliceA 1 (.msl kk 0 n 1) (some (.int .i64 (U.length:Nat))) none none=some (.msl kk U.length (n-U.length) 1):=by
   simp only[sliceA,sliceM,boundA]
   rw[if_neg (by omega)]
   rw[if_pos ⟨by omega,by omega⟩]
   simp only[Int.toNat_natCast]
   rw[if_pos (by omega)]
   simp
  have s2:sliceA 1 (.msl kk 0 n 1) none (some (.int .i64 (U.length:Nat))) none=some (.msl kk 0 U.length 1):=by
   simp only[sliceA,sliceM,boundA]
   rw[if_neg (by omega)]
   rw[if_pos ⟨by omega,by omega⟩]
   simp only[Int.toNat_natCast]
   rw[if_pos (by omega)]
   simp
  have cl:Does cfg (.clearM [.str []] (.c (.msl kk U.length (n-U.length) 1))) ⟨B0.set kk (C.map .str),[],[]⟩ (.tuple []) ⟨B0.set kk ((U++List.replicate (n-U.length) []).map .str),[],[]⟩:=fun T=>by
   have e0:(List.replicate (n-U.length) [AV.str []]).flatten=List.replicate (n-U.length) (.str []):=by
    generalize n-U.length=j
    induction j with
    |zero=>rfl
    |succ j ih=>rw[List.replicate_succ,List.flatten_cons,ih];rfl
   have:clearA [.str []] ⟨B0.set kk (C.map .str),[],[]⟩ (.msl kk U.length (n-U.length) 1)=some ⟨B0.set kk ((U++List.replicate (n-U.length) []).map .str),[],[]⟩:=by
    simp only[clearA,hk]
    rw[if_pos ⟨by simp[hC];omega,rfl,by omega,by omega,rfl⟩,e0,paste_spec _ _ _ (by simp[hC];omega)]
    simp only[List.set_set]
    congr 3
    rw[←List.map_take,hU,List.drop_eq_nil_of_le (by simp[hC];omega)]
    simp
   simp only[opStep,ev,this]
  exact let ζ1:Heap:={boxes:=B0.set kk (List.map .str (U++List.replicate (n-U.length) [])),toks:=[],loops:=[]:Heap};gG 60 _ hT (.len (rfl:lenA false (.msl kk k0 (n-k0) 1)=some (.int .i64 (↑(n-k0):Int)))<|.no (dF ((↑q:Int)<(↑(n-k0):Int)))<|.slice s1<|.effY cl<|.slice s2<|.fin ((.ret (.msl kk 0 U.length 1),ζ1)) (by exact⟨U.length,U++List.replicate (n-U.length) [],rfl,by simp[uqG],by simp,by simp;omega⟩))
 |cons y post ih=>
  intro q m prev U C hm hq hC hU hd hl T hT
  have hlen:n-(m-1)=post.length+2:=by
   have:=congrArg List.length hd
   simpa[hC]using this
  have hk:(B0.set kk (C.map AV.str))[kk]?=some (C.map .str):=by rw[List.getElem?_set_self hk0]
  have c1:binA .lss (.int .i64 (q:Nat)) (.int .i64 ((n-k0:Nat):Int))=some (.bool true):=lssT (by omega)
  have hprev:C[k0+(q-1)]?=some prev:=by
   have:=drop_at hd
   rwa [show m-1=k0+(q-1)by omega]at this
  have hd1:C.drop m=y::post:=by
   have:=drop_next hd
   rwa [show m-1+1=m by omega]at this
  have hy:C[k0+q]?=some y:=by rw[←hm];exact drop_at hd1
  obtain⟨q,rfl⟩:∃p,q=p+1:=⟨q-1,by omega⟩
  have i1:idxA 1 (.msl kk k0 (n-k0) 1) (.int .i64 ((q+1:Nat):Int))=some (.ptr kk (k0+(q+1))):=by
   have:=idx_msl (k:=kk) (off:=k0) (n:=n-k0) (es:=1) (q:=.i64) (i:=q+1) (by omega)
   rwa [Nat.mul_one]at this
  have i2:idxA 1 (.msl kk k0 (n-k0) 1) (.int .i64 (q:Nat))=some (.ptr kk (k0+q)):=by
   have:=idx_msl (k:=kk) (off:=k0) (n:=n-k0) (es:=1) (q:=.i64) (i:=q) (by omega)
   rwa [Nat.mul_one]at this
  have l1:=does_load1 (tk:=[]) (ls:=[]) hk hy
  rw[Nat.add_sub_cancel]at hprev
  have l2:=does_load1 (tk:=[]) (ls:=[]) hk hprev
  have d1:=dec_i (i:=q) (by omega)
  by_cases e:y=prev
  ·have hg:uqG prev (y::post)=uqG prev post:=by simp[uqG,e]
   rw[hg]
   have n1:binA .neq (.str y) (.str prev)=some (.bool false):=strNeF e
   have ih':=ih (q+1+1) (m+1) prev U C (by omega) (by omega) hC hU (by rw[Nat.add_sub_cancel,hd1,e]) (by omega)
   exact let ζ1:Heap:={boxes:=B0.set kk (List.map .str C),toks:=[],loops:=[]:Heap};gG 90 _ hT (.len (rfl:lenA false (.msl kk k0 (n-k0) 1)=some (.int .i64 (↑(n-k0):Int)))<|.yes (dT ((↑(q+1):Int)<(↑(n-k0):Int)))<|.idx i1<|.effY l1<|.bin d1<|.idx i2<|.effY l2<|.no (show(!y==prev)=false from by have hh:(y==prev)=true:=(by simpa using e);simp[hh])<|.bin (show binA .add (.int .i64 (↑(q+1):Int)) (.int .i64 1)=some (.int .i64 (↑(q+1+1):Int))from inc_i (by omega))<|.cutQ k228_1 [(0,.msl kk 0 n 1),(3,.int .i64 (↑U.length)),(4,.msl kk k0 (n-k0) 1),(5,.int .i64 (↑(q+1+1):Int))] (ζ1) (fun T hT=>(ih' T hT)))
  ·have hg:uqG prev (y::post)=y::uqG y post:=by simp[uqG,e]
   rw[hg]
   have n1:binA .neq (.str y) (.str prev)=some (.bool true):=strNeT e
   have i3:idxA 1 (.msl kk 0 n 1) (.int .i64 (U.length:Nat))=some (.ptr kk U.length):=by
    have:=idx_msl (k:=kk) (off:=0) (n:=n) (es:=1) (q:=.i64) (i:=U.length) (by omega)
    rwa [Nat.mul_one,Nat.zero_add]at this
   have st:=does_store1 (tk:=[]) (ls:=[]) y hk (m:=U.length) (by omega)
   rw[List.set_set]at st
   have ih':=ih (q+1+1) (m+1) y (U++[y]) (C.set U.length y) (by omega) (by omega) (by simp[hC]) (by
    rw[List.length_append,List.length_singleton,List.take_add_one,List.getElem?_set_self (by omega),List.take_set_of_le (Nat.le_refl _),hU]
    rfl) (by
    rw[Nat.add_sub_cancel,List.drop_set_of_lt (by omega),hd1]) (by simp;omega)
   rw[List.append_assoc]at ih'
   have el:((U++[y]).length:Int)=((U.length+1:Nat):Int):=by simp
   rw[el]at ih'
   have inc:=inc_i (i:=U.length) (by omega)
   exact let ζ1:Heap:={boxes:=B0.set kk (List.map .str C),toks:=[],loops:=[]:Heap};let ζ2:Heap:={boxes:=B0.set kk (List.map .str (C.set U.length y)),toks:=[],loops:=[]:Heap};gG 90 _ hT (.len (rfl:lenA false (.msl kk k0 (n-k0) 1)=some (.int .i64 (↑(n-k0):Int)))<|.yes (dT ((↑(q+1):Int)<(↑(n-k0):Int)))<|.idx i1<|.effY l1<|.bin d1<|.idx i2<|.effY l2<|.yes (show(!y==prev)=true from by have hh:¬((y==prev)=true):=(by simpa using e);simp[hh])<|.idx i1<|.effY l1<|.idx i3<|.effY st<|.bin inc<|.bin (show binA .add (.int .i64 (↑(q+1):Int)) (.int .i64 1)=some (.int .i64 (↑(q+1+1):Int))from inc_i (by omega))<|.cutQ k228_1 [(0,.msl kk 0 n 1),(3,.int .i64 (↑(U.length+1):Int)),(4,.msl kk k0 (n-k0) 1),(5,.int .i64 (↑(q+1+1):Int))] (ζ2) (fun T hT=>(ih' T hT)))
theorem compact_loop1(hn:n<9223372036854775807)(hk0:kk<B0.length):∀(post:List (List UInt8))(m:Nat)(prev:List UInt8)(C:List (List UInt8))(hm:1≤m)(hC:C.length=n)(hd:C.drop (m-1)=prev::post)(hu:uq C=C.take m++uqG prev post)(T:Env)
 (hT:Has T [(0,.msl kk 0 n 1),(3,.int .i64 m)]),
 Goes cfg a228 k228_0 T ⟨B0.set kk (C.map .str),[],[]⟩ (RetC kk n B0 (uq C)):=by
 intro post
 induction post with
 |nil=>
  intro m prev C hm hC hd hu T hT
  have hlen:n-(m-1)=1:=by
   have:=congrArg List.length hd
   simpa[hC]using this
  have c1:binA .lss (.int .i64 (m:Nat)) (.int .i64 (n:Nat))=some (.bool false):=lssF (by omega)
  have e:uq C=C:=by
   rw[hu,List.take_of_length_le (by omega)];simp[uqG]
  rw[e]
  exact gG 60 _ hT (.len (rfl:lenA false (.msl kk 0 n 1)=some (.int .i64 ↑n))<|.no (dF ((↑m:Int)<(↑n:Int)))<|.fin ((.ret (.msl kk 0 n 1),{boxes:=B0.set kk (List.map .str C),toks:=[],loops:=[]:Heap})) (by exact⟨n,C,rfl,List.take_of_length_le (by omega),by omega,hC⟩))
 |cons y post ih=>
  intro m prev C hm hC hd hu T hT
  have hlen:n-(m-1)=post.length+2:=by
   have:=congrArg List.length hd
   simpa[hC]using this
  have hk:(B0.set kk (C.map AV.str))[kk]?=some (C.map .str):=by rw[List.getElem?_set_self hk0]
  have c1:binA .lss (.int .i64 (m:Nat)) (.int .i64 (n:Nat))=some (.bool true):=lssT (by omega)
  have hprev:C[m-1]?=some prev:=drop_at hd
  have hd1:C.drop m=y::post:=by
   have:=drop_next hd
   rwa [show m-1+1=m by omega]at this
  have hy:C[m]?=some y:=drop_at hd1
  obtain⟨q,rfl⟩:∃p,m=p+1:=⟨m-1,by omega⟩
  have i1:idxA 1 (.msl kk 0 n 1) (.int .i64 ((q+1:Nat):Int))=some (.ptr kk (q+1)):=by
   have:=idx_msl (k:=kk) (off:=0) (n:=n) (es:=1) (q:=.i64) (i:=q+1) (by omega)
   rwa [Nat.mul_one,Nat.zero_add]at this
  have i2:idxA 1 (.msl kk 0 n 1) (.int .i64 (q:Nat))=some (.ptr kk q):=by
   have:=idx_msl (k:=kk) (off:=0) (n:=n) (es:=1) (q:=.i64) (i:=q) (by omega)
   rwa [Nat.mul_one,Nat.zero_add]at this
  have l1:=does_load1 (tk:=[]) (ls:=[]) hk hy
  rw[Nat.add_sub_cancel]at hprev
  have l2:=does_load1 (tk:=[]) (ls:=[]) hk hprev
  have d1:=dec_i (i:=q) (by omega)
  by_cases e:y=prev
  ·have n1:binA .eql (.str y) (.str prev)=some (.bool true):=strEqT e
   have hg:uqG prev (y::post)=uqG prev post:=by simp[uqG,e]
   have s1:sliceA 1 (.msl kk 0 n 1) (some (.int .i64 ((q+1:Nat):Int))) none none=some (.msl kk (q+1) (n-(q+1)) 1):=by
    simp only[sliceA,sliceM,boundA]
    rw[if_neg (by omega)]
    rw[if_pos ⟨by omega,by omega⟩]
    simp only[Int.toNat_natCast]
    rw[if_pos (by omega)]
    simp
   have h2:=compact_loop2 kk n B0 hn hk0 (q+1) (by omega) post 1 (q+1+1) prev (C.take (q+1)) C rfl (by omega) hC (by simp[List.take_take]) (by rw[Nat.add_sub_cancel,hd1,e]) (by simp;omega)
   have el:((C.take (q+1)).length:Int)=((q+1:Nat):Int):=by
    rw[List.length_take,Nat.min_eq_left (by omega)]
   rw[el,←hg,←hu]at h2
   exact let ζ1:Heap:={boxes:=B0.set kk (List.map .str C),toks:=[],loops:=[]:Heap};gG 90 _ hT (.len (rfl:lenA false (.msl kk 0 n 1)=some (.int .i64 ↑n))<|.yes (dT ((↑(q+1):Int)<(↑n:Int)))<|.idx i1<|.effY l1<|.bin d1<|.idx i2<|.effY l2<|.yes (show(y==prev)=true from(by simpa using e))<|.slice s1<|.cutQ k228_1 [(0,.msl kk 0 n 1),(3,.int .i64 (↑(q+1):Int)),(4,.msl kk (q+1) (n-(q+1)) 1),(5,.int .i64 1)] (ζ1) (fun T hT=>(h2 T hT)))
  ·have n1:binA .eql (.str y) (.str prev)=some (.bool false):=strEqF e
   have hg:uqG prev (y::post)=y::uqG y post:=by simp[uqG,e]
   have ih':=ih (q+1+1) y C (by omega) hC (by rw[Nat.add_sub_cancel,hd1]) (by
    rw[hu,hg,List.take_add_one (i:=q+1),hy];simp)
   exact let ζ1:Heap:={boxes:=B0.set kk (List.map .str C),toks:=[],loops:=[]:Heap};gG 90 _ hT (.len (rfl:lenA false (.msl kk 0 n 1)=some (.int .i64 ↑n))<|.yes (dT ((↑(q+1):Int)<(↑n:Int)))<|.idx i1<|.effY l1<|.bin d1<|.idx i2<|.effY l2<|.no (show(y==prev)=false from Bool.eq_false_iff.2 (by simpa using e))<|.bin (show binA .add (.int .i64 (↑(q+1):Int)) (.int .i64 1)=some (.int .i64 (↑(q+1+1):Int))from inc_i (by omega))<|.cutQ k228_0 [(0,.msl kk 0 n 1),(3,.int .i64 (↑(q+1+1):Int))] (ζ1) (fun T hT=>(ih' T hT)))
theorem compact_any(hn:n<9223372036854775807)(hk0:kk<B0.length)(C:List (List UInt8))(hC:C.length=n)(h0:0<n):
 ∃(m:Nat)(C':List (List UInt8)),Does cfg (.callM (.c (.func 228 [])) [.c (.msl kk 0 n 1)]) ⟨B0.set kk (C.map .str),[],[]⟩ (.msl kk 0 m 1) ⟨B0.set kk (C'.map .str),[],[]⟩∧C'.take m=uq C∧m≤C'.length∧C'.length=n:=by
 have key:Goes cfg a228 [.c c228] (initEnv [.msl kk 0 n 1]) ⟨B0.set kk (C.map .str),[],[]⟩ (RetC kk n B0 (uq C)):=by
  by_cases h2:n<2
  ·obtain⟨x,rfl⟩:∃x,C=[x]:=by
    match C,hC with
    |[x],_=>exact⟨x,rfl⟩
    |[],h=>simp at h;omega
    |_::_::_,h=>simp at h;omega
   exact gG 60 [] trivial (.len (rfl:lenA false (.msl kk 0 n 1)=some (.int .i64 ↑n))<|.yes (dT ((↑n:Int)<(2:Int)))<|.fin ((.ret (.msl kk 0 n 1),{boxes:=B0.set kk (List.map .str [x]),toks:=[],loops:=[]:Heap})) (by exact⟨n,[x],rfl,by simp at hC;subst hC;rfl,by simpa using Nat.le_of_eq hC.symm,hC⟩))
  ·obtain⟨x,l,rfl⟩:∃x l,C=x::l:=by
    cases C with
    |nil=>simp at hC;omega
    |cons x l=>exact⟨x,l,rfl⟩
   have h1:=compact_loop1 kk n B0 hn hk0 l 1 x (x::l) (by omega) hC rfl rfl
   exact gG 60 [] trivial (.len (rfl:lenA false (.msl kk 0 n 1)=some (.int .i64 ↑n))<|.no (dF ((↑n:Int)<(2:Int)))<|.cutQ k228_0 [(0,.msl kk 0 n 1),(3,.int .i64 1)] ({boxes:=B0.set kk (List.map .str (x::l)),toks:=[],loops:=[]:Heap}) (fun T hT=>(h1 T hT)))
 obtain⟨r,h,m,C',rfl,h1,h2,h3⟩:=key
 refine⟨m,C',?_,h1,h2,h3⟩
 have h':lim cfg (.fn 228) [.msl kk 0 n 1] ⟨B0.set kk (C.map .str),[],[]⟩=some (.ret (.msl kk 0 m 1),⟨B0.set kk (C'.map .str),[],[]⟩):=by rw[l228];exact h
 have hd:=does_callM (xs:=[.msl kk 0 n 1]) h' rfl rfl
 rwa [show shutA (.msl kk 0 m 1)=.msl kk 0 m 1 from rfl,trunc_len (by simp)]at hd
end
end Go.Aa.T
set_option linter.unusedVariables false
set_option linter.unusedSimpArgs false
set_option maxRecDepth 100000
namespace Go.Aa.T
open Go.Aa Go.Proofs
def encV(v:List Amount):AV:=.sl .sh (v.map encA)
def allNames(vs:List (List Amount)):List (List UInt8):=vs.flatMap fun v=>v.map Amount.name
theorem allNames_cons(v:List Amount)(vs:List (List Amount)):allNames (v::vs)=v.map Amount.name++allNames vs:=rfl
def rM(kk:Nat):List (List UInt8)→AV
 |[]=>.sl .full []
 |_::l=>.msl kk 0 (l.length+1) 1
theorem strsA_map:∀l:List (List UInt8),strsA (l.map .str)=some l
 |[]=>rfl
 |s::l=>by simp[strsA,strsA_map l]
theorem sort_does{kk:Nat}{B:List (List AV)}{l:List (List UInt8)}(hk:B[kk]?=some (l.map .str))(h0:0<l.length)(hb:l.length≤140737488355328):
 Does cfg (.callM (.c (.func 227 [])) [.c (.msl kk 0 l.length 1)]) ⟨B,[],[]⟩ (.tuple []) ⟨B.set kk ((isort l).map .str),[],[]⟩:=by
 have h:lim cfg (.fn 227) [.msl kk 0 l.length 1] ⟨B,[],[]⟩=some (.ret (.tuple []),⟨B.set kk ((isort l).map .str),[],[]⟩):=by
  rw[lim_ext (g:=sortE) rfl rfl]
  have e:sortE [.msl kk 0 l.length 1] ⟨B,[],[]⟩=some (.tuple [],⟨B.set kk ((isort l).map .str),[],[]⟩):=by
   simp only[sortE,hk]
   rw[if_pos ⟨trivial,trivial,h0,by simp,hb⟩,List.take_of_length_le (by simp),strsA_map,List.drop_eq_nil_of_le (by simp)]
   simp
  rw[e];rfl
 have hd:=does_callM (xs:=[.msl kk 0 l.length 1]) h rfl rfl
 rwa [show shutA (.tuple [])=.tuple []from rfl,trunc_len (by simp)]at hd
theorem does_data{g:FuncId}{xs:List AV}{v:AV}(h:Gives cfg g xs v)(zs:List AV)(hx:zs.map shutA=xs)(hd:xs.all isData=true)(h1:shutA v=v)(h2:isData v=true)(H:Heap):
 Does cfg (.call (.c (.func g [])) (zs.map .c)) H v H∧Does cfg (.callM (.c (.func g [])) (zs.map .c)) H v H:=by
 obtain⟨H',h⟩:=h.ret
 constructor<;>intro T
 ·have e:(zs.map Opd.c).map (fun x=>shutA (ev T x))=xs:=by rw[List.map_map];exact hx
  simp only[opStep,e]
  rw[show ev T (.c (.func g []))=.func g []from rfl]
  simp only[callV,hd,List.all_nil,Bool.and_self,if_true,List.append_nil,h,dataOut,h1,h2]
 ·have e:(zs.map Opd.c).map (fun x=>shutA (ev T x))=xs:=by rw[List.map_map];exact hx
  simp only[opStep,e]
  rw[show ev T (.c (.func g []))=.func g []from rfl]
  simp only[callW,hd,List.all_nil,Bool.and_self,if_true,List.append_nil,h,h1,h2]
theorem sort_none:Gives cfg 227 [.sl .sh []] (.tuple []):=by
 have h:lim cfg (.fn 227) [.sl .sh []] Heap.nil=some (.ret (.tuple []),Heap.nil):=by rw[lim_ext (g:=sortE) rfl rfl];rfl
 exact Gives.of h
theorem compact_none:Gives cfg 228 [.sl .sh []] (.sl .sh []):=by
 refine Gives.run (l228 _ _) ?_
 exact gG 60 [] trivial (.len (show lenA false (.sl .sh [])=some (.int .i64 (↑[].length:Int))from len_sl _ _)<|.tt<|.fin ((.ret (.sl .sh []),{boxes:=[],toks:=[],loops:=[]:Heap})) rfl)
def FinN(acc:List (List UInt8)):ARes×Heap→Prop:=IsOut (.sl .sh ((namesOf acc).map .str))
theorem names_end(vs:List (List Amount))(acc:List (List UInt8))(B:List (List AV))(kk:Nat)(hB:acc=[]∨B[kk]?=some (acc.map .str))(hl:acc.length≤100000)(T:Env)(i:Nat)(hi:vs.length≤i)
 (hT:Has T [(3,rM kk acc),(8,.sl .sh (vs.map encV)),(9,.int .i64 vs.length),(10,.int .i64 i)]):Goes cfg a273 k273_0 T ⟨B,[],[]⟩ (FinN acc):=by
 cases acc with
 |nil=>
  have h1:=(does_data sort_none [.sl .full []] rfl rfl rfl rfl ⟨B,[],[]⟩).2
  have h2:=(does_data compact_none [.sl .full []] rfl rfl rfl rfl ⟨B,[],[]⟩).2
  exact let ζ1:Heap:={boxes:=B,toks:=[],loops:=[]:Heap};gG 60 _ hT (.no (dF ((↑i:Int)<(↑vs.length:Int)))<|.effY h1<|.effY h2<|.fin ((.ret (.sl .sh []),ζ1)) (by exact⟨_,rfl,rfl⟩))
 |cons x l=>
  have hk:B[kk]?=some ((x::l).map .str):=by simpa using hB
  have h1:=sort_does hk (by simp) (by omega)
  have hkl:kk<B.length:=(List.getElem?_eq_some_iff.1 hk).1
  obtain⟨m,C,h2,h3,h4,h5⟩:=compact_any kk (x::l).length B (by omega) hkl (isort (x::l)) (isort_length _) (by simp)
  rw[List.length_cons]at h1 h2 h5
  have hout:dataOut ⟨B.set kk (C.map .str),[],[]⟩ (.msl kk 0 m 1)=some (.sl .sh ((namesOf (x::l)).map .str)):=by
   have:=out_box1 (bs:=B.set kk (C.map .str)) (tk:=[]) (ls:=[]) (kk:=kk) (n:=m) (List.getElem?_set_self hkl) (by simpa using h4) (strs_data C)
   rw[this,←List.map_take,h3];rfl
  exact let ζ1:Heap:={boxes:=B.set kk (List.map .str (isort (x::l))),toks:=[],loops:=[]:Heap};let ζ2:Heap:={boxes:=B.set kk (List.map .str C),toks:=[],loops:=[]:Heap};gG 60 _ hT (.no (dF ((↑i:Int)<(↑vs.length:Int)))<|.effY h1<|.effY h2<|.fin ((.ret (.msl kk 0 m 1),ζ2)) (by exact⟨_,rfl,hout⟩))
theorem names_outer(vs:List (List Amount))(hv:vs.length≤100)(hs:∀v∈vs,v.length≤100):∀(post:List (List Amount))(i:Nat)(hd:vs.drop i=post)(hi:i≤vs.length)(acc:List (List UInt8))(B:List (List AV))(kk:Nat)(hB:acc=[]∨B[kk]?=some (acc.map .str))(hl:acc.length≤100*i)(T:Env)
 (hT:Has T [(3,rM kk acc),(8,.sl .sh (vs.map encV)),(9,.int .i64 vs.length),(10,.int .i64 i)]),Goes cfg a273 k273_0 T ⟨B,[],[]⟩ (FinN (acc++allNames post)):=by
 intro post
 induction post with
 |nil=>
  intro i hd hi acc B kk hB hl T hT
  have hge:=drop_ge hd
  rw[show acc++allNames []=acc by simp[allNames]]
  exact names_end vs acc B kk hB (by omega) T i hge hT
 |cons v post ih=>
  intro i hd hi acc B kk hB hl T hT
  have hlt:=drop_lt hd
  have hnx:=drop_next hd
  have hvl:=hs v (drop_mem hd)
  have hix:idxA 1 (.sl .sh (vs.map encV)) (.int .i64 (i:Nat))=some (.ref [encV v]):=idx_row (f:=encV) hd rfl
  have inner:∀(ip:List Amount)(j:Nat)(hj:v.drop j=ip)(hj0:j≤v.length)(acc:List (List UInt8))(B:List (List AV))(kk:Nat)(hB:acc=[]∨B[kk]?=some (acc.map .str))(hl:acc.length≤100*i+j)(T:Env)
   (hT:Has T [(3,rM kk acc),(8,.sl .sh (vs.map encV)),(9,.int .i64 vs.length),(10,.int .i64 i),(14,encV v),(15,.int .i64 v.length),(16,.int .i64 j)]),Goes cfg a273 k273_1 T ⟨B,[],[]⟩ (FinN (acc++(ip.map Amount.name++allNames post))):=by
   intro ip
   induction ip with
   |nil=>
    intro j hj hj0 acc B kk hB hl T hT
    have hge:=drop_ge hj
    have ih':=ih (i+1) hnx hlt acc B kk hB (by omega)
    rw[List.map_nil,List.nil_append]
    exact gG 60 _ hT (.no (dF ((↑j:Int)<(↑v.length:Int)))<|.bin (iI i)<|.cutQ k273_0 [(3,rM kk acc),(8,.sl .sh (vs.map encV)),(9,.int .i64 (↑vs.length)),(10,.int .i64 (↑(i+1)))] ({boxes:=B,toks:=[],loops:=[]:Heap}) (fun T hT=>(ih' T hT)))
   |cons x ip ihj=>
    intro j hj hj0 acc B kk hB hl T hT
    have hltj:=drop_lt hj
    have hnxj:=drop_next hj
    have hxi:idxA 2 (encV v) (.int .i64 (j:Nat))=some (.ref [.str x.name,.int .i64 x.n]):=idx_row (f:=encA) hj rfl
    have e:acc++((x::ip).map Amount.name++allNames post)=(acc++[x.name])++(ip.map Amount.name++allNames post):=by simp
    rw[e]
    cases acc with
    |nil=>
     have ap:=does_newB (es:=1) (b:=16) (B:=B++[(encA x).cells]) (tk:=[]) (ls:=[]) (v:=.str x.name) (sk:=.full) rfl rfl (by omega)
     have ih':=ihj (j+1) hnxj hltj [x.name] (B++[(encA x).cells]++[[AV.str x.name]]) (B++[(encA x).cells]).length (.inr (by simp)) (by simp;omega)
     exact let ζ1:Heap:={boxes:=B++[[AV.str x.name,.int .i64 x.n]],toks:=[],loops:=[]:Heap};gG 90 _ hT (.yes (dT ((↑j:Int)<(↑v.length:Int)))<|.idx hxi<|.load (rfl:loadA true 2 {boxes:=B,toks:=[],loops:=[]:Heap} (.ref [.str x.name,.int .i64 x.n])=some (.agg [.str x.name,.int .i64 x.n]))<|.store (show storeA 2 {boxes:=B++[[AV.str [],.int .i64 0]],toks:=[],loops:=[]:Heap} (.ptr B.length 0) (.agg [.str x.name,.int .i64 x.n])=some (ζ1)from store_box2 (cs:=[.str [],.int .i64 0]) (cs':=[.str x.name,.int .i64 x.n]) (by simp+zetaDelta) rfl (by simp+zetaDelta [List.set_append]))<|.load (lB false 1 ζ1 B.length 0 (.str x.name) [.str x.name,.int .i64 x.n])<|.effY ap<|.bin (iI j)<|.cutQ k273_1 [(3,.msl (B++[[AV.str x.name,.int .i64 x.n]]).length 0 1 1),(8,.sl .sh (vs.map encV)),(9,.int .i64 (↑vs.length)),(10,.int .i64 ↑i),(14,.sl .sh (v.map encA)),(15,.int .i64 (↑v.length)),(16,.int .i64 (↑(j+1):Int))] ({boxes:=B++[[AV.str x.name,.int .i64 x.n]]++[[AV.str x.name]],toks:=[],loops:=[]:Heap}) (fun T hT=>(ih' T hT)))
    |cons y l=>
     have hk:B[kk]?=some ((y::l).map .str):=by simpa using hB
     have hk2:(B++[(encA x).cells])[kk]?=some ((y::l).map .str):=by rw[List.getElem?_append_left (List.getElem?_eq_some_iff.1 hk).1,hk]
     have ap:=does_growB (es:=1) (b:=16) (n:=l.length+1) (tk:=[]) (ls:=[]) (v:=.str x.name) (sk:=.full) hk2 (by simp) (by omega) (strs_data _) rfl rfl (by simp at hl;omega)
     obtain⟨D,hD⟩:∃D,D=(y::l).map AV.str++(AV.str x.name).cells:=⟨_,rfl⟩
     rw[←hD]at ap
     have ih':=ihj (j+1) hnxj hltj ((y::l)++[x.name]) ((B++[(encA x).cells]).set kk []++[D]) (B++[(encA x).cells]).length (.inr (by
      rw[List.getElem?_append_right (by simp),hD];simp[AV.cells])) (by simp at hl⊢;omega)
     have er:rM (B++[(encA x).cells]).length ((y::l)++[x.name])=.msl (B++[(encA x).cells]).length 0 (l.length+1+1) 1:=by simp[rM]
     rw[er]at ih'
     exact let ζ1:Heap:={boxes:=(B++[(encA x).cells]).set kk []++[D],toks:=[],loops:=[]:Heap};let ζ2:Heap:={boxes:=B++[[AV.str x.name,.int .i64 x.n]],toks:=[],loops:=[]:Heap};gG 90 _ hT (.yes (dT ((↑j:Int)<(↑v.length:Int)))<|.idx hxi<|.load (rfl:loadA true 2 {boxes:=B,toks:=[],loops:=[]:Heap} (.ref [.str x.name,.int .i64 x.n])=some (.agg [.str x.name,.int .i64 x.n]))<|.store (show storeA 2 {boxes:=B++[[AV.str [],.int .i64 0]],toks:=[],loops:=[]:Heap} (.ptr B.length 0) (.agg [.str x.name,.int .i64 x.n])=some (ζ2)from store_box2 (cs:=[.str [],.int .i64 0]) (cs':=[.str x.name,.int .i64 x.n]) (by simp+zetaDelta) rfl (by simp+zetaDelta [List.set_append]))<|.load (lB false 1 ζ2 B.length 0 (.str x.name) [.str x.name,.int .i64 x.n])<|.effY ap<|.bin (iI j)<|.cutQ k273_1 [(3,.msl (B++[[AV.str x.name,.int .i64 x.n]]).length 0 (l.length+1+1) 1),(8,.sl .sh (vs.map encV)),(9,.int .i64 (↑vs.length)),(10,.int .i64 ↑i),(14,.sl .sh (v.map encA)),(15,.int .i64 (↑v.length)),(16,.int .i64 (↑(j+1):Int))] (ζ1) (fun T hT=>(ih' T hT)))
  have h2:=inner v 0 rfl (Nat.zero_le _) acc B kk hB (by omega)
  rw[allNames_cons]
  exact let ζ1:Heap:={boxes:=B,toks:=[],loops:=[]:Heap};gG 60 _ hT (.yes (dT ((↑i:Int)<(↑vs.length:Int)))<|.idx hix<|.load (rfl:loadA false 1 ζ1 (.ref [.sl .sh (v.map encA)])=some (.sl .sh (v.map encA)))<|.len (lM .sh encA v)<|.cutQ k273_1 [(3,rM kk acc),(8,.sl .sh (vs.map encV)),(9,.int .i64 (↑vs.length)),(10,.int .i64 ↑i),(14,.sl .sh (v.map encA)),(15,.int .i64 (↑v.length)),(16,.int .i64 0)] (ζ1) (fun T hT=>(h2 T hT)))
theorem names_any(vs:List (List Amount))(hv:vs.length≤100)(hs:∀v∈vs,v.length≤100):GivesF cfg 273 [.sl .sh (vs.map encV)] (.sl .sh ((namesOf (allNames vs)).map .str)):=by
 refine GivesF.run (l273 _ _) ?_
 have h:=names_outer vs hv hs vs 0 rfl (Nat.zero_le _) [] [] 0 (.inl rfl) (by simp)
 exact gG 60 [] trivial (.len (lM .sh encV vs)<|.cutQ k273_0 [(3,.sl .full []),(8,.sl .sh (vs.map encV)),(9,.int .i64 (↑vs.length)),(10,.int .i64 0)] ({boxes:=[],toks:=[],loops:=[]:Heap}) (fun T hT=>(h T hT)))
end Go.Aa.T
