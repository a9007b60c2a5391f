/-
  WHAT THE LAW LEANS ON, part 7 of 13: a machine of values and its soundness; the functions of the law upon it; what they come to.
-/
import Derived.Test.YthlhlfiklmmenaaGreatDoorYtwif
set_option linter.unusedVariables false
set_option linter.unusedSimpArgs false
set_option maxRecDepth 100000
namespace Go.Aa.T
open Go.Aa Go.Proofs
theorem _root_.Go.Aa.dT(p:Prop)[Decidable p](h:p:=by omega):decide p=true:=decide_eq_true h
theorem _root_.Go.Aa.dF(p:Prop)[Decidable p](h:¬p:=by omega):decide p=false:=decide_eq_false h
theorem _root_.Go.Aa.lM{X:Type}(k:SK)(f:X→AV)(l:List X):lenA false (.sl k (l.map f))=some (.int .i64 (l.length:Int)):=len_map _
theorem _root_.Go.Aa.iR{X:Type}{l post:List X}{x:X}{i:Nat}(es:Nat)(f:X→AV)(hd:l.drop i=x::post)(hc:cellsN es (f x)=true:=by rfl):idxA es (.sl .sh (l.map f)) (.int .i64 (i:Int))=some (.ref (f x).cells):=idx_row hd hc
theorem _root_.Go.Aa.iI(i:Nat)(h:i<9223372036854775807:=by omega):binA .add (.int .i64 (i:Int)) (.int .i64 1)=some (.int .i64 ((i+1:Nat):Int)):=inc_i h
theorem _root_.Go.Aa.lB(b:Bool)(n:Nat)(H:Heap)(k o:Nat)(v:AV)(cs:List AV)(h:H.boxes[k]?=some cs:=by simp+zetaDelta)(e:loadA b n ⟨[cs],[],[]⟩ (.ptr 0 o)=some v:=by rfl):loadA b n H (.ptr k o)=some v:=load_box h e
theorem _root_.Go.Aa.gG{cfg:Cfg}{A:AFunc}{R:ARes×Heap→Prop}{T:Env}{k:List AIt}{H:Heap}(n:Nat)(vs:List (Nat×AV))(hT:Has T vs)(s:ScrQ cfg A R)(e:uns s (fun s=>acts n k s (updL T vs) H)=claims s:=by kernel_rfl):Goes cfg A k T H R:=goG n vs hT s e
def few{α:Type}(f:α→List UInt8×List UInt8)(l:List α):Bool:=l.all fun x=>decide ((f x).1.length≤50)&&decide ((f x).2.length≤50)
def fewT(l:List Taint):Bool:=decide (l.length≤20)&&few (fun t=>(t.key,t.val)) l
def fewL(l:List Tol):Bool:=decide (l.length≤20)&&few (fun t=>(t.key,t.val)) l
theorem fewT_loop(l:List Taint)(hn:l.length≤20):∀(post:List Taint)(i:Nat)(hd:l.drop i=post)(T:Env)(hT:Has T [(0,.sl .sh (l.map encT)),(3,.int .i64 i)]),
 Goes cfg a205 k205_0 T Heap.nil (IsRet (.bool (few (fun t=>(t.key,t.val)) post))):=by
 intro post
 induction post with
 |nil=>
  intro i hd T hT
  have hge:=drop_ge hd
  exact gG 60 _ hT (.len (lM .sh encT l)<|.no (dF ((↑i:Int)<(↑l.length:Int)))<|.fin ((.ret (.bool true),{boxes:=[],toks:=[],loops:=[]:Heap})) rfl)
 |cons x post ih=>
  intro i hd T hT
  have hlt:=drop_lt hd
  have hnx:=drop_next hd
  exact let ζ1:Heap:={boxes:=[],toks:=[],loops:=[]:Heap};gG 60 _ hT (.len (lM .sh encT l)<|.yes (dT ((↑i:Int)<(↑l.length:Int)))<|.idx (iR 3 encT hd)<|.len (show lenA true (.str x.key)=some (.int .i64 (↑x.key.length))from len_str _)<|.split ((50:Int)<(↑x.key.length:Int)) (fun h1=>.yes (dT ((50:Int)<(↑x.key.length:Int)) h1)<|.tt<|.fin ((.ret (.bool false),ζ1)) (by simp only[IsRet];grind[few])) (fun h1=>.no (dF ((50:Int)<(↑x.key.length:Int)) h1)<|.idx (iR 3 encT hd)<|.len (show lenA true (.str x.val)=some (.int .i64 (↑x.val.length))from len_str _)<|.split ((50:Int)<(↑x.val.length:Int)) (fun h2=>.yes (dT ((50:Int)<(↑x.val.length:Int)) h2)<|.fin ((.ret (.bool false),ζ1)) (by simp only[IsRet];grind[few])) (fun h2=>.no (dF ((50:Int)<(↑x.val.length:Int)) h2)<|.bin (iI i)<|.cutQ k205_0 [(0,.sl .sh (l.map encT)),(3,.int .i64 (↑(i+1)))] (ζ1) (fun T hT=>(ih (i+1) hnx T hT).to (by grind[few])))))
theorem fewL_loop(l:List Tol)(hn:l.length≤20):∀(post:List Tol)(i:Nat)(hd:l.drop i=post)(T:Env)(hT:Has T [(0,.sl .sh (l.map encL)),(3,.int .i64 i)]),
 Goes cfg a206 k206_0 T Heap.nil (IsRet (.bool (few (fun t=>(t.key,t.val)) post))):=by
 intro post
 induction post with
 |nil=>
  intro i hd T hT
  have hge:=drop_ge hd
  exact gG 60 _ hT (.len (lM .sh encL l)<|.no (dF ((↑i:Int)<(↑l.length:Int)))<|.fin ((.ret (.bool true),{boxes:=[],toks:=[],loops:=[]:Heap})) rfl)
 |cons x post ih=>
  intro i hd T hT
  have hlt:=drop_lt hd
  have hnx:=drop_next hd
  exact let ζ1:Heap:={boxes:=[],toks:=[],loops:=[]:Heap};gG 60 _ hT (.len (lM .sh encL l)<|.yes (dT ((↑i:Int)<(↑l.length:Int)))<|.idx (iR 3 encL hd)<|.len (show lenA true (.str x.key)=some (.int .i64 (↑x.key.length))from len_str _)<|.split ((50:Int)<(↑x.key.length:Int)) (fun h1=>.yes (dT ((50:Int)<(↑x.key.length:Int)) h1)<|.tt<|.fin ((.ret (.bool false),ζ1)) (by simp only[IsRet];grind[few])) (fun h1=>.no (dF ((50:Int)<(↑x.key.length:Int)) h1)<|.idx (iR 3 encL hd)<|.len (show lenA true (.str x.val)=some (.int .i64 (↑x.val.length))from len_str _)<|.split ((50:Int)<(↑x.val.length:Int)) (fun h2=>.yes (dT ((50:Int)<(↑x.val.length:Int)) h2)<|.fin ((.ret (.bool false),ζ1)) (by simp only[IsRet];grind[few])) (fun h2=>.no (dF ((50:Int)<(↑x.val.length:Int)) h2)<|.bin (iI i)<|.cutQ k206_0 [(0,.sl .sh (l.map encL)),(3,.int .i64 (↑(i+1)))] (ζ1) (fun T hT=>(ih (i+1) hnx T hT).to (by grind[few])))))
theorem fewT_any(l:List Taint):Gives cfg 205 [.sl .sh (l.map encT)] (.bool (fewT l)):=by
 refine Gives.run (l205 _ _) ?_
 have h:=fun hn=>fewT_loop l hn l 0 rfl
 exact let ζ1:Heap:={boxes:=[],toks:=[],loops:=[]:Heap};gG 60 [] trivial (.len (lM .sh encT l)<|.split ((20:Int)<(↑l.length:Int)) (fun h1=>.yes (dT ((20:Int)<(↑l.length:Int)) h1)<|.fin ((.ret (.bool false),ζ1)) (by simp only[IsRet];grind[fewT])) (fun h1=>.no (dF ((20:Int)<(↑l.length:Int)) h1)<|.cutQ k205_0 [(0,.sl .sh (l.map encT)),(3,.int .i64 0)] (ζ1) (fun T hT=>(h (by omega) T hT).to (by grind[fewT]))))
theorem fewL_any(l:List Tol):Gives cfg 206 [.sl .sh (l.map encL)] (.bool (fewL l)):=by
 refine Gives.run (l206 _ _) ?_
 have h:=fun hn=>fewL_loop l hn l 0 rfl
 exact let ζ1:Heap:={boxes:=[],toks:=[],loops:=[]:Heap};gG 60 [] trivial (.len (lM .sh encL l)<|.split ((20:Int)<(↑l.length:Int)) (fun h1=>.yes (dT ((20:Int)<(↑l.length:Int)) h1)<|.fin ((.ret (.bool false),ζ1)) (by simp only[IsRet];grind[fewL])) (fun h1=>.no (dF ((20:Int)<(↑l.length:Int)) h1)<|.cutQ k206_0 [(0,.sl .sh (l.map encL)),(3,.int .i64 0)] (ζ1) (fun T hT=>(h (by omega) T hT).to (by grind[fewL]))))
theorem ofT_loop(l:List Taint)(hn:l.length≤20):∀(post:List Taint)(i:Nat)(acc:List AV)(hd:l.drop i=post)(ha:acc.length=i)(hl:lenOk 3 acc=true)(T:Env)(hT:Has T [(0,.sl .sh (l.map encT)),(3,rowS Heap.nil acc),(4,.int .i64 i)]),
 Goes cfg a212 k212_0 T (rowH Heap.nil acc) (IsRet (rowS Heap.nil (acc++post.map encT))):=by
 intro post
 induction post with
 |nil=>
  intro i acc hd ha hl T hT
  have hge:=drop_ge hd
  exact gG 60 _ hT (.len (lM .sh encT l)<|.no (dF ((↑i:Int)<(↑l.length:Int)))<|.fin ((.ret (setD (setD (setD (setD (setD (setD (updL T [(0,.sl .sh (l.map encT)),(3,rowS Heap.nil acc),(4,.int .i64 ↑i)]) (some 5) (ev (updL T [(0,.sl .sh (l.map encT)),(3,rowS Heap.nil acc),(4,.int .i64 ↑i)]) (.t 4))) (some 6) (ev (setD (updL T [(0,.sl .sh (l.map encT)),(3,rowS Heap.nil acc),(4,.int .i64 ↑i)]) (some 5) (ev (updL T [(0,.sl .sh (l.map encT)),(3,rowS Heap.nil acc),(4,.int .i64 ↑i)]) (.t 4))) (.t 0))) (some 7) (.int .i64 (↑l.length))) (some 8) (.bool (decide ((↑i:Int)<(↑l.length:Int))))) (some 30) (ev (setD (setD (setD (setD (updL T [(0,.sl .sh (l.map encT)),(3,rowS Heap.nil acc),(4,.int .i64 ↑i)]) (some 5) (ev (updL T [(0,.sl .sh (l.map encT)),(3,rowS Heap.nil acc),(4,.int .i64 ↑i)]) (.t 4))) (some 6) (ev (setD (updL T [(0,.sl .sh (l.map encT)),(3,rowS Heap.nil acc),(4,.int .i64 ↑i)]) (some 5) (ev (updL T [(0,.sl .sh (l.map encT)),(3,rowS Heap.nil acc),(4,.int .i64 ↑i)]) (.t 4))) (.t 0))) (some 7) (.int .i64 (↑l.length))) (some 8) (.bool (decide ((↑i:Int)<(↑l.length:Int))))) (.t 3))) (some 2) (ev (setD (setD (setD (setD (setD (updL T [(0,.sl .sh (l.map encT)),(3,rowS Heap.nil acc),(4,.int .i64 ↑i)]) (some 5) (ev (updL T [(0,.sl .sh (l.map encT)),(3,rowS Heap.nil acc),(4,.int .i64 ↑i)]) (.t 4))) (some 6) (ev (setD (updL T [(0,.sl .sh (l.map encT)),(3,rowS Heap.nil acc),(4,.int .i64 ↑i)]) (some 5) (ev (updL T [(0,.sl .sh (l.map encT)),(3,rowS Heap.nil acc),(4,.int .i64 ↑i)]) (.t 4))) (.t 0))) (some 7) (.int .i64 (↑l.length))) (some 8) (.bool (decide ((↑i:Int)<(↑l.length:Int))))) (some 30) (ev (setD (setD (setD (setD (updL T [(0,.sl .sh (l.map encT)),(3,rowS Heap.nil acc),(4,.int .i64 ↑i)]) (some 5) (ev (updL T [(0,.sl .sh (l.map encT)),(3,rowS Heap.nil acc),(4,.int .i64 ↑i)]) (.t 4))) (some 6) (ev (setD (updL T [(0,.sl .sh (l.map encT)),(3,rowS Heap.nil acc),(4,.int .i64 ↑i)]) (some 5) (ev (updL T [(0,.sl .sh (l.map encT)),(3,rowS Heap.nil acc),(4,.int .i64 ↑i)]) (.t 4))) (.t 0))) (some 7) (.int .i64 (↑l.length))) (some 8) (.bool (decide ((↑i:Int)<(↑l.length:Int))))) (.t 3))) (.t 30)) 2),rowH Heap.nil acc)) (by simp only[IsRet,List.map_nil,List.append_nil];rfl))
 |cons x post ih=>
  intro i acc hd ha hl T hT
  have hlt:=drop_lt hd
  have hnx:=drop_next hd
  exact gG 60 _ hT (.len (lM .sh encT l)<|.yes (dT ((↑i:Int)<(↑l.length:Int)) (by simp;omega))<|.idx (iR 3 encT hd)<|.load (rfl:loadA false 1 (rowH Heap.nil acc) (.ref [.str x.key])=some (.str x.key))<|.idx (iR 3 encT hd)<|.load (rfl:loadA false 1 (rowH Heap.nil acc) (.ref [.str x.val])=some (.str x.val))<|.idx (iR 3 encT hd)<|.load (rfl:loadA false 1 (rowH Heap.nil acc) (.ref [.bool x.hard])=some (.bool x.hard))<|.append (show appendA 3 40 (rowH Heap.nil acc) (rowS Heap.nil acc) (.sl .full [.agg [.str x.key,.str x.val,.bool x.hard]])=some ((rowS Heap.nil (acc++[AV.agg [.str x.key,.str x.val,.bool x.hard]]),rowH Heap.nil (acc++[AV.agg [.str x.key,.str x.val,.bool x.hard]])))from row_append (by omega) hl (by rfl) (by rfl))<|.bin (iI i)<|.cutQ k212_0 [(0,.sl .sh (l.map encT)),(3,rowS Heap.nil (acc++[AV.agg [.str x.key,.str x.val,.bool x.hard]])),(4,.int .i64 (↑(i+1)))] (rowH Heap.nil (acc++[AV.agg [.str x.key,.str x.val,.bool x.hard]])) (fun T hT=>(ih (i+1) (acc++[AV.agg [.str x.key,.str x.val,.bool x.hard]]) hnx (by simp;omega) (by exact lenOk_snoc (by assumption) rfl) T hT).to (by simp[encT,Taint.cells])))
theorem ofL_loop(l:List Tol)(hn:l.length≤20):∀(post:List Tol)(i:Nat)(acc:List AV)(hd:l.drop i=post)(ha:acc.length=i)(hl:lenOk 3 acc=true)(T:Env)(hT:Has T [(0,.sl .sh (l.map encL)),(3,rowS Heap.nil acc),(4,.int .i64 i)]),
 Goes cfg a199 k199_0 T (rowH Heap.nil acc) (IsRet (rowS Heap.nil (acc++post.map encL))):=by
 intro post
 induction post with
 |nil=>
  intro i acc hd ha hl T hT
  have hge:=drop_ge hd
  exact gG 60 _ hT (.len (lM .sh encL l)<|.no (dF ((↑i:Int)<(↑l.length:Int)))<|.fin ((.ret (setD (setD (setD (setD (setD (setD (updL T [(0,.sl .sh (l.map encL)),(3,rowS Heap.nil acc),(4,.int .i64 ↑i)]) (some 5) (ev (updL T [(0,.sl .sh (l.map encL)),(3,rowS Heap.nil acc),(4,.int .i64 ↑i)]) (.t 4))) (some 6) (ev (setD (updL T [(0,.sl .sh (l.map encL)),(3,rowS Heap.nil acc),(4,.int .i64 ↑i)]) (some 5) (ev (updL T [(0,.sl .sh (l.map encL)),(3,rowS Heap.nil acc),(4,.int .i64 ↑i)]) (.t 4))) (.t 0))) (some 7) (.int .i64 (↑l.length))) (some 8) (.bool (decide ((↑i:Int)<(↑l.length:Int))))) (some 30) (ev (setD (setD (setD (setD (updL T [(0,.sl .sh (l.map encL)),(3,rowS Heap.nil acc),(4,.int .i64 ↑i)]) (some 5) (ev (updL T [(0,.sl .sh (l.map encL)),(3,rowS Heap.nil acc),(4,.int .i64 ↑i)]) (.t 4))) (some 6) (ev (setD (updL T [(0,.sl .sh (l.map encL)),(3,rowS Heap.nil acc),(4,.int .i64 ↑i)]) (some 5) (ev (updL T [(0,.sl .sh (l.map encL)),(3,rowS Heap.nil acc),(4,.int .i64 ↑i)]) (.t 4))) (.t 0))) (some 7) (.int .i64 (↑l.length))) (some 8) (.bool (decide ((↑i:Int)<(↑l.length:Int))))) (.t 3))) (some 2) (ev (setD (setD (setD (setD (setD (updL T [(0,.sl .sh (l.map encL)),(3,rowS Heap.nil acc),(4,.int .i64 ↑i)]) (some 5) (ev (updL T [(0,.sl .sh (l.map encL)),(3,rowS Heap.nil acc),(4,.int .i64 ↑i)]) (.t 4))) (some 6) (ev (setD (updL T [(0,.sl .sh (l.map encL)),(3,rowS Heap.nil acc),(4,.int .i64 ↑i)]) (some 5) (ev (updL T [(0,.sl .sh (l.map encL)),(3,rowS Heap.nil acc),(4,.int .i64 ↑i)]) (.t 4))) (.t 0))) (some 7) (.int .i64 (↑l.length))) (some 8) (.bool (decide ((↑i:Int)<(↑l.length:Int))))) (some 30) (ev (setD (setD (setD (setD (updL T [(0,.sl .sh (l.map encL)),(3,rowS Heap.nil acc),(4,.int .i64 ↑i)]) (some 5) (ev (updL T [(0,.sl .sh (l.map encL)),(3,rowS Heap.nil acc),(4,.int .i64 ↑i)]) (.t 4))) (some 6) (ev (setD (updL T [(0,.sl .sh (l.map encL)),(3,rowS Heap.nil acc),(4,.int .i64 ↑i)]) (some 5) (ev (updL T [(0,.sl .sh (l.map encL)),(3,rowS Heap.nil acc),(4,.int .i64 ↑i)]) (.t 4))) (.t 0))) (some 7) (.int .i64 (↑l.length))) (some 8) (.bool (decide ((↑i:Int)<(↑l.length:Int))))) (.t 3))) (.t 30)) 2),rowH Heap.nil acc)) (by simp only[IsRet,List.map_nil,List.append_nil];rfl))
 |cons x post ih=>
  intro i acc hd ha hl T hT
  have hlt:=drop_lt hd
  have hnx:=drop_next hd
  exact gG 60 _ hT (.len (lM .sh encL l)<|.yes (dT ((↑i:Int)<(↑l.length:Int)) (by simp;omega))<|.idx (iR 3 encL hd)<|.load (rfl:loadA false 1 (rowH Heap.nil acc) (.ref [.str x.key])=some (.str x.key))<|.idx (iR 3 encL hd)<|.load (rfl:loadA false 1 (rowH Heap.nil acc) (.ref [.str x.val])=some (.str x.val))<|.idx (iR 3 encL hd)<|.load (rfl:loadA false 1 (rowH Heap.nil acc) (.ref [.bool x.any])=some (.bool x.any))<|.append (show appendA 3 40 (rowH Heap.nil acc) (rowS Heap.nil acc) (.sl .full [.agg [.str x.key,.str x.val,.bool x.any]])=some ((rowS Heap.nil (acc++[AV.agg [.str x.key,.str x.val,.bool x.any]]),rowH Heap.nil (acc++[AV.agg [.str x.key,.str x.val,.bool x.any]])))from row_append (by omega) hl (by rfl) (by rfl))<|.bin (iI i)<|.cutQ k199_0 [(0,.sl .sh (l.map encL)),(3,rowS Heap.nil (acc++[AV.agg [.str x.key,.str x.val,.bool x.any]])),(4,.int .i64 (↑(i+1)))] (rowH Heap.nil (acc++[AV.agg [.str x.key,.str x.val,.bool x.any]])) (fun T hT=>(ih (i+1) (acc++[AV.agg [.str x.key,.str x.val,.bool x.any]]) hnx (by simp;omega) (by exact lenOk_snoc (by assumption) rfl) T hT).to (by simp[encL,Tol.cells])))
theorem ofT_any(l:List Taint)(hn:l.length≤20):Gives cfg 212 [.sl .sh (l.map encT)] (rowS Heap.nil (l.map encT)):=by
 refine Gives.run (l212 _ _) ?_
 have h:=ofT_loop l hn l 0 [] rfl rfl rfl
 exact gG 60 [] trivial (.cutQ k212_0 [(0,.sl .sh (l.map encT)),(3,.sl .full []),(4,.int .i64 0)] ({boxes:=[],toks:=[],loops:=[]:Heap}) (fun T hT=>(h T hT)))
theorem ofL_any(l:List Tol)(hn:l.length≤20):Gives cfg 199 [.sl .sh (l.map encL)] (rowS Heap.nil (l.map encL)):=by
 refine Gives.run (l199 _ _) ?_
 have h:=ofL_loop l hn l 0 [] rfl rfl rfl
 exact gG 60 [] trivial (.cutQ k199_0 [(0,.sl .sh (l.map encL)),(3,.sl .full []),(4,.int .i64 0)] ({boxes:=[],toks:=[],loops:=[]:Heap}) (fun T hT=>(h T hT)))
def nameCh(c:UInt8):Bool:=(decide (97≤c.toNat)&&decide (c.toNat≤122))||(decide (48≤c.toNat)&&decide (c.toNat≤57))
def isName(s:List UInt8):Bool:=decide (1≤s.length)&&decide (s.length≤12)&&s.all nameCh
theorem name_loop(s:List UInt8)(hn:s.length≤12):∀(post:List UInt8)(i:Nat)(hd:s.drop i=post)(T:Env)(hT:Has T [(0,.str s),(3,.int .i64 i)]),
 Goes cfg a259 k259_0 T Heap.nil (IsRet (.bool (post.all nameCh))):=by
 intro post
 induction post with
 |nil=>
  intro i hd T hT
  have hge:=drop_ge hd
  exact gG 60 _ hT (.len (show lenA true (.str s)=some (.int .i64 (↑s.length))from len_str _)<|.no (dF ((↑i:Int)<(↑s.length:Int)))<|.fin ((.ret (.bool true),{boxes:=[],toks:=[],loops:=[]:Heap})) rfl)
 |cons x post ih=>
  intro i hd T hT
  have hlt:=drop_lt hd
  have hnx:=drop_next hd
  exact let ζ1:Heap:={boxes:=[],toks:=[],loops:=[]:Heap};gG 60 _ hT (.len (show lenA true (.str s)=some (.int .i64 (↑s.length))from len_str _)<|.yes (dT ((↑i:Int)<(↑s.length:Int)))<|.idxs (show idxsA (.str s) (.int .i64 ↑i)=some (.int .u8 (↑x.toNat))from idx_str hd)<|.split ((↑x.toNat:Int)<(97:Int)) (fun h1=>.yes (dT ((↑x.toNat:Int)<(97:Int)) h1)<|.tt<|.idxs (show idxsA (.str s) (.int .i64 ↑i)=some (.int .u8 (↑x.toNat))from idx_str hd)<|.split ((↑x.toNat:Int)<(48:Int)) (fun h2=>.yes (dT ((↑x.toNat:Int)<(48:Int)) h2)<|.tt<|.fin ((.ret (.bool false),ζ1)) (by simp only[IsRet];grind[nameCh])) (fun h2=>.no (dF ((↑x.toNat:Int)<(48:Int)) h2)<|.idxs (show idxsA (.str s) (.int .i64 ↑i)=some (.int .u8 (↑x.toNat))from idx_str hd)<|.split ((57:Int)<(↑x.toNat:Int)) (fun h3=>.yes (dT ((57:Int)<(↑x.toNat:Int)) h3)<|.fin ((.ret (.bool false),ζ1)) (by simp only[IsRet];grind[nameCh])) (fun h3=>.no (dF ((57:Int)<(↑x.toNat:Int)) h3)<|.bin (iI i)<|.cutQ k259_0 [(0,.str s),(3,.int .i64 (↑(i+1)))] (ζ1) (fun T hT=>(ih (i+1) hnx T hT).to (by grind[nameCh]))))) (fun h1=>.no (dF ((↑x.toNat:Int)<(97:Int)) h1)<|.idxs (show idxsA (.str s) (.int .i64 ↑i)=some (.int .u8 (↑x.toNat))from idx_str hd)<|.split ((122:Int)<(↑x.toNat:Int)) (fun h2=>.yes (dT ((122:Int)<(↑x.toNat:Int)) h2)<|.idxs (show idxsA (.str s) (.int .i64 ↑i)=some (.int .u8 (↑x.toNat))from idx_str hd)<|.no (dF ((↑x.toNat:Int)<(48:Int)))<|.idxs (show idxsA (.str s) (.int .i64 ↑i)=some (.int .u8 (↑x.toNat))from idx_str hd)<|.yes (dT ((57:Int)<(↑x.toNat:Int)))<|.fin ((.ret (.bool false),ζ1)) (by simp only[IsRet];grind[nameCh])) (fun h2=>.no (dF ((122:Int)<(↑x.toNat:Int)) h2)<|.ff<|.bin (iI i)<|.cutQ k259_0 [(0,.str s),(3,.int .i64 (↑(i+1)))] (ζ1) (fun T hT=>(ih (i+1) hnx T hT).to (by grind[nameCh])))))
theorem name_any(s:List UInt8):Gives cfg 259 [.str s] (.bool (isName s)):=by
 refine Gives.run (l259 _ _) ?_
 have h:=fun hn=>name_loop s hn s 0 rfl
 exact let ζ1:Heap:={boxes:=[],toks:=[],loops:=[]:Heap};gG 60 [] trivial (.len (show lenA true (.str s)=some (.int .i64 (↑s.length))from len_str _)<|.split ((↑s.length:Int)<(1:Int)) (fun h1=>.yes (dT ((↑s.length:Int)<(1:Int)) h1)<|.tt<|.fin ((.ret (.bool false),ζ1)) (by simp only[IsRet];grind[isName])) (fun h1=>.no (dF ((↑s.length:Int)<(1:Int)) h1)<|.len (show lenA true (.str s)=some (.int .i64 (↑s.length))from len_str _)<|.split ((12:Int)<(↑s.length:Int)) (fun h2=>.yes (dT ((12:Int)<(↑s.length:Int)) h2)<|.fin ((.ret (.bool false),ζ1)) (by simp only[IsRet];grind[isName])) (fun h2=>.no (dF ((12:Int)<(↑s.length:Int)) h2)<|.cutQ k259_0 [(0,.str s),(3,.int .i64 0)] (ζ1) (fun T hT=>(h (by omega) T hT).to (by grind[isName])))))
def noT:Taint:=⟨[],[],false⟩
def worstV(o:Option Taint):AV:=.tuple [encT (o.getD noT),.bool o.isSome]
end Go.Aa.T
set_option linter.unusedVariables false
set_option linter.unusedSimpArgs false
set_option maxRecDepth 100000
namespace Go.Aa.T
open Go.Aa Go.Proofs
def _root_.Go.Aa.ScrQ.callI{cfg:Cfg}{A:AFunc}{R:ARes×Heap→Prop}{ys:List AV}{g:FuncId}{v:AV}(h:Gives cfg g ys v)(s:ScrQ cfg A R)(hx:ys.map shut2=ys∧ys.all data2=true:=by exact⟨rfl,rfl⟩)(hv:shutA v=v∧isData v=true:=by exact⟨rfl,rfl⟩):ScrQ cfg A R:=.callG ys v h hx hv s
def _root_.Go.Aa.ScrQ.callK{cfg:Cfg}{A:AFunc}{R:ARes×Heap→Prop}(xs:List AV){ys:List AV}{g:FuncId}{v:AV}(w:AV)(h:Gives cfg g ys v)(s:ScrQ cfg A R)(hx:xs.map shut2=ys∧ys.all data2=true:=by exact⟨rfl,rfl⟩)(hv:shutA v=w∧isData w=true:=by exact⟨rfl,rfl⟩):ScrQ cfg A R:=.callG xs w h hx hv s
def same(x y:Taint):Bool:=decide (y.key=x.key)&&decide (y.val=x.val)
def ckTl(l:List Taint):Nat→List Taint→Int
 |_,[]=>0
 |i,x::post=>if isName x.key&&isName x.val then(if(l.take i).any (same x)then 6 else ckTl l (i+1) post)else 3
def ckT(l:List Taint):Int:=if l.length≤8 then ckTl l 0 l else 4
theorem ckT_loop(l:List Taint)(hn:l.length≤8):∀(post:List Taint)(i:Nat)(hd:l.drop i=post)(T:Env)(hT:Has T [(0,.sl .sh (l.map encT)),(3,.int .i64 i)]),
 Goes cfg a262 k262_0 T Heap.nil (IsRet (.int .i64 (ckTl l i post))):=by
 intro post
 induction post with
 |nil=>
  intro i hd T hT
  have hge:=drop_ge hd
  exact gG 60 _ hT (.len (lM .sh encT l)<|.no (dF ((↑i:Int)<(↑l.length:Int)))<|.fin ((.ret (.int .i64 0),{boxes:=[],toks:=[],loops:=[]:Heap})) rfl)
 |cons x post ih=>
  intro i hd T hT
  have hlt:=drop_lt hd
  have hnx:=drop_next hd
  have hx:=drop_at hd
  have inner:∀(q:List Taint)(k:Nat)(hk:(l.take i).drop k=q)(T:Env)(hT:Has T [(0,.sl .sh (l.map encT)),(3,.int .i64 i),(4,.int .i64 k)]),
   Goes cfg a262 k262_1 T Heap.nil (IsRet (.int .i64 (if q.any (same x)then 6 else ckTl l (i+1) post))):=by
   intro q
   induction q with
   |nil=>
    intro k hk T hT
    have hge:i≤k:=by have:=drop_ge hk;simp at this;omega
    exact gG 60 _ hT (.no (dF ((↑k:Int)<(↑i:Int)))<|.bin (iI i)<|.cutQ k262_0 [(0,.sl .sh (l.map encT)),(3,.int .i64 (↑(i+1)))] ({boxes:=[],toks:=[],loops:=[]:Heap}) (fun T hT=>(ih (i+1) hnx T hT)))
   |cons y q ih2=>
    intro k hk T hT
    have hlt2:k<i:=by have:=drop_lt hk;simp at this;omega
    have hnx2:=drop_next hk
    have hy:l[k]?=some y:=by have:=drop_at hk;rw[List.getElem?_take]at this;simpa[hlt2]using this
    exact let ζ1:Heap:={boxes:=[],toks:=[],loops:=[]:Heap};gG 60 _ hT (.yes (dT ((↑k:Int)<(↑i:Int)))<|.idx (show idxA 3 (.sl .sh (l.map encT)) (.int .i64 ↑k)=some (.ref (encT y).cells)from idx_get hy (by rfl))<|.idx (iR 3 encT hd)<|.split ((y.key==x.key)=true) (fun h1=>.yes (show(y.key==x.key)=true from h1)<|.idx (show idxA 3 (.sl .sh (l.map encT)) (.int .i64 ↑k)=some (.ref (encT y).cells)from idx_get hy (by rfl))<|.idx (iR 3 encT hd)<|.split ((y.val==x.val)=true) (fun h2=>.yes (show(y.val==x.val)=true from h2)<|.fin ((.ret (.int .i64 6),ζ1)) (by simp only[IsRet];grind[same])) (fun h2=>.no (show(y.val==x.val)=false from Bool.eq_false_iff.2 h2)<|.bin (iI k)<|.cutQ k262_1 [(0,.sl .sh (l.map encT)),(3,.int .i64 ↑i),(4,.int .i64 (↑(k+1):Int))] (ζ1) (fun T hT=>(ih2 (k+1) hnx2 T hT).to (by grind[same])))) (fun h1=>.no (show(y.key==x.key)=false from Bool.eq_false_iff.2 h1)<|.ff<|.bin (iI k)<|.cutQ k262_1 [(0,.sl .sh (l.map encT)),(3,.int .i64 ↑i),(4,.int .i64 (↑(k+1):Int))] (ζ1) (fun T hT=>(ih2 (k+1) hnx2 T hT).to (by grind[same]))))
  have inner0:=inner (l.take i) 0 rfl
  exact let ζ1:Heap:={boxes:=[],toks:=[],loops:=[]:Heap};gG 60 _ hT (.len (lM .sh encT l)<|.yes (dT ((↑i:Int)<(↑l.length:Int)))<|.idx (iR 3 encT hd)<|.callK ([.str x.key]) (.bool (isName x.key)) (show Gives cfg 259 [.str x.key] (.bool (isName x.key))from name_any _)<|.split (isName x.key=true) (fun h1=>.no (show(!isName x.key)=false from by have hh:isName x.key=true:=h1;simp[hh])<|.idx (iR 3 encT hd)<|.callK ([.str x.val]) (.bool (isName x.val)) (show Gives cfg 259 [.str x.val] (.bool (isName x.val))from name_any _)<|.split (isName x.val=true) (fun h2=>.no (show(!isName x.val)=false from by have hh:isName x.val=true:=h2;simp[hh])<|.cutQ k262_1 [(0,.sl .sh (l.map encT)),(3,.int .i64 ↑i),(4,.int .i64 0)] (ζ1) (fun T hT=>(inner0 T hT).to (by grind[ckTl]))) (fun h2=>.yes (show(!isName x.val)=true from by have hh:¬(isName x.val=true):=h2;simp[hh])<|.fin ((.ret (.int .i64 3),ζ1)) (by simp only[IsRet];grind[ckTl]))) (fun h1=>.yes (show(!isName x.key)=true from by have hh:¬(isName x.key=true):=h1;simp[hh])<|.tt<|.fin ((.ret (.int .i64 3),ζ1)) (by simp only[IsRet];grind[ckTl])))
theorem ckT_any(l:List Taint):Gives cfg 262 [.sl .sh (l.map encT)] (.int .i64 (ckT l)):=by
 refine Gives.run (l262 _ _) ?_
 have h:=fun hn=>ckT_loop l hn l 0 rfl
 exact let ζ1:Heap:={boxes:=[],toks:=[],loops:=[]:Heap};gG 60 [] trivial (.len (lM .sh encT l)<|.split ((8:Int)<(↑l.length:Int)) (fun h1=>.yes (dT ((8:Int)<(↑l.length:Int)) h1)<|.fin ((.ret (.int .i64 4),ζ1)) (by simp only[IsRet];grind[ckT])) (fun h1=>.no (dF ((8:Int)<(↑l.length:Int)) h1)<|.cutQ k262_0 [(0,.sl .sh (l.map encT)),(3,.int .i64 0)] (ζ1) (fun T hT=>(h (by omega) T hT).to (by grind[ckT]))))
def okL(x:Tol):Bool:=(decide (x.key=[])||isName x.key)&&(if x.any then decide (x.val=[])else isName x.val)
def ckL(l:List Tol):Int:=if l.length≤8 then(if l.all okL then 0 else 3)else 4
theorem ckL_loop(l:List Tol)(hn:l.length≤8):∀(post:List Tol)(i:Nat)(bs:List (List AV))(hd:l.drop i=post)(T:Env)(hT:Has T [(0,.sl .sh (l.map encL)),(3,.int .i64 i)]),
 Goes cfg a264 k264_0 T ⟨bs,[],[]⟩ (IsRet (.int .i64 (if post.all okL then 0 else 3))):=by
 intro post
 induction post with
 |nil=>
  intro i bs hd T hT
  have hge:=drop_ge hd
  exact gG 60 _ hT (.len (lM .sh encL l)<|.no (dF ((↑i:Int)<(↑l.length:Int)))<|.fin ((.ret (.int .i64 0),{boxes:=bs,toks:=[],loops:=[]:Heap})) rfl)
 |cons x post ih=>
  intro i bs hd T hT
  have hlt:=drop_lt hd
  have hnx:=drop_next hd
  exact let ζ2:List AV:=[.str x.key,.str x.val,.bool x.any];let ζ1:Heap:={boxes:=bs++[ζ2],toks:=[],loops:=[]:Heap};gG 60 _ hT (.len (lM .sh encL l)<|.yes (dT ((↑i:Int)<(↑l.length:Int)))<|.idx (iR 3 encL hd)<|.load (rfl:loadA true 3 {boxes:=bs,toks:=[],loops:=[]:Heap} (.ref ζ2)=some (.agg ζ2))<|.store (show storeA 3 {boxes:=bs++[[AV.str [],.str [],.bool false]],toks:=[],loops:=[]:Heap} (.ptr bs.length 0) (.agg ζ2)=some (ζ1)from store_box2 (cs:=[.str [],.str [],.bool false]) (cs':=ζ2) (by simp+zetaDelta) rfl (by simp+zetaDelta [List.set_append]))<|.load (lB false 1 ζ1 bs.length 0 (.str x.key) ζ2)<|.split ((x.key==[])=true) (fun h1=>.no (show(!x.key==[])=false from by have hh:(x.key==[])=true:=h1;simp[hh])<|.ff<|.load (lB false 1 ζ1 bs.length 2 (.bool x.any) ζ2)<|.split (x.any=true) (fun h2=>.yes (show(x.any)=true from h2)<|.load (lB false 1 ζ1 bs.length 1 (.str x.val) ζ2)<|.split ((x.val==[])=true) (fun h3=>.no (show(!x.val==[])=false from by have hh:(x.val==[])=true:=h3;simp[hh])<|.load (lB false 1 ζ1 bs.length 2 (.bool x.any) ζ2)<|.no (show(!x.any)=false from by have hh:x.any=true:=(by omega);simp[hh])<|.ff<|.bin (iI i)<|.cutQ k264_0 [(0,.sl .sh (l.map encL)),(3,.int .i64 (↑(i+1)))] (ζ1) (fun T hT=>(ih (i+1) (bs++[ζ2]) hnx T hT).to (by grind[okL]))) (fun h3=>.yes (show(!x.val==[])=true from by have hh:¬((x.val==[])=true):=h3;simp[hh])<|.tt<|.fin ((.ret (.int .i64 3),ζ1)) (by simp only[IsRet];grind[okL]))) (fun h2=>.no (show(x.any)=false from Bool.eq_false_iff.2 h2)<|.ff<|.load (lB false 1 ζ1 bs.length 2 (.bool x.any) ζ2)<|.yes (show(!x.any)=true from by have hh:¬(x.any=true):=(by omega);simp[hh])<|.load (lB false 1 ζ1 bs.length 1 (.str x.val) ζ2)<|.callK ([.str x.val]) (.bool (isName x.val)) (show Gives cfg 259 [.str x.val] (.bool (isName x.val))from name_any _)<|.split (isName x.val=true) (fun h3=>.no (show(!isName x.val)=false from by have hh:isName x.val=true:=h3;simp[hh])<|.bin (iI i)<|.cutQ k264_0 [(0,.sl .sh (l.map encL)),(3,.int .i64 (↑(i+1)))] (ζ1) (fun T hT=>(ih (i+1) (bs++[ζ2]) hnx T hT).to (by grind[okL]))) (fun h3=>.yes (show(!isName x.val)=true from by have hh:¬(isName x.val=true):=h3;simp[hh])<|.fin ((.ret (.int .i64 3),ζ1)) (by simp only[IsRet];grind[okL])))) (fun h1=>.yes (show(!x.key==[])=true from by have hh:¬((x.key==[])=true):=h1;simp[hh])<|.load (lB false 1 ζ1 bs.length 0 (.str x.key) ζ2)<|.callK ([.str x.key]) (.bool (isName x.key)) (show Gives cfg 259 [.str x.key] (.bool (isName x.key))from name_any _)<|.split (isName x.key=true) (fun h2=>.no (show(!isName x.key)=false from by have hh:isName x.key=true:=h2;simp[hh])<|.load (lB false 1 ζ1 bs.length 2 (.bool x.any) ζ2)<|.split (x.any=true) (fun h3=>.yes (show(x.any)=true from h3)<|.load (lB false 1 ζ1 bs.length 1 (.str x.val) ζ2)<|.split ((x.val==[])=true) (fun h4=>.no (show(!x.val==[])=false from by have hh:(x.val==[])=true:=h4;simp[hh])<|.load (lB false 1 ζ1 bs.length 2 (.bool x.any) ζ2)<|.no (show(!x.any)=false from by have hh:x.any=true:=(by omega);simp[hh])<|.ff<|.bin (iI i)<|.cutQ k264_0 [(0,.sl .sh (l.map encL)),(3,.int .i64 (↑(i+1)))] (ζ1) (fun T hT=>(ih (i+1) (bs++[ζ2]) hnx T hT).to (by grind[okL]))) (fun h4=>.yes (show(!x.val==[])=true from by have hh:¬((x.val==[])=true):=h4;simp[hh])<|.tt<|.fin ((.ret (.int .i64 3),ζ1)) (by simp only[IsRet];grind[okL]))) (fun h3=>.no (show(x.any)=false from Bool.eq_false_iff.2 h3)<|.ff<|.load (lB false 1 ζ1 bs.length 2 (.bool x.any) ζ2)<|.yes (show(!x.any)=true from by have hh:¬(x.any=true):=(by omega);simp[hh])<|.load (lB false 1 ζ1 bs.length 1 (.str x.val) ζ2)<|.callK ([.str x.val]) (.bool (isName x.val)) (show Gives cfg 259 [.str x.val] (.bool (isName x.val))from name_any _)<|.split (isName x.val=true) (fun h4=>.no (show(!isName x.val)=false from by have hh:isName x.val=true:=h4;simp[hh])<|.bin (iI i)<|.cutQ k264_0 [(0,.sl .sh (l.map encL)),(3,.int .i64 (↑(i+1)))] (ζ1) (fun T hT=>(ih (i+1) (bs++[ζ2]) hnx T hT).to (by grind[okL]))) (fun h4=>.yes (show(!isName x.val)=true from by have hh:¬(isName x.val=true):=h4;simp[hh])<|.fin ((.ret (.int .i64 3),ζ1)) (by simp only[IsRet];grind[okL])))) (fun h2=>.yes (show(!isName x.key)=true from by have hh:¬(isName x.key=true):=h2;simp[hh])<|.tt<|.tt<|.fin ((.ret (.int .i64 3),ζ1)) (by simp only[IsRet];grind[okL]))))
theorem ckL_any(l:List Tol):Gives cfg 264 [.sl .sh (l.map encL)] (.int .i64 (ckL l)):=by
 refine Gives.run (l264 _ _) ?_
 have h:=fun hn=>ckL_loop l hn l 0 [] rfl
 exact let ζ1:Heap:={boxes:=[],toks:=[],loops:=[]:Heap};gG 60 [] trivial (.len (lM .sh encL l)<|.split ((8:Int)<(↑l.length:Int)) (fun h1=>.yes (dT ((8:Int)<(↑l.length:Int)) h1)<|.fin ((.ret (.int .i64 4),ζ1)) (by simp only[IsRet];grind[ckL])) (fun h1=>.no (dF ((8:Int)<(↑l.length:Int)) h1)<|.cutQ k264_0 [(0,.sl .sh (l.map encL)),(3,.int .i64 0)] (ζ1) (fun T hT=>(h (by omega) T hT).to (by grind[ckL]))))
end Go.Aa.T
set_option linter.unusedVariables false
set_option linter.unusedSimpArgs false
set_option maxRecDepth 100000
namespace Go.Aa.T
open Go.Aa Go.Proofs
def alnum:List UInt8:=[97,98,99,100,101,102,103,104,105,106,107,108,109,110,111,112,113,114,115,116,117,118,119,120,121,122,48,49,50,51,52,53,54,55,56,57]
theorem alnum_ch(c:UInt8):alnum.contains c=nameCh c:=by
 have:∀n:Fin 256,alnum.contains (UInt8.ofNat n.val)=nameCh (UInt8.ofNat n.val):=by decide+kernel
 have h:=this ⟨c.toNat,c.toNat_lt⟩
 simpa using h
theorem dropWhile_nil{p:UInt8→Bool}:∀{l:List UInt8},l.dropWhile p=[]↔l.all p=true
 |[]=>by simp
 |c::l=>by
  by_cases h:p c=true
  ·simp[List.dropWhile_cons,h,dropWhile_nil]
  ·simp[List.dropWhile_cons,h]
theorem trim_nil(s:List UInt8):Lib.trimS s alnum=[]↔s.all nameCh=true:=by
 have hp:(fun c=>alnum.contains c)=nameCh:=funext alnum_ch
 unfold Lib.trimS Lib.trimLeftS Lib.trimRightS
 rw[hp,dropWhile_nil,List.all_reverse]
 constructor
 ·intro h
  have e:=List.takeWhile_append_dropWhile (p:=nameCh) (l:=s.reverse)
  have:s.reverse.all nameCh=true:=by
   rw[←e,List.all_append,h,Bool.and_true]
   exact List.all_takeWhile
  rwa [List.all_reverse]at this
 ·intro h
  have:s.reverse.dropWhile nameCh=[]:=dropWhile_nil.2 (by rwa [List.all_reverse])
  rw[this];rfl
theorem trim_any(s:List UInt8)(h:s.length≤9223372036854775807):Gives cfg 279 [.str s,.str alnum] (.str (Lib.trimS s alnum)):=by
 refine Gives.of (H':=Heap.nil) ?_
 rw[lim_ext (g:=trimE) rfl rfl]
 have:trimE [.str s,.str alnum] Heap.nil=some (.str (Lib.trimS s alnum),Heap.nil):=if_pos ⟨h,by decide,by decide⟩
 rw[this];rfl
theorem res_name(s:List UInt8):Gives cfg 235 [.str s] (.bool (isName s)):=by
 refine Gives.run (l235 _ _) ?_
 have ht:=trim_nil s
 exact let ζ1:Heap:={boxes:=[],toks:=[],loops:=[]:Heap};gG 60 [] trivial (.len (show lenA true (.str s)=some (.int .i64 (↑s.length))from len_str _)<|.split ((1:Int)≤(↑s.length:Int)) (fun h1=>.yes (dT ((1:Int)≤(↑s.length:Int)) h1)<|.len (show lenA true (.str s)=some (.int .i64 (↑s.length))from len_str _)<|.split ((↑s.length:Int)≤(12:Int)) (fun h2=>.yes (dT ((↑s.length:Int)≤(12:Int)) h2)<|.callK ([.str s,.str [(97:UInt8),(98:UInt8),(99:UInt8),(100:UInt8),(101:UInt8),(102:UInt8),(103:UInt8),(104:UInt8),(105:UInt8),(106:UInt8),(107:UInt8),(108:UInt8),(109:UInt8),(110:UInt8),(111:UInt8),(112:UInt8),(113:UInt8),(114:UInt8),(115:UInt8),(116:UInt8),(117:UInt8),(118:UInt8),(119:UInt8),(120:UInt8),(121:UInt8),(122:UInt8),(48:UInt8),(49:UInt8),(50:UInt8),(51:UInt8),(52:UInt8),(53:UInt8),(54:UInt8),(55:UInt8),(56:UInt8),(57:UInt8)]]) (.str (Lib.trimS s alnum)) (show Gives cfg 279 [.str s,.str alnum] (.str (Lib.trimS s alnum))from trim_any _ (by omega))<|.fin ((.ret (.bool (Lib.trimS s alnum==[])),ζ1)) (by simp only[IsRet];grind[isName])) (fun h2=>.no (dF ((↑s.length:Int)≤(12:Int)) h2)<|.fin ((.ret (.bool false),ζ1)) (by simp only[IsRet];grind[isName]))) (fun h1=>.no (dF ((1:Int)≤(↑s.length:Int)) h1)<|.ff<|.fin ((.ret (.bool false),ζ1)) (by simp only[IsRet];grind[isName])))
end Go.Aa.T
set_option linter.unusedVariables false
set_option linter.unusedSimpArgs false
set_option maxRecDepth 100000
namespace Go.Aa.T
open Go.Aa Go.Proofs
structure Pair where
 key:List UInt8
 val:List UInt8
structure Term where
 op:Int
 key:List UInt8
 val:List UInt8
def Pair.cells(t:Pair):List AV:=[.str t.key,.str t.val]
def Term.cells(t:Term):List AV:=[.int .i64 t.op,.str t.key,.str t.val]
def encP(t:Pair):AV:=.agg t.cells
def encM(t:Term):AV:=.agg t.cells
def fewP(l:List Pair):Bool:=decide (l.length≤20)&&few (fun t=>(t.key,t.val)) l
def fewM(l:List Term):Bool:=decide (l.length≤20)&&few (fun t=>(t.key,t.val)) l
theorem fewP_len{l:List Pair}(h:fewP l=true):l.length≤20:=by
 simp only[fewP,Bool.and_eq_true,decide_eq_true_eq]at h;exact h.1
theorem fewM_len{l:List Term}(h:fewM l=true):l.length≤20:=by
 simp only[fewM,Bool.and_eq_true,decide_eq_true_eq]at h;exact h.1
theorem fewP_loop(l:List Pair)(hn:l.length≤20):∀(post:List Pair)(i:Nat)(hd:l.drop i=post)(T:Env)(hT:Has T [(0,.sl .sh (l.map encP)),(3,.int .i64 i)]),
 Goes cfg a204 k204_0 T Heap.nil (IsRet (.bool (few (fun t=>(t.key,t.val)) post))):=by
 intro post
 induction post with
 |nil=>
  intro i hd T hT
  have hge:=drop_ge hd
  exact gG 60 _ hT (.len (lM .sh encP l)<|.no (dF ((↑i:Int)<(↑l.length:Int)))<|.fin ((.ret (.bool true),{boxes:=[],toks:=[],loops:=[]:Heap})) rfl)
 |cons x post ih=>
  intro i hd T hT
  have hlt:=drop_lt hd
  have hnx:=drop_next hd
  exact let ζ1:Heap:={boxes:=[],toks:=[],loops:=[]:Heap};gG 60 _ hT (.len (lM .sh encP l)<|.yes (dT ((↑i:Int)<(↑l.length:Int)))<|.idx (iR 2 encP hd)<|.len (show lenA true (.str x.key)=some (.int .i64 (↑x.key.length))from len_str _)<|.split ((50:Int)<(↑x.key.length:Int)) (fun h1=>.yes (dT ((50:Int)<(↑x.key.length:Int)) h1)<|.tt<|.fin ((.ret (.bool false),ζ1)) (by simp only[IsRet];grind[few])) (fun h1=>.no (dF ((50:Int)<(↑x.key.length:Int)) h1)<|.idx (iR 2 encP hd)<|.len (show lenA true (.str x.val)=some (.int .i64 (↑x.val.length))from len_str _)<|.split ((50:Int)<(↑x.val.length:Int)) (fun h2=>.yes (dT ((50:Int)<(↑x.val.length:Int)) h2)<|.fin ((.ret (.bool false),ζ1)) (by simp only[IsRet];grind[few])) (fun h2=>.no (dF ((50:Int)<(↑x.val.length:Int)) h2)<|.bin (iI i)<|.cutQ k204_0 [(0,.sl .sh (l.map encP)),(3,.int .i64 (↑(i+1)))] (ζ1) (fun T hT=>(ih (i+1) hnx T hT).to (by grind[few])))))
theorem fewM_loop(l:List Term)(hn:l.length≤20):∀(post:List Term)(i:Nat)(hd:l.drop i=post)(T:Env)(hT:Has T [(0,.sl .sh (l.map encM)),(3,.int .i64 i)]),
 Goes cfg a202 k202_0 T Heap.nil (IsRet (.bool (few (fun t=>(t.key,t.val)) post))):=by
 intro post
 induction post with
 |nil=>
  intro i hd T hT
  have hge:=drop_ge hd
  exact gG 60 _ hT (.len (lM .sh encM l)<|.no (dF ((↑i:Int)<(↑l.length:Int)))<|.fin ((.ret (.bool true),{boxes:=[],toks:=[],loops:=[]:Heap})) rfl)
 |cons x post ih=>
  intro i hd T hT
  have hlt:=drop_lt hd
  have hnx:=drop_next hd
  exact let ζ1:Heap:={boxes:=[],toks:=[],loops:=[]:Heap};gG 60 _ hT (.len (lM .sh encM l)<|.yes (dT ((↑i:Int)<(↑l.length:Int)))<|.idx (iR 3 encM hd)<|.len (show lenA true (.str x.key)=some (.int .i64 (↑x.key.length))from len_str _)<|.split ((50:Int)<(↑x.key.length:Int)) (fun h1=>.yes (dT ((50:Int)<(↑x.key.length:Int)) h1)<|.tt<|.fin ((.ret (.bool false),ζ1)) (by simp only[IsRet];grind[few])) (fun h1=>.no (dF ((50:Int)<(↑x.key.length:Int)) h1)<|.idx (iR 3 encM hd)<|.len (show lenA true (.str x.val)=some (.int .i64 (↑x.val.length))from len_str _)<|.split ((50:Int)<(↑x.val.length:Int)) (fun h2=>.yes (dT ((50:Int)<(↑x.val.length:Int)) h2)<|.fin ((.ret (.bool false),ζ1)) (by simp only[IsRet];grind[few])) (fun h2=>.no (dF ((50:Int)<(↑x.val.length:Int)) h2)<|.bin (iI i)<|.cutQ k202_0 [(0,.sl .sh (l.map encM)),(3,.int .i64 (↑(i+1)))] (ζ1) (fun T hT=>(ih (i+1) hnx T hT).to (by grind[few])))))
theorem fewP_any(l:List Pair):Gives cfg 204 [.sl .sh (l.map encP)] (.bool (fewP l)):=by
 refine Gives.run (l204 _ _) ?_
 have h:=fun hn=>fewP_loop l hn l 0 rfl
 exact let ζ1:Heap:={boxes:=[],toks:=[],loops:=[]:Heap};gG 60 [] trivial (.len (lM .sh encP l)<|.split ((20:Int)<(↑l.length:Int)) (fun h1=>.yes (dT ((20:Int)<(↑l.length:Int)) h1)<|.fin ((.ret (.bool false),ζ1)) (by simp only[IsRet];grind[fewP])) (fun h1=>.no (dF ((20:Int)<(↑l.length:Int)) h1)<|.cutQ k204_0 [(0,.sl .sh (l.map encP)),(3,.int .i64 0)] (ζ1) (fun T hT=>(h (by omega) T hT).to (by grind[fewP]))))
theorem fewM_any(l:List Term):Gives cfg 202 [.sl .sh (l.map encM)] (.bool (fewM l)):=by
 refine Gives.run (l202 _ _) ?_
 have h:=fun hn=>fewM_loop l hn l 0 rfl
 exact let ζ1:Heap:={boxes:=[],toks:=[],loops:=[]:Heap};gG 60 [] trivial (.len (lM .sh encM l)<|.split ((20:Int)<(↑l.length:Int)) (fun h1=>.yes (dT ((20:Int)<(↑l.length:Int)) h1)<|.fin ((.ret (.bool false),ζ1)) (by simp only[IsRet];grind[fewM])) (fun h1=>.no (dF ((20:Int)<(↑l.length:Int)) h1)<|.cutQ k202_0 [(0,.sl .sh (l.map encM)),(3,.int .i64 0)] (ζ1) (fun T hT=>(h (by omega) T hT).to (by grind[fewM]))))
theorem ofP_loop(l:List Pair)(hn:l.length≤20):∀(post:List Pair)(i:Nat)(acc:List AV)(hd:l.drop i=post)(ha:acc.length=i)(hl:lenOk 2 acc=true)(T:Env)(hT:Has T [(0,.sl .sh (l.map encP)),(3,rowS Heap.nil acc),(4,.int .i64 i)]),
 Goes cfg a197 k197_0 T (rowH Heap.nil acc) (IsRet (rowS Heap.nil (acc++post.map encP))):=by
 intro post
 induction post with
 |nil=>
  intro i acc hd ha hl T hT
  have hge:=drop_ge hd
  exact gG 60 _ hT (.len (lM .sh encP l)<|.no (dF ((↑i:Int)<(↑l.length:Int)))<|.fin ((.ret (setD (setD (setD (setD (setD (setD (updL T [(0,.sl .sh (l.map encP)),(3,rowS Heap.nil acc),(4,.int .i64 ↑i)]) (some 5) (ev (updL T [(0,.sl .sh (l.map encP)),(3,rowS Heap.nil acc),(4,.int .i64 ↑i)]) (.t 4))) (some 6) (ev (setD (updL T [(0,.sl .sh (l.map encP)),(3,rowS Heap.nil acc),(4,.int .i64 ↑i)]) (some 5) (ev (updL T [(0,.sl .sh (l.map encP)),(3,rowS Heap.nil acc),(4,.int .i64 ↑i)]) (.t 4))) (.t 0))) (some 7) (.int .i64 (↑l.length))) (some 8) (.bool (decide ((↑i:Int)<(↑l.length:Int))))) (some 25) (ev (setD (setD (setD (setD (updL T [(0,.sl .sh (l.map encP)),(3,rowS Heap.nil acc),(4,.int .i64 ↑i)]) (some 5) (ev (updL T [(0,.sl .sh (l.map encP)),(3,rowS Heap.nil acc),(4,.int .i64 ↑i)]) (.t 4))) (some 6) (ev (setD (updL T [(0,.sl .sh (l.map encP)),(3,rowS Heap.nil acc),(4,.int .i64 ↑i)]) (some 5) (ev (updL T [(0,.sl .sh (l.map encP)),(3,rowS Heap.nil acc),(4,.int .i64 ↑i)]) (.t 4))) (.t 0))) (some 7) (.int .i64 (↑l.length))) (some 8) (.bool (decide ((↑i:Int)<(↑l.length:Int))))) (.t 3))) (some 2) (ev (setD (setD (setD (setD (setD (updL T [(0,.sl .sh (l.map encP)),(3,rowS Heap.nil acc),(4,.int .i64 ↑i)]) (some 5) (ev (updL T [(0,.sl .sh (l.map encP)),(3,rowS Heap.nil acc),(4,.int .i64 ↑i)]) (.t 4))) (some 6) (ev (setD (updL T [(0,.sl .sh (l.map encP)),(3,rowS Heap.nil acc),(4,.int .i64 ↑i)]) (some 5) (ev (updL T [(0,.sl .sh (l.map encP)),(3,rowS Heap.nil acc),(4,.int .i64 ↑i)]) (.t 4))) (.t 0))) (some 7) (.int .i64 (↑l.length))) (some 8) (.bool (decide ((↑i:Int)<(↑l.length:Int))))) (some 25) (ev (setD (setD (setD (setD (updL T [(0,.sl .sh (l.map encP)),(3,rowS Heap.nil acc),(4,.int .i64 ↑i)]) (some 5) (ev (updL T [(0,.sl .sh (l.map encP)),(3,rowS Heap.nil acc),(4,.int .i64 ↑i)]) (.t 4))) (some 6) (ev (setD (updL T [(0,.sl .sh (l.map encP)),(3,rowS Heap.nil acc),(4,.int .i64 ↑i)]) (some 5) (ev (updL T [(0,.sl .sh (l.map encP)),(3,rowS Heap.nil acc),(4,.int .i64 ↑i)]) (.t 4))) (.t 0))) (some 7) (.int .i64 (↑l.length))) (some 8) (.bool (decide ((↑i:Int)<(↑l.length:Int))))) (.t 3))) (.t 25)) 2),rowH Heap.nil acc)) (by simp only[IsRet,List.map_nil,List.append_nil];rfl))
 |cons x post ih=>
  intro i acc hd ha hl T hT
  have hlt:=drop_lt hd
  have hnx:=drop_next hd
  exact gG 60 _ hT (.len (lM .sh encP l)<|.yes (dT ((↑i:Int)<(↑l.length:Int)) (by simp;omega))<|.idx (iR 2 encP hd)<|.load (rfl:loadA false 1 (rowH Heap.nil acc) (.ref [.str x.key])=some (.str x.key))<|.idx (iR 2 encP hd)<|.load (rfl:loadA false 1 (rowH Heap.nil acc) (.ref [.str x.val])=some (.str x.val))<|.append (show appendA 2 32 (rowH Heap.nil acc) (rowS Heap.nil acc) (.sl .full [.agg [.str x.key,.str x.val]])=some ((rowS Heap.nil (acc++[AV.agg [.str x.key,.str x.val]]),rowH Heap.nil (acc++[AV.agg [.str x.key,.str x.val]])))from row_append (by omega) hl (by rfl) (by rfl))<|.bin (iI i)<|.cutQ k197_0 [(0,.sl .sh (l.map encP)),(3,rowS Heap.nil (acc++[AV.agg [.str x.key,.str x.val]])),(4,.int .i64 (↑(i+1)))] (rowH Heap.nil (acc++[AV.agg [.str x.key,.str x.val]])) (fun T hT=>(ih (i+1) (acc++[AV.agg [.str x.key,.str x.val]]) hnx (by simp;omega) (by exact lenOk_snoc (by assumption) rfl) T hT).to (by simp[encP,Pair.cells])))
theorem ofM_loop(l:List Term)(hn:l.length≤20):∀(post:List Term)(i:Nat)(acc:List AV)(hd:l.drop i=post)(ha:acc.length=i)(hl:lenOk 3 acc=true)(T:Env)(hT:Has T [(0,.sl .sh (l.map encM)),(3,rowS Heap.nil acc),(4,.int .i64 i)]),
 Goes cfg a198 k198_0 T (rowH Heap.nil acc) (IsRet (rowS Heap.nil (acc++post.map encM))):=by
 intro post
 induction post with
 |nil=>
  intro i acc hd ha hl T hT
  have hge:=drop_ge hd
  exact gG 60 _ hT (.len (lM .sh encM l)<|.no (dF ((↑i:Int)<(↑l.length:Int)))<|.fin ((.ret (setD (setD (setD (setD (setD (setD (updL T [(0,.sl .sh (l.map encM)),(3,rowS Heap.nil acc),(4,.int .i64 ↑i)]) (some 5) (ev (updL T [(0,.sl .sh (l.map encM)),(3,rowS Heap.nil acc),(4,.int .i64 ↑i)]) (.t 4))) (some 6) (ev (setD (updL T [(0,.sl .sh (l.map encM)),(3,rowS Heap.nil acc),(4,.int .i64 ↑i)]) (some 5) (ev (updL T [(0,.sl .sh (l.map encM)),(3,rowS Heap.nil acc),(4,.int .i64 ↑i)]) (.t 4))) (.t 0))) (some 7) (.int .i64 (↑l.length))) (some 8) (.bool (decide ((↑i:Int)<(↑l.length:Int))))) (some 30) (ev (setD (setD (setD (setD (updL T [(0,.sl .sh (l.map encM)),(3,rowS Heap.nil acc),(4,.int .i64 ↑i)]) (some 5) (ev (updL T [(0,.sl .sh (l.map encM)),(3,rowS Heap.nil acc),(4,.int .i64 ↑i)]) (.t 4))) (some 6) (ev (setD (updL T [(0,.sl .sh (l.map encM)),(3,rowS Heap.nil acc),(4,.int .i64 ↑i)]) (some 5) (ev (updL T [(0,.sl .sh (l.map encM)),(3,rowS Heap.nil acc),(4,.int .i64 ↑i)]) (.t 4))) (.t 0))) (some 7) (.int .i64 (↑l.length))) (some 8) (.bool (decide ((↑i:Int)<(↑l.length:Int))))) (.t 3))) (some 2) (ev (setD (setD (setD (setD (setD (updL T [(0,.sl .sh (l.map encM)),(3,rowS Heap.nil acc),(4,.int .i64 ↑i)]) (some 5) (ev (updL T [(0,.sl .sh (l.map encM)),(3,rowS Heap.nil acc),(4,.int .i64 ↑i)]) (.t 4))) (some 6) (ev (setD (updL T [(0,.sl .sh (l.map encM)),(3,rowS Heap.nil acc),(4,.int .i64 ↑i)]) (some 5) (ev (updL T [(0,.sl .sh (l.map encM)),(3,rowS Heap.nil acc),(4,.int .i64 ↑i)]) (.t 4))) (.t 0))) (some 7) (.int .i64 (↑l.length))) (some 8) (.bool (decide ((↑i:Int)<(↑l.length:Int))))) (some 30) (ev (setD (setD (setD (setD (updL T [(0,.sl .sh (l.map encM)),(3,rowS Heap.nil acc),(4,.int .i64 ↑i)]) (some 5) (ev (updL T [(0,.sl .sh (l.map encM)),(3,rowS Heap.nil acc),(4,.int .i64 ↑i)]) (.t 4))) (some 6) (ev (setD (updL T [(0,.sl .sh (l.map encM)),(3,rowS Heap.nil acc),(4,.int .i64 ↑i)]) (some 5) (ev (updL T [(0,.sl .sh (l.map encM)),(3,rowS Heap.nil acc),(4,.int .i64 ↑i)]) (.t 4))) (.t 0))) (some 7) (.int .i64 (↑l.length))) (some 8) (.bool (decide ((↑i:Int)<(↑l.length:Int))))) (.t 3))) (.t 30)) 2),rowH Heap.nil acc)) (by simp only[IsRet,List.map_nil,List.append_nil];rfl))
 |cons x post ih=>
  intro i acc hd ha hl T hT
  have hlt:=drop_lt hd
  have hnx:=drop_next hd
  exact gG 60 _ hT (.len (lM .sh encM l)<|.yes (dT ((↑i:Int)<(↑l.length:Int)) (by simp;omega))<|.idx (iR 3 encM hd)<|.load (rfl:loadA false 1 (rowH Heap.nil acc) (.ref [.int .i64 x.op])=some (.int .i64 x.op))<|.idx (iR 3 encM hd)<|.load (rfl:loadA false 1 (rowH Heap.nil acc) (.ref [.str x.key])=some (.str x.key))<|.idx (iR 3 encM hd)<|.load (rfl:loadA false 1 (rowH Heap.nil acc) (.ref [.str x.val])=some (.str x.val))<|.append (show appendA 3 40 (rowH Heap.nil acc) (rowS Heap.nil acc) (.sl .full [.agg [.int .i64 x.op,.str x.key,.str x.val]])=some ((rowS Heap.nil (acc++[AV.agg [.int .i64 x.op,.str x.key,.str x.val]]),rowH Heap.nil (acc++[AV.agg [.int .i64 x.op,.str x.key,.str x.val]])))from row_append (by omega) hl (by rfl) (by rfl))<|.bin (iI i)<|.cutQ k198_0 [(0,.sl .sh (l.map encM)),(3,rowS Heap.nil (acc++[AV.agg [.int .i64 x.op,.str x.key,.str x.val]])),(4,.int .i64 (↑(i+1)))] (rowH Heap.nil (acc++[AV.agg [.int .i64 x.op,.str x.key,.str x.val]])) (fun T hT=>(ih (i+1) (acc++[AV.agg [.int .i64 x.op,.str x.key,.str x.val]]) hnx (by simp;omega) (by exact lenOk_snoc (by assumption) rfl) T hT).to (by simp[encM,Term.cells])))
theorem ofP_any(l:List Pair)(hn:l.length≤20):Gives cfg 197 [.sl .sh (l.map encP)] (rowS Heap.nil (l.map encP)):=by
 refine Gives.run (l197 _ _) ?_
 have h:=ofP_loop l hn l 0 [] rfl rfl rfl
 exact gG 60 [] trivial (.cutQ k197_0 [(0,.sl .sh (l.map encP)),(3,.sl .full []),(4,.int .i64 0)] ({boxes:=[],toks:=[],loops:=[]:Heap}) (fun T hT=>(h T hT)))
theorem ofM_any(l:List Term)(hn:l.length≤20):Gives cfg 198 [.sl .sh (l.map encM)] (rowS Heap.nil (l.map encM)):=by
 refine Gives.run (l198 _ _) ?_
 have h:=ofM_loop l hn l 0 [] rfl rfl rfl
 exact gG 60 [] trivial (.cutQ k198_0 [(0,.sl .sh (l.map encM)),(3,.sl .full []),(4,.int .i64 0)] ({boxes:=[],toks:=[],loops:=[]:Heap}) (fun T hT=>(h T hT)))
def ordB(s:List Pair)(i:Nat)(x:Pair):Bool:=match i with
 |0=>false
 |j+1=>match s[j]? with
  |some p=>Op.bytesLess x.key p.key||x.key==p.key
  |none=>false
def ckSl(s:List Pair):Nat→List Pair→Int
 |_,[]=>0
 |i,x::post=>if isName x.key&&isName x.val then(if ordB s i x then 13 else ckSl s (i+1) post)else 3
def ckS(s:List Pair):Int:=if s.length≤8 then ckSl s 0 s else 4
theorem dec_i{i:Nat}(h:i<9223372036854775807):binA .sub (.int .i64 ((i+1:Nat):Int)) (.int .i64 1)=some (.int .i64 (i:Int)):=by
 rw[subI (by omega) (by omega)];congr 2;omega
theorem ckS_ref_loop(l:List Pair)(hn:l.length≤8):∀(post:List Pair)(i:Nat)(hd:l.drop i=post)(T:Env)(hT:Has T [(0,.sl .sh (l.map encP)),(3,.int .i64 i)]),
 Goes cfg a261 k261_0 T Heap.nil (IsRet (.int .i64 (ckSl l i post))):=by
 intro post
 induction post with
 |nil=>
  intro i hd T hT
  have hge:=drop_ge hd
  exact gG 60 _ hT (.len (lM .sh encP l)<|.no (dF ((↑i:Int)<(↑l.length:Int)))<|.fin ((.ret (.int .i64 0),{boxes:=[],toks:=[],loops:=[]:Heap})) rfl)
 |cons x post ih=>
  intro i hd T hT
  have hlt:=drop_lt hd
  have hnx:=drop_next hd
  cases i with
  |zero=>exact let ζ1:Heap:={boxes:=[],toks:=[],loops:=[]:Heap};gG 60 _ hT (.len (lM .sh encP l)<|.yes (dT ((↑(0:Nat):Int)<(↑l.length:Int)))<|.idx (show idxA 2 (.sl .sh (l.map encP)) (.int .i64 (↑(0:Nat):Int))=some (.ref (encP x).cells)from idx_row hd (by rfl))<|.callK ([.str x.key]) (.bool (isName x.key)) (show Gives cfg 259 [.str x.key] (.bool (isName x.key))from name_any _)<|.split (isName x.key=true) (fun h1=>.no (show(!isName x.key)=false from by have hh:isName x.key=true:=h1;simp[hh])<|.idx (show idxA 2 (.sl .sh (l.map encP)) (.int .i64 (↑(0:Nat):Int))=some (.ref (encP x).cells)from idx_row hd (by rfl))<|.callK ([.str x.val]) (.bool (isName x.val)) (show Gives cfg 259 [.str x.val] (.bool (isName x.val))from name_any _)<|.split (isName x.val=true) (fun h2=>.no (show(!isName x.val)=false from by have hh:isName x.val=true:=h2;simp[hh])<|.ff<|.ff<|.bin (show binA .add (.int .i64 (↑(0:Nat):Int)) (.int .i64 1)=some (.int .i64 (↑(0+1):Int))from inc_i (by omega))<|.cutQ k261_0 [(0,.sl .sh (l.map encP)),(3,.int .i64 (↑(0+1):Int))] (ζ1) (fun T hT=>(ih (0+1) hnx T hT).to (by grind[ckSl,ordB]))) (fun h2=>.yes (show(!isName x.val)=true from by have hh:¬(isName x.val=true):=h2;simp[hh])<|.fin ((.ret (.int .i64 3),ζ1)) (by simp only[IsRet];grind[ckSl,ordB]))) (fun h1=>.yes (show(!isName x.key)=true from by have hh:¬(isName x.key=true):=h1;simp[hh])<|.tt<|.fin ((.ret (.int .i64 3),ζ1)) (by simp only[IsRet];grind[ckSl,ordB])))
  |succ j=>
   obtain⟨p,hp⟩:∃p,l[j]?=some p:=⟨l[j],List.getElem?_eq_getElem (by omega)⟩
   exact let ζ1:Heap:={boxes:=[],toks:=[],loops:=[]:Heap};gG 60 _ hT (.len (lM .sh encP l)<|.yes (dT ((↑(j+1):Int)<(↑l.length:Int)))<|.idx (show idxA 2 (.sl .sh (l.map encP)) (.int .i64 (↑(j+1):Int))=some (.ref (encP x).cells)from idx_row hd (by rfl))<|.callK ([.str x.key]) (.bool (isName x.key)) (show Gives cfg 259 [.str x.key] (.bool (isName x.key))from name_any _)<|.split (isName x.key=true) (fun h1=>.no (show(!isName x.key)=false from by have hh:isName x.key=true:=h1;simp[hh])<|.idx (show idxA 2 (.sl .sh (l.map encP)) (.int .i64 (↑(j+1):Int))=some (.ref (encP x).cells)from idx_row hd (by rfl))<|.callK ([.str x.val]) (.bool (isName x.val)) (show Gives cfg 259 [.str x.val] (.bool (isName x.val))from name_any _)<|.split (isName x.val=true) (fun h2=>.no (show(!isName x.val)=false from by have hh:isName x.val=true:=h2;simp[hh])<|.yes (dT ((0:Int)<(↑(j+1):Int)))<|.idx (show idxA 2 (.sl .sh (l.map encP)) (.int .i64 (↑(j+1):Int))=some (.ref (encP x).cells)from idx_row hd (by rfl))<|.bin (show binA .sub (.int .i64 (↑(j+1):Int)) (.int .i64 1)=some (.int .i64 ↑j)from dec_i (by omega))<|.idx (show idxA 2 (.sl .sh (l.map encP)) (.int .i64 ↑j)=some (.ref (encP p).cells)from idx_get hp (by rfl))<|.split ((Op.bytesLess x.key p.key||x.key==p.key)=true) (fun h3=>.yes (show(Op.bytesLess x.key p.key||x.key==p.key)=true from h3)<|.fin ((.ret (.int .i64 13),ζ1)) (by simp only[IsRet];grind[ckSl,ordB])) (fun h3=>.no (show(Op.bytesLess x.key p.key||x.key==p.key)=false from Bool.eq_false_iff.2 h3)<|.bin (show binA .add (.int .i64 (↑(j+1):Int)) (.int .i64 1)=some (.int .i64 (↑(j+1+1):Int))from inc_i (by omega))<|.cutQ k261_0 [(0,.sl .sh (l.map encP)),(3,.int .i64 (↑(j+1+1):Int))] (ζ1) (fun T hT=>(ih (j+1+1) hnx T hT).to (by grind[ckSl,ordB])))) (fun h2=>.yes (show(!isName x.val)=true from by have hh:¬(isName x.val=true):=h2;simp[hh])<|.fin ((.ret (.int .i64 3),ζ1)) (by simp only[IsRet];grind[ckSl,ordB]))) (fun h1=>.yes (show(!isName x.key)=true from by have hh:¬(isName x.key=true):=h1;simp[hh])<|.tt<|.fin ((.ret (.int .i64 3),ζ1)) (by simp only[IsRet];grind[ckSl,ordB])))
theorem ckS_ref(l:List Pair):Gives cfg 261 [.sl .sh (l.map encP)] (.int .i64 (ckS l)):=by
 refine Gives.run (l261 _ _) ?_
 have h:=fun hn=>ckS_ref_loop l hn l 0 rfl
 exact let ζ1:Heap:={boxes:=[],toks:=[],loops:=[]:Heap};gG 60 [] trivial (.len (lM .sh encP l)<|.split ((8:Int)<(↑l.length:Int)) (fun h1=>.yes (dT ((8:Int)<(↑l.length:Int)) h1)<|.fin ((.ret (.int .i64 4),ζ1)) (by simp only[IsRet];grind[ckS])) (fun h1=>.no (dF ((8:Int)<(↑l.length:Int)) h1)<|.cutQ k261_0 [(0,.sl .sh (l.map encP)),(3,.int .i64 0)] (ζ1) (fun T hT=>(h (by omega) T hT).to (by grind[ckS]))))
def valOk(x:Term):Bool:=if x.op≤2 then isName x.val else decide (x.val=[])
def ckMl:List Term→Int
 |[]=>0
 |x::post=>if 1≤x.op∧x.op≤4 then(if isName x.key&&valOk x then ckMl post else 3)else 1
def ckM(l:List Term):Int:=if l.length≤8 then ckMl l else 4
theorem ckM_ref_loop(l:List Term)(hn:l.length≤8):∀(post:List Term)(i:Nat)(bs:List (List AV))(hd:l.drop i=post)(T:Env)(hT:Has T [(0,.sl .sh (l.map encM)),(3,.int .i64 i)]),
 Goes cfg a263 k263_0 T ⟨bs,[],[]⟩ (IsRet (.int .i64 (ckMl post))):=by
 intro post
 induction post with
 |nil=>
  intro i bs hd T hT
  have hge:=drop_ge hd
  exact gG 60 _ hT (.len (lM .sh encM l)<|.no (dF ((↑i:Int)<(↑l.length:Int)))<|.fin ((.ret (.int .i64 0),{boxes:=bs,toks:=[],loops:=[]:Heap})) rfl)
 |cons x post ih=>
  intro i bs hd T hT
  have hlt:=drop_lt hd
  have hnx:=drop_next hd
  exact let ζ2:List AV:=[.int .i64 x.op,.str x.key,.str x.val];let ζ1:Heap:={boxes:=bs++[ζ2],toks:=[],loops:=[]:Heap};gG 60 _ hT (.len (lM .sh encM l)<|.yes (dT ((↑i:Int)<(↑l.length:Int)))<|.idx (iR 3 encM hd)<|.load (rfl:loadA true 3 {boxes:=bs,toks:=[],loops:=[]:Heap} (.ref ζ2)=some (.agg ζ2))<|.store (show storeA 3 {boxes:=bs++[[AV.int .i64 0,.str [],.str []]],toks:=[],loops:=[]:Heap} (.ptr bs.length 0) (.agg ζ2)=some (ζ1)from store_box2 (cs:=[.int .i64 0,.str [],.str []]) (cs':=ζ2) (by simp+zetaDelta) rfl (by simp+zetaDelta [List.set_append]))<|.load (lB false 1 ζ1 bs.length 0 (.int .i64 x.op) ζ2)<|.split (x.op<(1:Int)) (fun h1=>.yes (dT (x.op<(1:Int)) h1)<|.tt<|.fin ((.ret (.int .i64 1),ζ1)) (by simp only[IsRet];grind[ckMl,valOk])) (fun h1=>.no (dF (x.op<(1:Int)) h1)<|.load (lB false 1 ζ1 bs.length 0 (.int .i64 x.op) ζ2)<|.split ((4:Int)<x.op) (fun h2=>.yes (dT ((4:Int)<x.op) h2)<|.fin ((.ret (.int .i64 1),ζ1)) (by simp only[IsRet];grind[ckMl,valOk])) (fun h2=>.no (dF ((4:Int)<x.op) h2)<|.load (lB false 1 ζ1 bs.length 1 (.str x.key) ζ2)<|.callK ([.str x.key]) (.bool (isName x.key)) (show Gives cfg 259 [.str x.key] (.bool (isName x.key))from name_any _)<|.split (isName x.key=true) (fun h3=>.no (show(!isName x.key)=false from by have hh:isName x.key=true:=h3;simp[hh])<|.load (lB false 1 ζ1 bs.length 0 (.int .i64 x.op) ζ2)<|.split (x.op≤(2:Int)) (fun h4=>.yes (dT (x.op≤(2:Int)) h4)<|.load (lB false 1 ζ1 bs.length 2 (.str x.val) ζ2)<|.callK ([.str x.val]) (.bool (isName x.val)) (show Gives cfg 259 [.str x.val] (.bool (isName x.val))from name_any _)<|.split (isName x.val=true) (fun h5=>.no (show(!isName x.val)=false from by have hh:isName x.val=true:=h5;simp[hh])<|.load (lB false 1 ζ1 bs.length 0 (.int .i64 x.op) ζ2)<|.no (dF ((3:Int)≤x.op))<|.ff<|.bin (iI i)<|.cutQ k263_0 [(0,.sl .sh (l.map encM)),(3,.int .i64 (↑(i+1)))] (ζ1) (fun T hT=>(ih (i+1) (bs++[ζ2]) hnx T hT).to (by grind[ckMl,valOk]))) (fun h5=>.yes (show(!isName x.val)=true from by have hh:¬(isName x.val=true):=h5;simp[hh])<|.tt<|.fin ((.ret (.int .i64 3),ζ1)) (by simp only[IsRet];grind[ckMl,valOk]))) (fun h4=>.no (dF (x.op≤(2:Int)) h4)<|.ff<|.load (lB false 1 ζ1 bs.length 0 (.int .i64 x.op) ζ2)<|.yes (dT ((3:Int)≤x.op))<|.load (lB false 1 ζ1 bs.length 2 (.str x.val) ζ2)<|.split ((x.val==[])=true) (fun h5=>.no (show(!x.val==[])=false from by have hh:(x.val==[])=true:=h5;simp[hh])<|.bin (iI i)<|.cutQ k263_0 [(0,.sl .sh (l.map encM)),(3,.int .i64 (↑(i+1)))] (ζ1) (fun T hT=>(ih (i+1) (bs++[ζ2]) hnx T hT).to (by grind[ckMl,valOk]))) (fun h5=>.yes (show(!x.val==[])=true from by have hh:¬((x.val==[])=true):=h5;simp[hh])<|.fin ((.ret (.int .i64 3),ζ1)) (by simp only[IsRet];grind[ckMl,valOk])))) (fun h3=>.yes (show(!isName x.key)=true from by have hh:¬(isName x.key=true):=h3;simp[hh])<|.tt<|.tt<|.fin ((.ret (.int .i64 3),ζ1)) (by simp only[IsRet];grind[ckMl,valOk])))))
theorem ckM_ref(l:List Term):Gives cfg 263 [.sl .sh (l.map encM)] (.int .i64 (ckM l)):=by
 refine Gives.run (l263 _ _) ?_
 have h:=fun hn=>ckM_ref_loop l hn l 0 [] rfl
 exact let ζ1:Heap:={boxes:=[],toks:=[],loops:=[]:Heap};gG 60 [] trivial (.len (lM .sh encM l)<|.split ((8:Int)<(↑l.length:Int)) (fun h1=>.yes (dT ((8:Int)<(↑l.length:Int)) h1)<|.fin ((.ret (.int .i64 4),ζ1)) (by simp only[IsRet];grind[ckM])) (fun h1=>.no (dF ((8:Int)<(↑l.length:Int)) h1)<|.cutQ k263_0 [(0,.sl .sh (l.map encM)),(3,.int .i64 0)] (ζ1) (fun T hT=>(h (by omega) T hT).to (by grind[ckM]))))
end Go.Aa.T
set_option linter.unusedVariables false
set_option linter.unusedSimpArgs false
set_option maxRecDepth 100000
namespace Go.Aa.T
open Go.Aa Go.Proofs
def getP(s:List Pair)(k:List UInt8):Option (List UInt8):=(s.find? (fun p=>p.key==k)).map (·.val)
def getV(o:Option (List UInt8)):AV:=.tuple [.str (o.getD []),.bool o.isSome]
theorem get_loop(s:List Pair)(k:List UInt8)(hn:s.length<9223372036854775807):∀(post:List Pair)(i:Nat)(bs:List (List AV))(hd:s.drop i=post)(T:Env)
 (hT:Has T [(1,.str k),(8,.sl .sh (s.map encP)),(9,.int .i64 s.length),(10,.int .i64 i)]),
 Goes cfg a223 k223_0 T ⟨bs,[],[]⟩ (IsRet (getV (getP post k))):=by
 intro post
 induction post with
 |nil=>
  intro i bs hd T hT
  have hge:=drop_ge hd
  exact gG 60 _ hT (.no (dF ((↑i:Int)<(↑s.length:Int)))<|.fin ((.ret (.tuple [.str [],.bool false]),{boxes:=bs,toks:=[],loops:=[]:Heap})) rfl)
 |cons x post ih=>
  intro i bs hd T hT
  have hlt:=drop_lt hd
  have hnx:=drop_next hd
  exact let ζ1:Heap:={boxes:=bs++[[AV.str x.key,.str x.val]],toks:=[],loops:=[]:Heap};gG 60 _ hT (.yes (dT ((↑i:Int)<(↑s.length:Int)))<|.idx (iR 2 encP hd)<|.load (rfl:loadA true 2 {boxes:=bs,toks:=[],loops:=[]:Heap} (.ref [.str x.key,.str x.val])=some (.agg [.str x.key,.str x.val]))<|.store (show storeA 2 {boxes:=bs++[[AV.str [],.str []]],toks:=[],loops:=[]:Heap} (.ptr bs.length 0) (.agg [.str x.key,.str x.val])=some (ζ1)from store_box2 (cs:=[.str [],.str []]) (cs':=[.str x.key,.str x.val]) (by simp+zetaDelta) rfl (by simp+zetaDelta [List.set_append]))<|.load (lB false 1 ζ1 bs.length 0 (.str x.key) [.str x.key,.str x.val])<|.split ((x.key==k)=true) (fun h1=>.yes (show(x.key==k)=true from h1)<|.load (lB false 1 ζ1 bs.length 1 (.str x.val) [.str x.key,.str x.val])<|.fin ((.ret (.tuple [.str x.val,.bool true]),ζ1)) (by simp only[IsRet];grind[getP,getV])) (fun h1=>.no (show(x.key==k)=false from Bool.eq_false_iff.2 h1)<|.bin (iI i)<|.cutQ k223_0 [(1,.str k),(8,.sl .sh (s.map encP)),(9,.int .i64 (↑s.length)),(10,.int .i64 (↑(i+1)))] (ζ1) (fun T hT=>(ih (i+1) (bs++[[AV.str x.key,.str x.val]]) hnx T hT).to (by grind[getP,getV]))))
theorem get_any(s:List Pair)(k:List UInt8)(hn:s.length<9223372036854775807):Gives cfg 223 [.sl .sh (s.map encP),.str k] (getV (getP s k)):=by
 refine Gives.run (l223 _ _) ?_
 have h:=get_loop s k hn s 0 [] rfl
 exact gG 60 [] trivial (.len (lM .sh encP s)<|.cutQ k223_0 [(1,.str k),(8,.sl .sh (s.map encP)),(9,.int .i64 (↑s.length)),(10,.int .i64 0)] ({boxes:=[],toks:=[],loops:=[]:Heap}) (fun T hT=>(h T hT)))
def fidxB{α:Type}(p:α→Bool):List α→Nat→Int
 |[],_=> -1
 |x::l,i=>if p x then i else fidxB p l (i+1)
theorem fidxB_ge{α:Type}(p:α→Bool):∀(l:List α)(i:Nat),decide (0≤fidxB p l i)=l.any p
 |[],i=>rfl
 |x::l,i=>by
  unfold fidxB
  by_cases h:p x=true
  ·simp[h]
  ·have:=fidxB_ge p l (i+1);simp[h,this]
end Go.Aa.T
set_option linter.unusedVariables false
set_option linter.unusedSimpArgs false
set_option maxRecDepth 100000
namespace Go.Aa.T
open Go.Aa Go.Proofs
theorem fewT_len{l:List Taint}(h:fewT l=true):l.length≤20:=by
 simp only[fewT,Bool.and_eq_true,decide_eq_true_eq]at h;exact h.1
theorem fewL_len{l:List Tol}(h:fewL l=true):l.length≤20:=by
 simp only[fewL,Bool.and_eq_true,decide_eq_true_eq]at h;exact h.1
theorem in0_data{nb nt:Nat}:∀{x:AV},data0 x=true→in0 nb nt x=true
 |.undef,h=>by cases h
 |.bool _,_=>rfl
 |.int ..,_=>rfl
 |.flt _,_=>rfl
 |.nan,_=>rfl
 |.str _,_=>rfl
 |.sl .sh _,_=>rfl
 |.sl .full _,_=>rfl
 |.sl .nil _,h=>by cases h
 |.sl (.own _) _,h=>by cases h
 |.agg _,h=>by cases h
 |.tuple _,h=>by cases h
 |.ptr ..,h=>by cases h
 |.ref _,_=>rfl
 |.nilptr,_=>rfl
 |.func ..,h=>by cases h
 |.nilFunc,_=>rfl
 |.iface ..,h=>by cases h
 |.nilIface,_=>rfl
 |.msl ..,h=>by cases h
 |.yield _,h=>by cases h
theorem in2_data0{nb nt:Nat}{x:AV}(h:data0 x=true):in2 nb nt x=true:=by
 have:=in0_data (nb:=nb) (nt:=nt) h
 cases x<;>first|exact this|cases h
theorem trunc_plain{bs ex:List (List AV)}{ts:List Nat}{b:Bool}(hb:bs.all (·.all data0)=true):trunc bs.length ts.length (.bool b) ⟨bs++ex,ts,[]⟩=⟨bs,ts,[]⟩:=by
 have hin:∀nb nt,bs.all (·.all (in2 nb nt))=true:=fun nb nt=>by
  rw[List.all_eq_true]at hb⊢
  intro l hl
  have:=hb l hl
  rw[List.all_eq_true]at this⊢
  exact fun x hx=>in2_data0 (this x hx)
 unfold trunc
 simp only[List.take_left',hin,List.all_nil,Bool.true_and,Bool.and_true]
 simp[within,in2,in1,in0]
section
variable{H:Heap}{k:Nat}{p:Taint→Bool}
end
def one1(x:Tol)(t:Taint):Bool:=(x.key==[]||x.key==t.key)&&(x.any||x.val==t.val)
end Go.Aa.T
set_option linter.unusedVariables false
set_option linter.unusedSimpArgs false
set_option maxRecDepth 100000
namespace Go.Aa.T
open Go.Aa Go.Proofs
end Go.Aa.T
set_option linter.unusedVariables false
set_option linter.unusedSimpArgs false
set_option maxRecDepth 100000
namespace Go.Aa.T
open Go.Aa Go.Proofs
structure Amount where
 name:List UInt8
 n:Int
def encA(x:Amount):AV:=.agg [.str x.name,.int .i64 x.n]
instance(x:Amount):Dat (encA x):=⟨rfl,rfl⟩
theorem lenA2{l:List Amount}:lenOk 2 (l.map encA)=true:=lenOk_map fun _=>rfl
def ordV(s:List Amount)(i:Nat)(x:Amount):Bool:=match i with
 |0=>false
 |j+1=>match s[j]? with
  |some p=>Op.bytesLess x.name p.name||x.name==p.name
  |none=>false
def ckVl(s:List Amount):Nat→List Amount→Int
 |_,[]=>0
 |i,x::post=>if isName x.name then(if x.n≤0 then 1 else if ordV s i x then 13 else ckVl s (i+1) post)else 3
def ckV(s:List Amount):Int:=if s.length≤8 then ckVl s 0 s else 4
theorem ckV_ref_loop(l:List Amount)(hn:l.length≤8):∀(post:List Amount)(i:Nat)(hd:l.drop i=post)(T:Env)(hT:Has T [(0,.sl .sh (l.map encA)),(3,.int .i64 i)]),
 Goes cfg a260 k260_0 T Heap.nil (IsRet (.int .i64 (ckVl l i post))):=by
 intro post
 induction post with
 |nil=>
  intro i hd T hT
  have hge:=drop_ge hd
  exact gG 60 _ hT (.len (lM .sh encA l)<|.no (dF ((↑i:Int)<(↑l.length:Int)))<|.fin ((.ret (.int .i64 0),{boxes:=[],toks:=[],loops:=[]:Heap})) rfl)
 |cons x post ih=>
  intro i hd T hT
  have hlt:=drop_lt hd
  have hnx:=drop_next hd
  cases i with
  |zero=>exact let ζ1:Heap:={boxes:=[],toks:=[],loops:=[]:Heap};gG 60 _ hT (.len (lM .sh encA l)<|.yes (dT ((↑(0:Nat):Int)<(↑l.length:Int)))<|.idx (show idxA 2 (.sl .sh (l.map encA)) (.int .i64 (↑(0:Nat):Int))=some (.ref (encA x).cells)from idx_row hd (by rfl))<|.callK ([.str x.name]) (.bool (isName x.name)) (show Gives cfg 259 [.str x.name] (.bool (isName x.name))from name_any _)<|.split (isName x.name=true) (fun h1=>.no (show(!isName x.name)=false from by have hh:isName x.name=true:=h1;simp[hh])<|.idx (show idxA 2 (.sl .sh (l.map encA)) (.int .i64 (↑(0:Nat):Int))=some (.ref (encA x).cells)from idx_row hd (by rfl))<|.split (x.n≤(0:Int)) (fun h2=>.yes (dT (x.n≤(0:Int)) h2)<|.fin ((.ret (.int .i64 1),ζ1)) (by simp only[IsRet];grind[ckVl,ordV])) (fun h2=>.no (dF (x.n≤(0:Int)) h2)<|.ff<|.ff<|.bin (show binA .add (.int .i64 (↑(0:Nat):Int)) (.int .i64 1)=some (.int .i64 (↑(0+1):Int))from inc_i (by omega))<|.cutQ k260_0 [(0,.sl .sh (l.map encA)),(3,.int .i64 (↑(0+1):Int))] (ζ1) (fun T hT=>(ih (0+1) hnx T hT).to (by grind[ckVl,ordV])))) (fun h1=>.yes (show(!isName x.name)=true from by have hh:¬(isName x.name=true):=h1;simp[hh])<|.fin ((.ret (.int .i64 3),ζ1)) (by simp only[IsRet];grind[ckVl,ordV])))
  |succ j=>
   obtain⟨p,hp⟩:∃p,l[j]?=some p:=⟨l[j],List.getElem?_eq_getElem (by omega)⟩
   exact let ζ1:Heap:={boxes:=[],toks:=[],loops:=[]:Heap};gG 60 _ hT (.len (lM .sh encA l)<|.yes (dT ((↑(j+1):Int)<(↑l.length:Int)))<|.idx (show idxA 2 (.sl .sh (l.map encA)) (.int .i64 (↑(j+1):Int))=some (.ref (encA x).cells)from idx_row hd (by rfl))<|.callK ([.str x.name]) (.bool (isName x.name)) (show Gives cfg 259 [.str x.name] (.bool (isName x.name))from name_any _)<|.split (isName x.name=true) (fun h1=>.no (show(!isName x.name)=false from by have hh:isName x.name=true:=h1;simp[hh])<|.idx (show idxA 2 (.sl .sh (l.map encA)) (.int .i64 (↑(j+1):Int))=some (.ref (encA x).cells)from idx_row hd (by rfl))<|.split (x.n≤(0:Int)) (fun h2=>.yes (dT (x.n≤(0:Int)) h2)<|.fin ((.ret (.int .i64 1),ζ1)) (by simp only[IsRet];grind[ckVl,ordV])) (fun h2=>.no (dF (x.n≤(0:Int)) h2)<|.yes (dT ((0:Int)<(↑(j+1):Int)))<|.idx (show idxA 2 (.sl .sh (l.map encA)) (.int .i64 (↑(j+1):Int))=some (.ref (encA x).cells)from idx_row hd (by rfl))<|.bin (show binA .sub (.int .i64 (↑(j+1):Int)) (.int .i64 1)=some (.int .i64 ↑j)from dec_i (by omega))<|.idx (show idxA 2 (.sl .sh (l.map encA)) (.int .i64 ↑j)=some (.ref (encA p).cells)from idx_get hp (by rfl))<|.split ((Op.bytesLess x.name p.name||x.name==p.name)=true) (fun h3=>.yes (show(Op.bytesLess x.name p.name||x.name==p.name)=true from h3)<|.fin ((.ret (.int .i64 13),ζ1)) (by simp only[IsRet];grind[ckVl,ordV])) (fun h3=>.no (show(Op.bytesLess x.name p.name||x.name==p.name)=false from Bool.eq_false_iff.2 h3)<|.bin (show binA .add (.int .i64 (↑(j+1):Int)) (.int .i64 1)=some (.int .i64 (↑(j+1+1):Int))from inc_i (by omega))<|.cutQ k260_0 [(0,.sl .sh (l.map encA)),(3,.int .i64 (↑(j+1+1):Int))] (ζ1) (fun T hT=>(ih (j+1+1) hnx T hT).to (by grind[ckVl,ordV]))))) (fun h1=>.yes (show(!isName x.name)=true from by have hh:¬(isName x.name=true):=h1;simp[hh])<|.fin ((.ret (.int .i64 3),ζ1)) (by simp only[IsRet];grind[ckVl,ordV])))
theorem ckV_ref(l:List Amount):Gives cfg 260 [.sl .sh (l.map encA)] (.int .i64 (ckV l)):=by
 refine Gives.run (l260 _ _) ?_
 have h:=fun hn=>ckV_ref_loop l hn l 0 rfl
 exact let ζ1:Heap:={boxes:=[],toks:=[],loops:=[]:Heap};gG 60 [] trivial (.len (lM .sh encA l)<|.split ((8:Int)<(↑l.length:Int)) (fun h1=>.yes (dT ((8:Int)<(↑l.length:Int)) h1)<|.fin ((.ret (.int .i64 4),ζ1)) (by simp only[IsRet];grind[ckV])) (fun h1=>.no (dF ((8:Int)<(↑l.length:Int)) h1)<|.cutQ k260_0 [(0,.sl .sh (l.map encA)),(3,.int .i64 0)] (ζ1) (fun T hT=>(h (by omega) T hT).to (by grind[ckV]))))
theorem ckV_loop(l:List Amount)(hn:l.length≤8):∀(post:List Amount)(i:Nat)(bs:List (List AV))(hd:l.drop i=post)(T:Env)(hT:Has T [(0,.sl .sh (l.map encA)),(8,.sl .sh (l.map encA)),(9,.int .i64 l.length),(10,.int .i64 i)]),
 Goes cfg a247 k247_0 T ⟨bs,[],[]⟩ (IsRet (.int .i64 (ckVl l i post))):=by
 intro post
 induction post with
 |nil=>
  intro i bs hd T hT
  have hge:=drop_ge hd
  exact gG 60 _ hT (.no (dF ((↑i:Int)<(↑l.length:Int)))<|.fin ((.ret (.int .i64 0),{boxes:=bs,toks:=[],loops:=[]:Heap})) rfl)
 |cons x post ih=>
  intro i bs hd T hT
  have hlt:=drop_lt hd
  have hnx:=drop_next hd
  cases i with
  |zero=>exact let ζ1:Heap:={boxes:=bs++[[AV.str x.name,.int .i64 x.n]],toks:=[],loops:=[]:Heap};gG 60 _ hT (.yes (dT ((↑(0:Nat):Int)<(↑l.length:Int)))<|.idx (show idxA 2 (.sl .sh (l.map encA)) (.int .i64 (↑(0:Nat):Int))=some (.ref (encA x).cells)from idx_row hd (by rfl))<|.load (rfl:loadA true 2 {boxes:=bs,toks:=[],loops:=[]:Heap} (.ref [.str x.name,.int .i64 x.n])=some (.agg [.str x.name,.int .i64 x.n]))<|.store (show storeA 2 {boxes:=bs++[[AV.str [],.int .i64 0]],toks:=[],loops:=[]:Heap} (.ptr bs.length 0) (.agg [.str x.name,.int .i64 x.n])=some (ζ1)from store_box2 (cs:=[.str [],.int .i64 0]) (cs':=[.str x.name,.int .i64 x.n]) (by simp+zetaDelta) rfl (by simp+zetaDelta [List.set_append]))<|.load (lB false 1 ζ1 bs.length 0 (.str x.name) [.str x.name,.int .i64 x.n])<|.callK ([.str x.name]) (.bool (isName x.name)) (show Gives cfg 235 [.str x.name] (.bool (isName x.name))from res_name _)<|.split (isName x.name=true) (fun h1=>.no (show(!isName x.name)=false from by have hh:isName x.name=true:=h1;simp[hh])<|.load (lB false 1 ζ1 bs.length 1 (.int .i64 x.n) [.str x.name,.int .i64 x.n])<|.split (x.n≤(0:Int)) (fun h2=>.yes (dT (x.n≤(0:Int)) h2)<|.fin ((.ret (.int .i64 1),ζ1)) (by simp only[IsRet];grind[ckVl,ordV])) (fun h2=>.no (dF (x.n≤(0:Int)) h2)<|.ff<|.ff<|.bin (show binA .add (.int .i64 (↑(0:Nat):Int)) (.int .i64 1)=some (.int .i64 (↑(0+1):Int))from inc_i (by omega))<|.cutQ k247_0 [(0,.sl .sh (l.map encA)),(8,.sl .sh (l.map encA)),(9,.int .i64 (↑l.length)),(10,.int .i64 (↑(0+1):Int))] (ζ1) (fun T hT=>(ih (0+1) (bs++[[AV.str x.name,.int .i64 x.n]]) hnx T hT).to (by grind[ckVl,ordV])))) (fun h1=>.yes (show(!isName x.name)=true from by have hh:¬(isName x.name=true):=h1;simp[hh])<|.fin ((.ret (.int .i64 3),ζ1)) (by simp only[IsRet];grind[ckVl,ordV])))
  |succ j=>
   obtain⟨p,hp⟩:∃p,l[j]?=some p:=⟨l[j],List.getElem?_eq_getElem (by omega)⟩
   exact let ζ1:Heap:={boxes:=bs++[[AV.str x.name,.int .i64 x.n]],toks:=[],loops:=[]:Heap};gG 60 _ hT (.yes (dT ((↑(j+1):Int)<(↑l.length:Int)))<|.idx (show idxA 2 (.sl .sh (l.map encA)) (.int .i64 (↑(j+1):Int))=some (.ref (encA x).cells)from idx_row hd (by rfl))<|.load (rfl:loadA true 2 {boxes:=bs,toks:=[],loops:=[]:Heap} (.ref [.str x.name,.int .i64 x.n])=some (.agg [.str x.name,.int .i64 x.n]))<|.store (show storeA 2 {boxes:=bs++[[AV.str [],.int .i64 0]],toks:=[],loops:=[]:Heap} (.ptr bs.length 0) (.agg [.str x.name,.int .i64 x.n])=some (ζ1)from store_box2 (cs:=[.str [],.int .i64 0]) (cs':=[.str x.name,.int .i64 x.n]) (by simp+zetaDelta) rfl (by simp+zetaDelta [List.set_append]))<|.load (lB false 1 ζ1 bs.length 0 (.str x.name) [.str x.name,.int .i64 x.n])<|.callK ([.str x.name]) (.bool (isName x.name)) (show Gives cfg 235 [.str x.name] (.bool (isName x.name))from res_name _)<|.split (isName x.name=true) (fun h1=>.no (show(!isName x.name)=false from by have hh:isName x.name=true:=h1;simp[hh])<|.load (lB false 1 ζ1 bs.length 1 (.int .i64 x.n) [.str x.name,.int .i64 x.n])<|.split (x.n≤(0:Int)) (fun h2=>.yes (dT (x.n≤(0:Int)) h2)<|.fin ((.ret (.int .i64 1),ζ1)) (by simp only[IsRet];grind[ckVl,ordV])) (fun h2=>.no (dF (x.n≤(0:Int)) h2)<|.yes (dT ((0:Int)<(↑(j+1):Int)))<|.load (lB false 1 ζ1 bs.length 0 (.str x.name) [.str x.name,.int .i64 x.n])<|.bin (show binA .sub (.int .i64 (↑(j+1):Int)) (.int .i64 1)=some (.int .i64 ↑j)from dec_i (by omega))<|.idx (show idxA 2 (.sl .sh (l.map encA)) (.int .i64 ↑j)=some (.ref (encA p).cells)from idx_get hp (by rfl))<|.load (rfl:loadA false 1 ζ1 (.ref [.str p.name])=some (.str p.name))<|.split ((Op.bytesLess x.name p.name||x.name==p.name)=true) (fun h3=>.yes (show(Op.bytesLess x.name p.name||x.name==p.name)=true from h3)<|.fin ((.ret (.int .i64 13),ζ1)) (by simp only[IsRet];grind[ckVl,ordV])) (fun h3=>.no (show(Op.bytesLess x.name p.name||x.name==p.name)=false from Bool.eq_false_iff.2 h3)<|.bin (show binA .add (.int .i64 (↑(j+1):Int)) (.int .i64 1)=some (.int .i64 (↑(j+1+1):Int))from inc_i (by omega))<|.cutQ k247_0 [(0,.sl .sh (l.map encA)),(8,.sl .sh (l.map encA)),(9,.int .i64 (↑l.length)),(10,.int .i64 (↑(j+1+1):Int))] (ζ1) (fun T hT=>(ih (j+1+1) (bs++[[AV.str x.name,.int .i64 x.n]]) hnx T hT).to (by grind[ckVl,ordV]))))) (fun h1=>.yes (show(!isName x.name)=true from by have hh:¬(isName x.name=true):=h1;simp[hh])<|.fin ((.ret (.int .i64 3),ζ1)) (by simp only[IsRet];grind[ckVl,ordV])))
theorem ckV_any(l:List Amount):Gives cfg 247 [.sl .sh (l.map encA)] (.int .i64 (ckV l)):=by
 refine Gives.run (l247 _ _) ?_
 have h:=fun hn=>ckV_loop l hn l 0 [] rfl
 exact let ζ1:Heap:={boxes:=[],toks:=[],loops:=[]:Heap};gG 60 [] trivial (.len (lM .sh encA l)<|.split ((8:Int)<(↑l.length:Int)) (fun h1=>.yes (dT ((8:Int)<(↑l.length:Int)) h1)<|.fin ((.ret (.int .i64 4),ζ1)) (by simp only[IsRet];grind[ckV])) (fun h1=>.no (dF ((8:Int)<(↑l.length:Int)) h1)<|.len (lM .sh encA l)<|.cutQ k247_0 [(0,.sl .sh (l.map encA)),(8,.sl .sh (l.map encA)),(9,.int .i64 (↑l.length)),(10,.int .i64 0)] (ζ1) (fun T hT=>(h (by omega) T hT).to (by grind[ckV]))))
end Go.Aa.T
set_option linter.unusedVariables false
set_option linter.unusedSimpArgs false
set_option maxRecDepth 100000
namespace Go.Aa.T
open Go.Aa Go.Proofs
def firstE:List Int→Int
 |[]=>0
 |x::r=>if x=0 then firstE r else x
end Go.Aa.T
set_option linter.unusedVariables false
set_option linter.unusedSimpArgs false
set_option maxRecDepth 100000
namespace Go.Aa.T
open Go.Aa Go.Proofs
structure Node where
 name:List UInt8
 cap:List Amount
 labels:List Pair
 taints:List Taint
 cordon:Bool
def encN(n:Node):AV:=.agg [.str n.name,.sl .sh (n.cap.map encA),.sl .sh (n.labels.map encP),.sl .sh (n.taints.map encT),.bool n.cordon]
def ckN(n:Node):Int:=firstE [if isName n.name then 0 else 3,ckV n.cap,ckS n.labels,ckT n.taints]
end Go.Aa.T
set_option linter.unusedVariables false
set_option linter.unusedSimpArgs false
set_option maxRecDepth 100000
namespace Go.Aa.T
open Go.Aa Go.Proofs
end Go.Aa.T
set_option linter.unusedVariables false
set_option linter.unusedSimpArgs false
set_option maxRecDepth 100000
namespace Go.Aa.T
open Go.Aa Go.Proofs
def short1(x:Amount):Bool:=decide (x.name.length≤50)
def fewA(l:List Amount):Bool:=decide (l.length≤20)&&l.all short1
theorem fewA_len{l:List Amount}(h:fewA l=true):l.length≤20:=by
 simp only[fewA,Bool.and_eq_true,decide_eq_true_eq]at h;exact h.1
theorem fewA_loop(l:List Amount)(hn:l.length≤20):∀(post:List Amount)(i:Nat)(hd:l.drop i=post)(T:Env)(hT:Has T [(0,.sl .sh (l.map encA)),(3,.int .i64 i)]),
 Goes cfg a203 k203_0 T Heap.nil (IsRet (.bool (post.all short1))):=by
 intro post
 induction post with
 |nil=>
  intro i hd T hT
  have hge:=drop_ge hd
  exact gG 60 _ hT (.len (lM .sh encA l)<|.no (dF ((↑i:Int)<(↑l.length:Int)))<|.fin ((.ret (.bool true),{boxes:=[],toks:=[],loops:=[]:Heap})) rfl)
 |cons x post ih=>
  intro i hd T hT
  have hlt:=drop_lt hd
  have hnx:=drop_next hd
  exact let ζ1:Heap:={boxes:=[],toks:=[],loops:=[]:Heap};gG 60 _ hT (.len (lM .sh encA l)<|.yes (dT ((↑i:Int)<(↑l.length:Int)))<|.idx (iR 2 encA hd)<|.len (show lenA true (.str x.name)=some (.int .i64 (↑x.name.length))from len_str _)<|.split ((50:Int)<(↑x.name.length:Int)) (fun h1=>.yes (dT ((50:Int)<(↑x.name.length:Int)) h1)<|.fin ((.ret (.bool false),ζ1)) (by simp only[IsRet];grind[short1])) (fun h1=>.no (dF ((50:Int)<(↑x.name.length:Int)) h1)<|.bin (iI i)<|.cutQ k203_0 [(0,.sl .sh (l.map encA)),(3,.int .i64 (↑(i+1)))] (ζ1) (fun T hT=>(ih (i+1) hnx T hT).to (by grind[short1]))))
theorem fewA_any(l:List Amount):Gives cfg 203 [.sl .sh (l.map encA)] (.bool (fewA l)):=by
 refine Gives.run (l203 _ _) ?_
 have h:=fun hn=>fewA_loop l hn l 0 rfl
 exact let ζ1:Heap:={boxes:=[],toks:=[],loops:=[]:Heap};gG 60 [] trivial (.len (lM .sh encA l)<|.split ((20:Int)<(↑l.length:Int)) (fun h1=>.yes (dT ((20:Int)<(↑l.length:Int)) h1)<|.fin ((.ret (.bool false),ζ1)) (by simp only[IsRet];grind[fewA])) (fun h1=>.no (dF ((20:Int)<(↑l.length:Int)) h1)<|.cutQ k203_0 [(0,.sl .sh (l.map encA)),(3,.int .i64 0)] (ζ1) (fun T hT=>(h (by omega) T hT).to (by grind[fewA]))))
theorem ofA_loop(l:List Amount)(hn:l.length≤20):∀(post:List Amount)(i:Nat)(acc:List AV)(hd:l.drop i=post)(ha:acc.length=i)(hl:lenOk 2 acc=true)(T:Env)(hT:Has T [(0,.sl .sh (l.map encA)),(3,rowS Heap.nil acc),(4,.int .i64 i)]),
 Goes cfg a196 k196_0 T (rowH Heap.nil acc) (IsRet (rowS Heap.nil (acc++post.map encA))):=by
 intro post
 induction post with
 |nil=>
  intro i acc hd ha hl T hT
  have hge:=drop_ge hd
  exact gG 60 _ hT (.len (lM .sh encA l)<|.no (dF ((↑i:Int)<(↑l.length:Int)))<|.fin ((.ret (setD (setD (setD (setD (setD (setD (updL T [(0,.sl .sh (l.map encA)),(3,rowS Heap.nil acc),(4,.int .i64 ↑i)]) (some 5) (ev (updL T [(0,.sl .sh (l.map encA)),(3,rowS Heap.nil acc),(4,.int .i64 ↑i)]) (.t 4))) (some 6) (ev (setD (updL T [(0,.sl .sh (l.map encA)),(3,rowS Heap.nil acc),(4,.int .i64 ↑i)]) (some 5) (ev (updL T [(0,.sl .sh (l.map encA)),(3,rowS Heap.nil acc),(4,.int .i64 ↑i)]) (.t 4))) (.t 0))) (some 7) (.int .i64 (↑l.length))) (some 8) (.bool (decide ((↑i:Int)<(↑l.length:Int))))) (some 25) (ev (setD (setD (setD (setD (updL T [(0,.sl .sh (l.map encA)),(3,rowS Heap.nil acc),(4,.int .i64 ↑i)]) (some 5) (ev (updL T [(0,.sl .sh (l.map encA)),(3,rowS Heap.nil acc),(4,.int .i64 ↑i)]) (.t 4))) (some 6) (ev (setD (updL T [(0,.sl .sh (l.map encA)),(3,rowS Heap.nil acc),(4,.int .i64 ↑i)]) (some 5) (ev (updL T [(0,.sl .sh (l.map encA)),(3,rowS Heap.nil acc),(4,.int .i64 ↑i)]) (.t 4))) (.t 0))) (some 7) (.int .i64 (↑l.length))) (some 8) (.bool (decide ((↑i:Int)<(↑l.length:Int))))) (.t 3))) (some 2) (ev (setD (setD (setD (setD (setD (updL T [(0,.sl .sh (l.map encA)),(3,rowS Heap.nil acc),(4,.int .i64 ↑i)]) (some 5) (ev (updL T [(0,.sl .sh (l.map encA)),(3,rowS Heap.nil acc),(4,.int .i64 ↑i)]) (.t 4))) (some 6) (ev (setD (updL T [(0,.sl .sh (l.map encA)),(3,rowS Heap.nil acc),(4,.int .i64 ↑i)]) (some 5) (ev (updL T [(0,.sl .sh (l.map encA)),(3,rowS Heap.nil acc),(4,.int .i64 ↑i)]) (.t 4))) (.t 0))) (some 7) (.int .i64 (↑l.length))) (some 8) (.bool (decide ((↑i:Int)<(↑l.length:Int))))) (some 25) (ev (setD (setD (setD (setD (updL T [(0,.sl .sh (l.map encA)),(3,rowS Heap.nil acc),(4,.int .i64 ↑i)]) (some 5) (ev (updL T [(0,.sl .sh (l.map encA)),(3,rowS Heap.nil acc),(4,.int .i64 ↑i)]) (.t 4))) (some 6) (ev (setD (updL T [(0,.sl .sh (l.map encA)),(3,rowS Heap.nil acc),(4,.int .i64 ↑i)]) (some 5) (ev (updL T [(0,.sl .sh (l.map encA)),(3,rowS Heap.nil acc),(4,.int .i64 ↑i)]) (.t 4))) (.t 0))) (some 7) (.int .i64 (↑l.length))) (some 8) (.bool (decide ((↑i:Int)<(↑l.length:Int))))) (.t 3))) (.t 25)) 2),rowH Heap.nil acc)) (by simp only[IsRet,List.map_nil,List.append_nil];rfl))
 |cons x post ih=>
  intro i acc hd ha hl T hT
  have hlt:=drop_lt hd
  have hnx:=drop_next hd
  exact gG 60 _ hT (.len (lM .sh encA l)<|.yes (dT ((↑i:Int)<(↑l.length:Int)) (by simp;omega))<|.idx (iR 2 encA hd)<|.load (rfl:loadA false 1 (rowH Heap.nil acc) (.ref [.str x.name])=some (.str x.name))<|.idx (iR 2 encA hd)<|.load (rfl:loadA false 1 (rowH Heap.nil acc) (.ref [.int .i64 x.n])=some (.int .i64 x.n))<|.append (show appendA 2 24 (rowH Heap.nil acc) (rowS Heap.nil acc) (.sl .full [.agg [.str x.name,.int .i64 x.n]])=some ((rowS Heap.nil (acc++[AV.agg [.str x.name,.int .i64 x.n]]),rowH Heap.nil (acc++[AV.agg [.str x.name,.int .i64 x.n]])))from row_append (by omega) hl (by rfl) (by rfl))<|.bin (iI i)<|.cutQ k196_0 [(0,.sl .sh (l.map encA)),(3,rowS Heap.nil (acc++[AV.agg [.str x.name,.int .i64 x.n]])),(4,.int .i64 (↑(i+1)))] (rowH Heap.nil (acc++[AV.agg [.str x.name,.int .i64 x.n]])) (fun T hT=>(ih (i+1) (acc++[AV.agg [.str x.name,.int .i64 x.n]]) hnx (by simp;omega) (by exact lenOk_snoc (by assumption) rfl) T hT).to (by simp[encA])))
theorem ofA_any(l:List Amount)(hn:l.length≤20):Gives cfg 196 [.sl .sh (l.map encA)] (rowS Heap.nil (l.map encA)):=by
 refine Gives.run (l196 _ _) ?_
 have h:=ofA_loop l hn l 0 [] rfl rfl rfl
 exact gG 60 [] trivial (.cutQ k196_0 [(0,.sl .sh (l.map encA)),(3,.sl .full []),(4,.int .i64 0)] ({boxes:=[],toks:=[],loops:=[]:Heap}) (fun T hT=>(h T hT)))
instance(n:Node):Dat (encN n):=⟨rfl,rfl⟩
def fewN(n:Node):Bool:=decide (n.name.length≤50)&&(fewA n.cap&&(fewP n.labels&&fewT n.taints))
theorem fewN_any(n:Node):Gives cfg 116 [encN n] (.bool (fewN n)):=by
 refine Gives.run (l116 _ _) ?_
 exact let ζ1:Heap:={boxes:=[[.str n.name,.sl .sh (n.cap.map encA),.sl .sh (n.labels.map encP),.sl .sh (n.taints.map encT),.bool n.cordon]],toks:=[],loops:=[]:Heap};gG 80 [] trivial (.len (show lenA true (.str n.name)=some (.int .i64 (↑n.name.length))from len_str _)<|.split ((↑n.name.length:Int)≤(50:Int)) (fun h1=>.yes (dT ((↑n.name.length:Int)≤(50:Int)) h1)<|.callK ([.sl .sh (n.cap.map encA)]) (.bool (fewA n.cap)) (show Gives cfg 203 [.sl .sh (n.cap.map encA)] (.bool (fewA n.cap))from fewA_any _)<|.split (fewA n.cap=true) (fun h2=>.yes (show(fewA n.cap)=true from h2)<|.callK ([.sl .sh (n.labels.map encP)]) (.bool (fewP n.labels)) (show Gives cfg 204 [.sl .sh (n.labels.map encP)] (.bool (fewP n.labels))from fewP_any _)<|.split (fewP n.labels=true) (fun h3=>.yes (show(fewP n.labels)=true from h3)<|.callK ([.sl .sh (n.taints.map encT)]) (.bool (fewT n.taints)) (show Gives cfg 205 [.sl .sh (n.taints.map encT)] (.bool (fewT n.taints))from fewT_any _)<|.fin ((.ret (.bool (fewT n.taints)),ζ1)) (by simp only[IsRet];grind[fewN])) (fun h3=>.no (show(fewP n.labels)=false from Bool.eq_false_iff.2 h3)<|.fin ((.ret (.bool false),ζ1)) (by simp only[IsRet];grind[fewN]))) (fun h2=>.no (show(fewA n.cap)=false from Bool.eq_false_iff.2 h2)<|.ff<|.fin ((.ret (.bool false),ζ1)) (by simp only[IsRet];grind[fewN]))) (fun h1=>.no (dF ((↑n.name.length:Int)≤(50:Int)) h1)<|.ff<|.ff<|.fin ((.ret (.bool false),ζ1)) (by simp only[IsRet];grind[fewN])))
structure FewNd(n:Node):Prop where
 cap:n.cap.length≤20
 labels:n.labels.length≤20
 taints:n.taints.length≤20
theorem fewNd{n:Node}(h:fewN n=true):FewNd n:=by
 simp only[fewN,Bool.and_eq_true,decide_eq_true_eq]at h
 exact⟨fewA_len h.2.1,fewP_len h.2.2.1,fewT_len h.2.2.2⟩
theorem ofN1(n:Node)(m1:n.cap.length≤20)(m2:n.labels.length≤20)(m3:n.taints.length≤20):Gives cfg 124 [encN n] (encN n):=by
 refine Gives.run (l124 _ _) ?_
 exact let ζ1:List AV:=[.str n.name,.sl .sh (n.cap.map encA),.sl .sh (n.labels.map encP),.sl .sh (n.taints.map encT),.bool n.cordon];gG 80 [] trivial (.callG ([.sl .sh (n.cap.map encA)]) (.sl .sh (n.cap.map encA)) (show Gives cfg 196 [.sl .sh (n.cap.map encA)] (rowS Heap.nil (n.cap.map encA))from ofA_any _ m1) ⟨rfl,rfl⟩ Res.p<|.callG ([.sl .sh (n.labels.map encP)]) (.sl .sh (n.labels.map encP)) (show Gives cfg 197 [.sl .sh (n.labels.map encP)] (rowS Heap.nil (n.labels.map encP))from ofP_any _ m2) ⟨rfl,rfl⟩ Res.p<|.callG ([.sl .sh (n.taints.map encT)]) (.sl .sh (n.taints.map encT)) (show Gives cfg 212 [.sl .sh (n.taints.map encT)] (rowS Heap.nil (n.taints.map encT))from ofT_any _ m3) ⟨rfl,rfl⟩ Res.p<|.fin ((.ret (.agg ζ1),{boxes:=[ζ1,ζ1],toks:=[],loops:=[]:Heap})) rfl)
theorem ofN_any(n:Node)(h:fewN n=true):Gives cfg 124 [encN n] (encN n):=ofN1 n (fewNd h).cap (fewNd h).labels (fewNd h).taints
theorem ofNs_loop(l:List Node)(hn:l.length≤40)(hf:∀x∈l,fewN x=true):∀(post:List Node)(i:Nat)(acc:List AV)(hd:l.drop i=post)(ha:acc.length=i)(hl:lenOk 5 acc=true)(T:Env)(hT:Has T [(0,.sl .sh (l.map encN)),(3,rowS Heap.nil acc),(4,.int .i64 i)]),
 Goes cfg a53 k53_0 T (rowH Heap.nil acc) (IsRet (rowS Heap.nil (acc++post.map encN))):=by
 intro post
 induction post with
 |nil=>
  intro i acc hd ha hl T hT
  have hge:=drop_ge hd
  exact gG 60 _ hT (.len (lM .sh encN l)<|.no (dF ((↑i:Int)<(↑l.length:Int)))<|.fin ((.ret (setD (setD (setD (setD (setD (setD (updL T [(0,.sl .sh (l.map encN)),(3,rowS Heap.nil acc),(4,.int .i64 ↑i)]) (some 5) (ev (updL T [(0,.sl .sh (l.map encN)),(3,rowS Heap.nil acc),(4,.int .i64 ↑i)]) (.t 4))) (some 6) (ev (setD (updL T [(0,.sl .sh (l.map encN)),(3,rowS Heap.nil acc),(4,.int .i64 ↑i)]) (some 5) (ev (updL T [(0,.sl .sh (l.map encN)),(3,rowS Heap.nil acc),(4,.int .i64 ↑i)]) (.t 4))) (.t 0))) (some 7) (.int .i64 (↑l.length))) (some 8) (.bool (decide ((↑i:Int)<(↑l.length:Int))))) (some 19) (ev (setD (setD (setD (setD (updL T [(0,.sl .sh (l.map encN)),(3,rowS Heap.nil acc),(4,.int .i64 ↑i)]) (some 5) (ev (updL T [(0,.sl .sh (l.map encN)),(3,rowS Heap.nil acc),(4,.int .i64 ↑i)]) (.t 4))) (some 6) (ev (setD (updL T [(0,.sl .sh (l.map encN)),(3,rowS Heap.nil acc),(4,.int .i64 ↑i)]) (some 5) (ev (updL T [(0,.sl .sh (l.map encN)),(3,rowS Heap.nil acc),(4,.int .i64 ↑i)]) (.t 4))) (.t 0))) (some 7) (.int .i64 (↑l.length))) (some 8) (.bool (decide ((↑i:Int)<(↑l.length:Int))))) (.t 3))) (some 2) (ev (setD (setD (setD (setD (setD (updL T [(0,.sl .sh (l.map encN)),(3,rowS Heap.nil acc),(4,.int .i64 ↑i)]) (some 5) (ev (updL T [(0,.sl .sh (l.map encN)),(3,rowS Heap.nil acc),(4,.int .i64 ↑i)]) (.t 4))) (some 6) (ev (setD (updL T [(0,.sl .sh (l.map encN)),(3,rowS Heap.nil acc),(4,.int .i64 ↑i)]) (some 5) (ev (updL T [(0,.sl .sh (l.map encN)),(3,rowS Heap.nil acc),(4,.int .i64 ↑i)]) (.t 4))) (.t 0))) (some 7) (.int .i64 (↑l.length))) (some 8) (.bool (decide ((↑i:Int)<(↑l.length:Int))))) (some 19) (ev (setD (setD (setD (setD (updL T [(0,.sl .sh (l.map encN)),(3,rowS Heap.nil acc),(4,.int .i64 ↑i)]) (some 5) (ev (updL T [(0,.sl .sh (l.map encN)),(3,rowS Heap.nil acc),(4,.int .i64 ↑i)]) (.t 4))) (some 6) (ev (setD (updL T [(0,.sl .sh (l.map encN)),(3,rowS Heap.nil acc),(4,.int .i64 ↑i)]) (some 5) (ev (updL T [(0,.sl .sh (l.map encN)),(3,rowS Heap.nil acc),(4,.int .i64 ↑i)]) (.t 4))) (.t 0))) (some 7) (.int .i64 (↑l.length))) (some 8) (.bool (decide ((↑i:Int)<(↑l.length:Int))))) (.t 3))) (.t 19)) 2),rowH Heap.nil acc)) (by simp only[IsRet,List.map_nil,List.append_nil];rfl))
 |cons x post ih=>
  intro i acc hd ha hl T hT
  have hlt:=drop_lt hd
  have hnx:=drop_next hd
  have hx:=hf x (drop_mem hd)
  exact gG 60 _ hT (.len (lM .sh encN l)<|.yes (dT ((↑i:Int)<(↑l.length:Int)) (by simp;omega))<|.idx (iR 5 encN hd)<|.load (rfl:loadA true 5 (rowH Heap.nil acc) (.ref [.str x.name,.sl .sh (x.cap.map encA),.sl .sh (x.labels.map encP),.sl .sh (x.taints.map encT),.bool x.cordon])=some (.agg [.str x.name,.sl .sh (x.cap.map encA),.sl .sh (x.labels.map encP),.sl .sh (x.taints.map encT),.bool x.cordon]))<|.callK ([.agg [.str x.name,.sl .sh (x.cap.map encA),.sl .sh (x.labels.map encP),.sl .sh (x.taints.map encT),.bool x.cordon]]) (.agg [.str x.name,.sl .sh (x.cap.map encA),.sl .sh (x.labels.map encP),.sl .sh (x.taints.map encT),.bool x.cordon]) (show Gives cfg 124 [encN x] (encN x)from ofN_any _ hx)<|.append (show appendA 5 96 (rowH Heap.nil acc) (rowS Heap.nil acc) (.sl .full [.agg [.str x.name,.sl .sh (x.cap.map encA),.sl .sh (x.labels.map encP),.sl .sh (x.taints.map encT),.bool x.cordon]])=some ((rowS Heap.nil (acc++[AV.agg [.str x.name,.sl .sh (x.cap.map encA),.sl .sh (x.labels.map encP),.sl .sh (x.taints.map encT),.bool x.cordon]]),rowH Heap.nil (acc++[AV.agg [.str x.name,.sl .sh (x.cap.map encA),.sl .sh (x.labels.map encP),.sl .sh (x.taints.map encT),.bool x.cordon]])))from row_append (by omega) hl (by rfl) (by rfl))<|.bin (iI i)<|.cutQ k53_0 [(0,.sl .sh (l.map encN)),(3,rowS Heap.nil (acc++[AV.agg [.str x.name,.sl .sh (x.cap.map encA),.sl .sh (x.labels.map encP),.sl .sh (x.taints.map encT),.bool x.cordon]])),(4,.int .i64 (↑(i+1)))] (rowH Heap.nil (acc++[AV.agg [.str x.name,.sl .sh (x.cap.map encA),.sl .sh (x.labels.map encP),.sl .sh (x.taints.map encT),.bool x.cordon]])) (fun T hT=>(ih (i+1) (acc++[AV.agg [.str x.name,.sl .sh (x.cap.map encA),.sl .sh (x.labels.map encP),.sl .sh (x.taints.map encT),.bool x.cordon]]) hnx (by simp;omega) (by exact lenOk_snoc (by assumption) rfl) T hT).to (by simp[encN])))
theorem ofNs_any(l:List Node)(hn:l.length≤40)(hf:∀x∈l,fewN x=true):Gives cfg 53 [.sl .sh (l.map encN)] (rowS Heap.nil (l.map encN)):=by
 refine Gives.run (l53 _ _) ?_
 have h:=ofNs_loop l hn hf l 0 [] rfl rfl rfl
 exact gG 60 [] trivial (.cutQ k53_0 [(0,.sl .sh (l.map encN)),(3,.sl .full []),(4,.int .i64 0)] ({boxes:=[],toks:=[],loops:=[]:Heap}) (fun T hT=>(h T hT)))
theorem ckN_ref(n:Node):Gives cfg 207 [encN n] (.int .i64 (ckN n)):=by
 refine Gives.run (l207 _ _) ?_
 exact let ζ1:Heap:={boxes:=[[.str n.name,.sl .sh (n.cap.map encA),.sl .sh (n.labels.map encP),.sl .sh (n.taints.map encT),.bool n.cordon]],toks:=[],loops:=[]:Heap};gG 80 [] trivial (.callK ([.str n.name]) (.bool (isName n.name)) (show Gives cfg 259 [.str n.name] (.bool (isName n.name))from name_any _)<|.split (isName n.name=true) (fun h1=>.no (show(!isName n.name)=false from by have hh:isName n.name=true:=h1;simp[hh])<|.callK ([.sl .sh (n.cap.map encA)]) (.int .i64 (ckV n.cap)) (show Gives cfg 260 [.sl .sh (n.cap.map encA)] (.int .i64 (ckV n.cap))from ckV_ref _)<|.split ((ckV n.cap !=(0:Int))=true) (fun h2=>.yes (show(ckV n.cap !=(0:Int))=true from h2)<|.fin ((.ret (.int .i64 (ckV n.cap)),ζ1)) (by simp only[IsRet];grind[ckN,firstE])) (fun h2=>.no (show(ckV n.cap !=(0:Int))=false from Bool.eq_false_iff.2 h2)<|.callK ([.sl .sh (n.labels.map encP)]) (.int .i64 (ckS n.labels)) (show Gives cfg 261 [.sl .sh (n.labels.map encP)] (.int .i64 (ckS n.labels))from ckS_ref _)<|.split ((ckS n.labels !=(0:Int))=true) (fun h3=>.yes (show(ckS n.labels !=(0:Int))=true from h3)<|.fin ((.ret (.int .i64 (ckS n.labels)),ζ1)) (by simp only[IsRet];grind[ckN,firstE])) (fun h3=>.no (show(ckS n.labels !=(0:Int))=false from Bool.eq_false_iff.2 h3)<|.callK ([.sl .sh (n.taints.map encT)]) (.int .i64 (ckT n.taints)) (show Gives cfg 262 [.sl .sh (n.taints.map encT)] (.int .i64 (ckT n.taints))from ckT_any _)<|.fin ((.ret (.int .i64 (ckT n.taints)),ζ1)) (by simp only[IsRet];grind[ckN,firstE])))) (fun h1=>.yes (show(!isName n.name)=true from by have hh:¬(isName n.name=true):=h1;simp[hh])<|.fin ((.ret (.int .i64 3),ζ1)) (by simp only[IsRet];grind[ckN,firstE])))
def ordG{X:Type}(nm:X→List UInt8)(s:List X)(i:Nat)(x:X):Bool:=match i with
 |0=>false
 |j+1=>match s[j]? with
  |some p=>Op.bytesLess (nm x) (nm p)||nm x==nm p
  |none=>false
def ckAl{X:Type}(ck:X→Int)(nm:X→List UInt8)(s:List X):Nat→List X→Int
 |_,[]=>0
 |i,x::post=>if ck x=0 then(if ordG nm s i x then 13 else ckAl ck nm s (i+1) post)else ck x
def ckAll{X:Type}(most:Nat)(ck:X→Int)(nm:X→List UInt8)(s:List X):Int:=if s.length≤most then ckAl ck nm s 0 s else 4
def findG{X:Type}(nm:X→List UInt8)(l:List X)(n:List UInt8):Option X:=l.find? fun x=>nm x==n
theorem ckNs_ref_loop(l:List Node)(hn:l.length≤32):∀(post:List Node)(i:Nat)(hd:l.drop i=post)(T:Env)(hT:Has T [(0,.sl .sh (l.map encN)),(3,.int .i64 i)]),
 Goes cfg a118 k118_0 T Heap.nil (IsRet (.int .i64 (ckAl ckN Node.name l i post))):=by
 intro post
 induction post with
 |nil=>
  intro i hd T hT
  have hge:=drop_ge hd
  exact gG 60 _ hT (.len (lM .sh encN l)<|.no (dF ((↑i:Int)<(↑l.length:Int)))<|.fin ((.ret (.int .i64 0),{boxes:=[],toks:=[],loops:=[]:Heap})) rfl)
 |cons x post ih=>
  intro i hd T hT
  have hlt:=drop_lt hd
  have hnx:=drop_next hd
  have hc:=ckN_ref x
  have e:ckAl ckN Node.name l i (x::post)=if ckN x=0 then(if ordG Node.name l i x then 13 else ckAl ckN Node.name l (i+1) post)else ckN x:=rfl
  rw[e]
  generalize ckN x=c at hc⊢
  cases i with
  |zero=>exact let ζ1:Heap:={boxes:=[],toks:=[],loops:=[]:Heap};gG 60 _ hT (.len (lM .sh encN l)<|.yes (dT ((↑(0:Nat):Int)<(↑l.length:Int)))<|.idx (show idxA 5 (.sl .sh (l.map encN)) (.int .i64 (↑(0:Nat):Int))=some (.ref (encN x).cells)from idx_row hd (by rfl))<|.callK ([.agg [.str x.name,.sl .sh (x.cap.map encA),.sl .sh (x.labels.map encP),.sl .sh (x.taints.map encT),.bool x.cordon]]) (.int .i64 c) hc<|.split ((c !=(0:Int))=true) (fun h1=>.yes (show(c !=(0:Int))=true from h1)<|.fin ((.ret (.int .i64 c),ζ1)) (by simp only[IsRet];grind[ordG])) (fun h1=>.no (show(c !=(0:Int))=false from Bool.eq_false_iff.2 h1)<|.ff<|.ff<|.bin (show binA .add (.int .i64 (↑(0:Nat):Int)) (.int .i64 1)=some (.int .i64 (↑(0+1):Int))from inc_i (by omega))<|.cutQ k118_0 [(0,.sl .sh (l.map encN)),(3,.int .i64 (↑(0+1):Int))] (ζ1) (fun T hT=>(ih (0+1) hnx T hT).to (by grind[ordG]))))
  |succ j=>
   obtain⟨p,hp⟩:∃p,l[j]?=some p:=⟨l[j],List.getElem?_eq_getElem (by omega)⟩
   exact let ζ1:Heap:={boxes:=[],toks:=[],loops:=[]:Heap};gG 60 _ hT (.len (lM .sh encN l)<|.yes (dT ((↑(j+1):Int)<(↑l.length:Int)))<|.idx (show idxA 5 (.sl .sh (l.map encN)) (.int .i64 (↑(j+1):Int))=some (.ref (encN x).cells)from idx_row hd (by rfl))<|.callK ([.agg [.str x.name,.sl .sh (x.cap.map encA),.sl .sh (x.labels.map encP),.sl .sh (x.taints.map encT),.bool x.cordon]]) (.int .i64 c) hc<|.split ((c !=(0:Int))=true) (fun h1=>.yes (show(c !=(0:Int))=true from h1)<|.fin ((.ret (.int .i64 c),ζ1)) (by simp only[IsRet];grind[ordG])) (fun h1=>.no (show(c !=(0:Int))=false from Bool.eq_false_iff.2 h1)<|.yes (dT ((0:Int)<(↑(j+1):Int)))<|.idx (show idxA 5 (.sl .sh (l.map encN)) (.int .i64 (↑(j+1):Int))=some (.ref (encN x).cells)from idx_row hd (by rfl))<|.bin (show binA .sub (.int .i64 (↑(j+1):Int)) (.int .i64 1)=some (.int .i64 ↑j)from dec_i (by omega))<|.idx (show idxA 5 (.sl .sh (l.map encN)) (.int .i64 ↑j)=some (.ref (encN p).cells)from idx_get hp (by rfl))<|.split ((Op.bytesLess x.name p.name||x.name==p.name)=true) (fun h2=>.yes (show(Op.bytesLess x.name p.name||x.name==p.name)=true from h2)<|.fin ((.ret (.int .i64 13),ζ1)) (by simp only[IsRet];grind[ordG])) (fun h2=>.no (show(Op.bytesLess x.name p.name||x.name==p.name)=false from Bool.eq_false_iff.2 h2)<|.bin (show binA .add (.int .i64 (↑(j+1):Int)) (.int .i64 1)=some (.int .i64 (↑(j+1+1):Int))from inc_i (by omega))<|.cutQ k118_0 [(0,.sl .sh (l.map encN)),(3,.int .i64 (↑(j+1+1):Int))] (ζ1) (fun T hT=>(ih (j+1+1) hnx T hT).to (by grind[ordG])))))
theorem ckNs_ref(l:List Node):Gives cfg 118 [.sl .sh (l.map encN)] (.int .i64 (ckAll 32 ckN Node.name l)):=by
 refine Gives.run (l118 _ _) ?_
 have h:=fun hn=>ckNs_ref_loop l hn l 0 rfl
 exact let ζ1:Heap:={boxes:=[],toks:=[],loops:=[]:Heap};gG 60 [] trivial (.len (lM .sh encN l)<|.split ((32:Int)<(↑l.length:Int)) (fun h1=>.yes (dT ((32:Int)<(↑l.length:Int)) h1)<|.fin ((.ret (.int .i64 4),ζ1)) (by simp only[IsRet];grind[ckAll])) (fun h1=>.no (dF ((32:Int)<(↑l.length:Int)) h1)<|.cutQ k118_0 [(0,.sl .sh (l.map encN)),(3,.int .i64 0)] (ζ1) (fun T hT=>(h (by omega) T hT).to (by grind[ckAll]))))
def noN:Node:=⟨[],[],[],[],false⟩
def findNZ:List AV:=[.str [],.sl .full [],.sl .full [],.sl .full [],.bool false]
def findNV:Option Node→AV
 |none=>.tuple [.agg findNZ,.bool false]
 |some x=>.tuple [encN x,.bool true]
theorem findN_any_loop(l:List Node)(s:List UInt8)(hn:l.length<9223372036854775807):∀(post:List Node)(i:Nat)(bs:List (List AV))(hd:l.drop i=post)(T:Env)(hT:Has T [(4,.ptr 0 0),(1,.str s),(8,.sl .sh (l.map encN)),(9,.int .i64 l.length),(10,.int .i64 i)]),
 Goes cfg a81 k81_0 T ⟨findNZ::bs,[],[]⟩ (IsRet (findNV (findG Node.name post s))):=by
 intro post
 induction post with
 |nil=>
  intro i bs hd T hT
  have hge:=drop_ge hd
  exact let ζ1:List AV:=[.str [],.sl .full [],.sl .full [],.sl .full [],.bool false];let ζ2:Heap:={boxes:=ζ1::bs,toks:=[],loops:=[]:Heap};gG 60 _ hT (.no (dF ((↑i:Int)<(↑l.length:Int)))<|.store (show storeA 5 ζ2 (.ptr 0 0) (.agg ζ1)=some (ζ2)from store_box2 (cs:=ζ1) (cs':=ζ1) (by simp+zetaDelta) rfl (by simp+zetaDelta [List.set_append]))<|.fin ((.ret (.tuple [.agg ζ1,.bool false]),ζ2)) rfl)
 |cons x post ih=>
  intro i bs hd T hT
  have hlt:=drop_lt hd
  have hnx:=drop_next hd
  by_cases hx:Node.name x=s
  ·have e:findG Node.name (x::post) s=some x:=by simp[findG,List.find?_cons,hx]
   rw[e]
   exact let ζ1:List AV:=[.str x.name,.sl .sh (x.cap.map encA),.sl .sh (x.labels.map encP),.sl .sh (x.taints.map encT),.bool x.cordon];let ζ2:List AV:=[.str [],.sl .full [],.sl .full [],.sl .full [],.bool false];let ζ3:Heap:={boxes:=ζ2::(bs++[ζ1]),toks:=[],loops:=[]:Heap};let ζ4:Heap:={boxes:=ζ1::(bs++[ζ1]),toks:=[],loops:=[]:Heap};gG 60 _ hT (.yes (dT ((↑i:Int)<(↑l.length:Int)))<|.idx (iR 5 encN hd)<|.load (rfl:loadA true 5 {boxes:=ζ2::bs,toks:=[],loops:=[]:Heap} (.ref ζ1)=some (.agg ζ1))<|.store (show storeA 5 {boxes:=ζ2::(bs++[ζ2]),toks:=[],loops:=[]:Heap} (.ptr (ζ2::bs).length 0) (.agg ζ1)=some (ζ3)from store_box2 (cs:=ζ2) (cs':=ζ1) (by simp+zetaDelta) rfl (by simp+zetaDelta [List.set_append]))<|.load (show loadA false 1 ζ3 (.ptr (ζ2::bs).length 0)=some (.str x.name)from load_box (cs:=ζ1) (by simp+zetaDelta) rfl)<|.yes (show(x.name==s)=true from(by simpa using hx))<|.load (show loadA true 5 ζ3 (.ptr (ζ2::bs).length 0)=some (.agg ζ1)from load_box (cs:=ζ1) (by simp+zetaDelta) rfl)<|.store (show storeA 5 ζ3 (.ptr 0 0) (.agg ζ1)=some (ζ4)from store_box2 (cs:=ζ2) (cs':=ζ1) (by simp+zetaDelta) rfl (by simp+zetaDelta [List.set_append]))<|.fin ((.ret (.tuple [.agg ζ1,.bool true]),ζ4)) rfl)
  ·have e:findG Node.name (x::post) s=findG Node.name post s:=by simp[findG,List.find?_cons,hx]
   rw[e]
   exact let ζ1:List AV:=[.str x.name,.sl .sh (x.cap.map encA),.sl .sh (x.labels.map encP),.sl .sh (x.taints.map encT),.bool x.cordon];let ζ2:List AV:=[.str [],.sl .full [],.sl .full [],.sl .full [],.bool false];let ζ3:Heap:={boxes:=ζ2::(bs++[ζ1]),toks:=[],loops:=[]:Heap};gG 60 _ hT (.yes (dT ((↑i:Int)<(↑l.length:Int)))<|.idx (iR 5 encN hd)<|.load (rfl:loadA true 5 {boxes:=ζ2::bs,toks:=[],loops:=[]:Heap} (.ref ζ1)=some (.agg ζ1))<|.store (show storeA 5 {boxes:=ζ2::(bs++[ζ2]),toks:=[],loops:=[]:Heap} (.ptr (ζ2::bs).length 0) (.agg ζ1)=some (ζ3)from store_box2 (cs:=ζ2) (cs':=ζ1) (by simp+zetaDelta) rfl (by simp+zetaDelta [List.set_append]))<|.load (show loadA false 1 ζ3 (.ptr (ζ2::bs).length 0)=some (.str x.name)from load_box (cs:=ζ1) (by simp+zetaDelta) rfl)<|.no (show(x.name==s)=false from Bool.eq_false_iff.2 (by simpa using hx))<|.bin (iI i)<|.cutQ k81_0 [(4,.ptr 0 0),(1,.str s),(8,.sl .sh (l.map encN)),(9,.int .i64 (↑l.length)),(10,.int .i64 (↑(i+1)))] (ζ3) (fun T hT=>(ih (i+1) (bs++[ζ1]) hnx T hT)))
theorem findN_any(l:List Node)(s:List UInt8)(hn:l.length<9223372036854775807):Gives cfg 81 [.sl .sh (l.map encN),.str s] (findNV (findG Node.name l s)):=by
 refine Gives.run (l81 _ _) ?_
 have h:=findN_any_loop l s hn l 0 [] rfl
 exact gG 60 [] trivial (.len (lM .sh encN l)<|.cutQ k81_0 [(4,.ptr 0 0),(1,.str s),(8,.sl .sh (l.map encN)),(9,.int .i64 (↑l.length)),(10,.int .i64 0)] ({boxes:=[[.str [],.sl .full [],.sl .full [],.sl .full [],.bool false]],toks:=[],loops:=[]:Heap}) (fun T hT=>(h T hT)))
theorem findN_ref_loop(l:List Node)(s:List UInt8)(hn:l.length<9223372036854775807):∀(post:List Node)(i:Nat)(bs:List (List AV))(hd:l.drop i=post)(T:Env)(hT:Has T [(4,.ptr 0 0),(0,.sl .sh (l.map encN)),(1,.str s),(6,.int .i64 i)]),
 Goes cfg a73 k73_0 T ⟨findNZ::bs,[],[]⟩ (IsRet (findNV (findG Node.name post s))):=by
 intro post
 induction post with
 |nil=>
  intro i bs hd T hT
  have hge:=drop_ge hd
  exact let ζ1:List AV:=[.str [],.sl .full [],.sl .full [],.sl .full [],.bool false];let ζ2:Heap:={boxes:=ζ1::bs,toks:=[],loops:=[]:Heap};gG 60 _ hT (.len (lM .sh encN l)<|.no (dF ((↑i:Int)<(↑l.length:Int)))<|.store (show storeA 5 ζ2 (.ptr 0 0) (.agg ζ1)=some (ζ2)from store_box2 (cs:=ζ1) (cs':=ζ1) (by simp+zetaDelta) rfl (by simp+zetaDelta [List.set_append]))<|.fin ((.ret (.tuple [.agg ζ1,.bool false]),ζ2)) rfl)
 |cons x post ih=>
  intro i bs hd T hT
  have hlt:=drop_lt hd
  have hnx:=drop_next hd
  by_cases hx:Node.name x=s
  ·have e:findG Node.name (x::post) s=some x:=by simp[findG,List.find?_cons,hx]
   rw[e]
   exact let ζ1:List AV:=[.str x.name,.sl .sh (x.cap.map encA),.sl .sh (x.labels.map encP),.sl .sh (x.taints.map encT),.bool x.cordon];let ζ2:Heap:={boxes:=[.str [],.sl .full [],.sl .full [],.sl .full [],.bool false]::bs,toks:=[],loops:=[]:Heap};let ζ3:Heap:={boxes:=ζ1::bs,toks:=[],loops:=[]:Heap};gG 60 _ hT (.len (lM .sh encN l)<|.yes (dT ((↑i:Int)<(↑l.length:Int)))<|.idx (iR 5 encN hd)<|.load (rfl:loadA false 1 ζ2 (.ref [.str x.name])=some (.str x.name))<|.yes (show(x.name==s)=true from(by simpa using hx))<|.idx (iR 5 encN hd)<|.load (rfl:loadA true 5 ζ2 (.ref ζ1)=some (.agg ζ1))<|.store (show storeA 5 ζ2 (.ptr 0 0) (.agg ζ1)=some (ζ3)from store_box2 (cs:=[.str [],.sl .full [],.sl .full [],.sl .full [],.bool false]) (cs':=ζ1) (by simp+zetaDelta) rfl (by simp+zetaDelta [List.set_append]))<|.fin ((.ret (.tuple [.agg ζ1,.bool true]),ζ3)) rfl)
  ·have e:findG Node.name (x::post) s=findG Node.name post s:=by simp[findG,List.find?_cons,hx]
   rw[e]
   exact let ζ1:Heap:={boxes:=[.str [],.sl .full [],.sl .full [],.sl .full [],.bool false]::bs,toks:=[],loops:=[]:Heap};gG 60 _ hT (.len (lM .sh encN l)<|.yes (dT ((↑i:Int)<(↑l.length:Int)))<|.idx (iR 5 encN hd)<|.load (rfl:loadA false 1 ζ1 (.ref [.str x.name])=some (.str x.name))<|.no (show(x.name==s)=false from Bool.eq_false_iff.2 (by simpa using hx))<|.bin (iI i)<|.cutQ k73_0 [(4,.ptr 0 0),(0,.sl .sh (l.map encN)),(1,.str s),(6,.int .i64 (↑(i+1)))] (ζ1) (fun T hT=>(ih (i+1) (bs) hnx T hT)))
theorem findN_ref(l:List Node)(s:List UInt8)(hn:l.length<9223372036854775807):Gives cfg 73 [.sl .sh (l.map encN),.str s] (findNV (findG Node.name l s)):=by
 refine Gives.run (l73 _ _) ?_
 have h:=findN_ref_loop l s hn l 0 [] rfl
 exact gG 60 [] trivial (.cutQ k73_0 [(4,.ptr 0 0),(0,.sl .sh (l.map encN)),(1,.str s),(6,.int .i64 0)] ({boxes:=[[.str [],.sl .full [],.sl .full [],.sl .full [],.bool false]],toks:=[],loops:=[]:Heap}) (fun T hT=>(h T hT)))
theorem findG_mem{X:Type}{nm:X→List UInt8}{l:List X}{s:List UInt8}{x:X}(h:findG nm l s=some x):x∈l:=List.mem_of_find?_eq_some h
end Go.Aa.T
set_option linter.unusedVariables false
set_option linter.unusedSimpArgs false
set_option maxRecDepth 100000
namespace Go.Aa.T
open Go.Aa Go.Proofs
def inI(a:Int):Prop:= -9223372036854775808≤a∧a≤9223372036854775807
def bothE(a b:Int):Int:=if a<0 then 1 else if b<0 then 1 else 0
theorem both_any(a b:Int):Gives cfg 274 [.int .i64 a,.int .i64 b] (.int .i64 (bothE a b)):=by
 refine Gives.run (l274 _ _) ?_
 exact let ζ1:Heap:={boxes:=[],toks:=[],loops:=[]:Heap};gG 60 [] trivial (.split (a<(0:Int)) (fun h1=>.yes (dT (a<(0:Int)) h1)<|.tt<|.fin ((.ret (.int .i64 1),ζ1)) (by simp only[IsRet];grind[bothE])) (fun h1=>.no (dF (a<(0:Int)) h1)<|.split (b<(0:Int)) (fun h2=>.yes (dT (b<(0:Int)) h2)<|.fin ((.ret (.int .i64 1),ζ1)) (by simp only[IsRet];grind[bothE])) (fun h2=>.no (dF (b<(0:Int)) h2)<|.fin ((.ret (.int .i64 0),ζ1)) (by simp only[IsRet];grind[bothE]))))
theorem wrap_u64{x:Int}(h1:0≤x)(h2:x<18446744073709551616):IntKind.u64.wrap x=x:=by
 simp only[IntKind.wrap,IntKind.bits,IntKind.signed,Bool.false_and,show(2:Int)^64=18446744073709551616 from rfl,Bool.false_eq_true,if_false]
 omega
theorem conv_u64{x:Int}(h1:0≤x)(h2:x<18446744073709551616):convA (.int .u64) (.int .i64 x)=some (.int .u64 x):=by
 simp[convA,wrap_u64 h1 h2]
theorem addU{a b:Int}(h1:0≤a+b)(h2:a+b<18446744073709551616):binA .add (.int .u64 a) (.int .u64 b)=some (.int .u64 (a+b)):=by
 simp[binA,intBin,wrap_u64 h1 h2]
def toldQ(n:Int):Int×Int:=if 9223372036854775807<n then(0,5)else(n,0)
theorem told_any(n:Int)(h:0≤n):Gives cfg 275 [.int .u64 n,.bool false] (.tuple [.int .i64 (toldQ n).1,.int .i64 (toldQ n).2]):=by
 refine Gives.run (l275 _ _) ?_
 by_cases hn:9223372036854775807<n
 ·have e:toldQ n=(0,5):=by simp[toldQ,hn]
  rw[e]
  exact gG 60 [] trivial (.ff<|.yes (dT ((9223372036854775807:Int)<n) (by exact hn))<|.fin ((.ret (.tuple [.int .i64 0,.int .i64 5]),{boxes:=[],toks:=[],loops:=[]:Heap})) rfl)
 ·have e:toldQ n=(n,0):=by simp[toldQ,hn]
  rw[e]
  have hc:convA (.int .i64) (.int .u64 n)=some (.int .i64 n):=conv_i64 (by omega)
  exact gG 60 [] trivial (.ff<|.no (dF ((9223372036854775807:Int)<n) (by exact hn))<|.conv hc<|.fin ((.ret (.tuple [.int .i64 n,.int .i64 0]),{boxes:=[],toks:=[],loops:=[]:Heap})) rfl)
def addQ(a b:Int):Int×Int:=if bothE a b≠0 then(0,bothE a b)else toldQ (a+b)
theorem both_ok{a b:Int}(h:bothE a b=0):0≤a∧0≤b:=by
 unfold bothE at h
 split at h
 ·cases h
 ·split at h
  ·cases h
  ·omega
theorem qadd_any(a b:Int)(ha:inI a)(hb:inI b):Gives cfg 285 [.int .i64 a,.int .i64 b] (.tuple [.int .i64 (addQ a b).1,.int .i64 (addQ a b).2]):=by
 refine Gives.run (l285 _ _) ?_
 obtain⟨ha1,ha2⟩:=ha
 obtain⟨hb1,hb2⟩:=hb
 have h0:=both_any a b
 by_cases he:bothE a b=0
 ·have e:addQ a b=toldQ (a+b):=by simp[addQ,he]
  rw[e]
  obtain⟨i1,i2⟩:=both_ok he
  rw[he]at h0
  have h1:=told_any (a+b) (by omega)
  have c1:convA (.int .u64) (.int .i64 a)=some (.int .u64 a):=conv_u64 i1 (by omega)
  have c2:convA (.int .u64) (.int .i64 b)=some (.int .u64 b):=conv_u64 i2 (by omega)
  have c3:binA .add (.int .u64 a) (.int .u64 b)=some (.int .u64 (a+b)):=addU (by omega) (by omega)
  exact let ζ1:List AV:=[.int .i64 (toldQ (a+b)).fst,.int .i64 (toldQ (a+b)).snd];gG 60 [] trivial (.callK ([.int .i64 a,.int .i64 b]) (.int .i64 0) h0<|.ff<|.conv c1<|.conv c2<|.bin c3<|.callK ([.int .u64 (a+b),.bool false]) (.tuple ζ1) h1<|.fin ((.ret (.tuple ζ1),{boxes:=[],toks:=[],loops:=[]:Heap})) rfl)
 ·have e:addQ a b=(0,bothE a b):=by simp[addQ,he]
  rw[e]
  generalize bothE a b=c at*
  exact gG 60 [] trivial (.callK ([.int .i64 a,.int .i64 b]) (.int .i64 c) h0<|.yes (show(c !=(0:Int))=true from(by simpa using he))<|.fin ((.ret (.tuple [.int .i64 0,.int .i64 c]),{boxes:=[],toks:=[],loops:=[]:Heap})) rfl)
theorem qadd_ref(a b:Int)(ha:inI a)(hb:inI b):Gives cfg 267 [.int .i64 a,.int .i64 b] (.tuple [.int .i64 (addQ a b).1,.int .i64 (addQ a b).2]):=by
 refine Gives.run (l267 _ _) ?_
 obtain⟨ha1,ha2⟩:=ha
 obtain⟨hb1,hb2⟩:=hb
 have hs:0≤b→binA .sub (.int .i64 9223372036854775807) (.int .i64 b)=some (.int .i64 (9223372036854775807-b)):=fun h=>subI (by omega) (by omega)
 by_cases he:bothE a b=0
 ·obtain⟨i1,i2⟩:=both_ok he
  have hs:=hs i2
  by_cases ho:9223372036854775807<a+b
  ·have e:addQ a b=(0,5):=by simp[addQ,he,toldQ,ho]
   rw[e]
   exact gG 60 [] trivial (.no (dF (a<(0:Int)))<|.no (dF (b<(0:Int)))<|.bin hs<|.yes (dT ((9223372036854775807:Int)-b<a))<|.fin ((.ret (.tuple [.int .i64 0,.int .i64 5]),{boxes:=[],toks:=[],loops:=[]:Heap})) rfl)
  ·have e:addQ a b=(a+b,0):=by simp[addQ,he,toldQ,ho]
   rw[e]
   have ha:binA .add (.int .i64 a) (.int .i64 b)=some (.int .i64 (a+b)):=addI (by omega) (by omega)
   exact gG 60 [] trivial (.no (dF (a<(0:Int)))<|.no (dF (b<(0:Int)))<|.bin hs<|.no (dF ((9223372036854775807:Int)-b<a))<|.bin ha<|.fin ((.ret (.tuple [.int .i64 (a+b),.int .i64 0]),{boxes:=[],toks:=[],loops:=[]:Heap})) rfl)
 ·have e:addQ a b=(0,1):=by
   have:bothE a b=1:=by unfold bothE at he⊢;grind
   simp[addQ,this]
  rw[e]
  have hor:a<0∨b<0:=by unfold bothE at he;grind
  by_cases h1:a<0
  ·exact gG 60 [] trivial (.yes (dT (a<(0:Int)))<|.tt<|.fin ((.ret (.tuple [.int .i64 0,.int .i64 1]),{boxes:=[],toks:=[],loops:=[]:Heap})) rfl)
  ·exact gG 60 [] trivial (.no (dF (a<(0:Int)))<|.yes (dT (b<(0:Int)))<|.fin ((.ret (.tuple [.int .i64 0,.int .i64 1]),{boxes:=[],toks:=[],loops:=[]:Heap})) rfl)
def getQ(v:List Amount)(s:List UInt8):Int:=match v.find? (fun x=>x.name==s)with
 |some x=>x.n
 |none=>0
theorem getQ_cons(x:Amount)(v:List Amount)(s:List UInt8):getQ (x::v) s=if x.name=s then x.n else getQ v s:=by
 unfold getQ
 by_cases h:x.name=s
 ·simp[List.find?_cons,h]
 ·simp[List.find?_cons,h]
section
variable{H:Heap}{g:FuncId}{k:Nat}{p:Amount→Bool}
theorem idxV_loop(hd:∀y:Amount,Does cfg (.call (.c (.func g [.ptr k 0])) [.c (encA y)]) H (.bool (p y)) H)(l:List Amount)(hn:l.length<9223372036854775807):∀(post:List Amount)(i:Nat)(hdr:l.drop i=post)(T:Env)
 (hT:Has T [(0,.sl .sh (l.map encA)),(1,.func g [.ptr k 0]),(7,.int .i64 l.length),(8,.int .i64 i)]),
 Goes cfg a232 k232_0 T H (fun r=>r=(.ret (.int .i64 (fidxB p post i)),H)):=by
 intro post
 induction post with
 |nil=>
  intro i hdr T hT
  have hge:=drop_ge hdr
  exact gG 60 _ hT (.no (dF ((↑i:Int)<(↑l.length:Int)))<|.fin ((.ret (.int .i64 (-1:Int)),H)) rfl)
 |cons x post ih=>
  intro i hdr T hT
  have hlt:=drop_lt hdr
  have hnx:=drop_next hdr
  have hdx:=hd x
  cases hp:p x with
  |true=>
   rw[hp]at hdx
   have e:fidxB p (x::post) i=i:=by simp[fidxB,hp]
   rw[e]
   exact gG 60 _ hT (.yes (dT ((↑i:Int)<(↑l.length:Int)))<|.idx (iR 2 encA hdr)<|.load (rfl:loadA true 2 H (.ref [.str x.name,.int .i64 x.n])=some (.agg [.str x.name,.int .i64 x.n]))<|.effY hdx<|.tt<|.fin ((.ret (.int .i64 ↑i),H)) rfl)
  |false=>
   rw[hp]at hdx
   have e:fidxB p (x::post) i=fidxB p post (i+1):=by simp[fidxB,hp]
   rw[e]
   exact gG 60 _ hT (.yes (dT ((↑i:Int)<(↑l.length:Int)))<|.idx (iR 2 encA hdr)<|.load (rfl:loadA true 2 H (.ref [.str x.name,.int .i64 x.n])=some (.agg [.str x.name,.int .i64 x.n]))<|.effY hdx<|.ff<|.bin (iI i)<|.cutQ k232_0 [(0,.sl .sh (l.map encA)),(1,.func g [.ptr k 0]),(7,.int .i64 (↑l.length)),(8,.int .i64 (↑(i+1)))] (H) (fun T hT=>(ih (i+1) hnx T hT)))
theorem idxV(hd:∀y:Amount,Does cfg (.call (.c (.func g [.ptr k 0])) [.c (encA y)]) H (.bool (p y)) H)(l:List Amount)(hn:l.length<9223372036854775807):
 lim cfg (.fn 232) [.sl .sh (l.map encA),.func g [.ptr k 0]] H=some (.ret (.int .i64 (fidxB p l 0)),H):=by
 rw[l232]
 have h:=idxV_loop hd l hn l 0 rfl
 have key:Goes cfg a232 [.c c232] (initEnv [.sl .sh (l.map encA),.func g [.ptr k 0]]) H (fun r=>r=(.ret (.int .i64 (fidxB p l 0)),H)):=by
  exact gG 60 [] trivial (.len (lM .sh encA l)<|.cutQ k232_0 [(0,.sl .sh (l.map encA)),(1,.func g [.ptr k 0]),(7,.int .i64 (↑l.length)),(8,.int .i64 0)] (H) (fun T hT=>(h T hT)))
 obtain⟨r,h,rfl⟩:=key
 exact h
end
theorem fidx_get(s:List UInt8):∀(l pre:List Amount)(i:Nat),pre.length=i→(getQ l s=0∧fidxB (fun x:Amount=>x.name==s) l i= -1)∨∃j x,fidxB (fun x:Amount=>x.name==s) l i=(j:Nat)∧(pre++l)[j]?=some x∧getQ l s=x.n
 |[],pre,i,h=>.inl ⟨rfl,rfl⟩
 |x::l,pre,i,h=>by
  by_cases hx:x.name=s
  ·refine .inr ⟨i,x,by simp[fidxB,hx],by simp[←h],by rw[getQ_cons,if_pos hx]⟩
  ·have e1:fidxB (fun x:Amount=>x.name==s) (x::l) i=fidxB (fun x:Amount=>x.name==s) l (i+1):=by simp[fidxB,hx]
   rw[getQ_cons,if_neg hx,e1]
   rcases fidx_get s l (pre++[x]) (i+1) (by simp[h])with h1|⟨j,y,h1,h2,h3⟩
   ·exact .inl h1
   ·exact .inr ⟨j,y,h1,by simpa using h2,h3⟩
theorem get_one(s:List UInt8)(y:Amount):Does cfg (.call (.c (.func 233 [.ptr 0 0])) [.c (encA y)]) ⟨[[.str s]],[],[]⟩ (.bool (y.name==s)) ⟨[[.str s]],[],[]⟩:=by
 have key:Goes cfg a233 [.c c233] (initEnv [encA y,.ptr 0 0]) ⟨[[.str s]],[],[]⟩ (fun r=>r=(.ret (.bool (y.name==s)),⟨[[.str s]]++[(encA y).cells],[],[]⟩)):=by
  exact gG 60 [] trivial (.fin ((.ret (.bool (y.name==s)),{boxes:=[[.str s],[.str y.name,.int .i64 y.n]],toks:=[],loops:=[]:Heap})) rfl)
 obtain⟨r,h,rfl⟩:=key
 have h2:lim cfg (.fn 233) ([encA y]++[.ptr 0 0]) ⟨[[.str s]],[],[]⟩=some (.ret (.bool (y.name==s)),⟨[[.str s]]++[(encA y).cells],[],[]⟩):=by
  rw[l233];exact h
 have hd:=does_callE h2 rfl rfl
 rwa [show shutA (.bool (y.name==s))=.bool (y.name==s)from rfl,trunc_plain (bs:=[[.str s]]) (ex:=[(encA y).cells]) (ts:=[]) rfl]at hd
theorem getQ_any(v:List Amount)(s:List UInt8)(hn:v.length<9223372036854775807):Gives cfg 165 [.sl .sh (v.map encA),.str s] (.int .i64 (getQ v s)):=by
 refine Gives.run (l165 _ _) ?_
 have h0:=does_callE (xs:=[.sl .sh (v.map encA),.func 233 [.ptr 0 0]]) (caps:=[]) (idxV (g:=233) (k:=0) (get_one s) v hn) rfl rfl
 rw[show shutA (.int .i64 (fidxB (fun y:Amount=>y.name==s) v 0))=.int .i64 (fidxB (fun y:Amount=>y.name==s) v 0)from rfl,
  show trunc (⟨[[.str s]],[],[]⟩:Heap).boxes.length (⟨[[.str s]],[],[]⟩:Heap).toks.length (.int .i64 (fidxB (fun y:Amount=>y.name==s) v 0)) ⟨[[.str s]],[],[]⟩=⟨[[.str s]],[],[]⟩from rfl]at h0
 rcases fidx_get s v [] 0 rfl with⟨h1,h2⟩|⟨j,x,h1,h2,h3⟩
 ·rw[h2]at h0
  rw[h1]
  exact let ζ1:Heap:={boxes:=[[.str s]],toks:=[],loops:=[]:Heap};gG 60 [] trivial (.effY h0<|.tt<|.fin ((.ret (.int .i64 0),ζ1)) rfl)
 ·rw[h1]at h0
  rw[h3]
  have hx:idxA 2 (.sl .sh (v.map encA)) (.int .i64 (j:Nat))=some (.ref [.str x.name,.int .i64 x.n]):=idx_get (f:=encA) (x:=x) (by simpa using h2) rfl
  exact let ζ1:Heap:={boxes:=[[.str s]],toks:=[],loops:=[]:Heap};gG 60 [] trivial (.effY h0<|.ff<|.idx hx<|.fin ((.ret (.int .i64 x.n),ζ1)) rfl)
theorem getQ_ref_loop(v:List Amount)(s:List UInt8)(hn:v.length<9223372036854775807):∀(post:List Amount)(i:Nat)(hd:v.drop i=post)(T:Env)(hT:Has T [(0,.sl .sh (v.map encA)),(1,.str s),(5,.int .i64 i)]),
 Goes cfg a211 k211_0 T Heap.nil (IsRet (.int .i64 (getQ post s))):=by
 intro post
 induction post with
 |nil=>
  intro i hd T hT
  have hge:=drop_ge hd
  exact gG 60 _ hT (.len (lM .sh encA v)<|.no (dF ((↑i:Int)<(↑v.length:Int)))<|.fin ((.ret (.int .i64 0),{boxes:=[],toks:=[],loops:=[]:Heap})) rfl)
 |cons x post ih=>
  intro i hd T hT
  have hlt:=drop_lt hd
  have hnx:=drop_next hd
  rw[getQ_cons]
  by_cases hq:x.name=s
  ·rw[if_pos hq]
   exact gG 60 _ hT (.len (lM .sh encA v)<|.yes (dT ((↑i:Int)<(↑v.length:Int)))<|.idx (iR 2 encA hd)<|.yes (show(x.name==s)=true from(by simpa using hq))<|.idx (iR 2 encA hd)<|.fin ((.ret (.int .i64 x.n),{boxes:=[],toks:=[],loops:=[]:Heap})) rfl)
  ·rw[if_neg hq]
   exact gG 60 _ hT (.len (lM .sh encA v)<|.yes (dT ((↑i:Int)<(↑v.length:Int)))<|.idx (iR 2 encA hd)<|.no (show(x.name==s)=false from Bool.eq_false_iff.2 (by simpa using hq))<|.bin (iI i)<|.cutQ k211_0 [(0,.sl .sh (v.map encA)),(1,.str s),(5,.int .i64 (↑(i+1)))] ({boxes:=[],toks:=[],loops:=[]:Heap}) (fun T hT=>(ih (i+1) hnx T hT)))
theorem getQ_ref(v:List Amount)(s:List UInt8)(hn:v.length<9223372036854775807):Gives cfg 211 [.sl .sh (v.map encA),.str s] (.int .i64 (getQ v s)):=by
 refine Gives.run (l211 _ _) ?_
 have h:=getQ_ref_loop v s hn v 0 rfl
 exact gG 60 [] trivial (.cutQ k211_0 [(0,.sl .sh (v.map encA)),(1,.str s),(5,.int .i64 0)] ({boxes:=[],toks:=[],loops:=[]:Heap}) (fun T hT=>(h T hT)))
def fitsV(need have_:List Amount):Bool:=need.all fun x=>decide (x.n≤getQ have_ x.name)
theorem fits_ref_loop(v w:List Amount)(hv:v.length<9223372036854775807)(hn:w.length<9223372036854775807):∀(post:List Amount)(i:Nat)(hd:v.drop i=post)(T:Env)(hT:Has T [(0,.sl .sh (v.map encA)),(1,.sl .sh (w.map encA)),(5,.int .i64 i)]),
 Goes cfg a122 k122_0 T Heap.nil (IsRet (.bool (fitsV post w))):=by
 intro post
 induction post with
 |nil=>
  intro i hd T hT
  have hge:=drop_ge hd
  exact gG 60 _ hT (.len (lM .sh encA v)<|.no (dF ((↑i:Int)<(↑v.length:Int)))<|.fin ((.ret (.bool true),{boxes:=[],toks:=[],loops:=[]:Heap})) rfl)
 |cons x post ih=>
  intro i hd T hT
  have hlt:=drop_lt hd
  have hnx:=drop_next hd
  have hg:=getQ_ref w x.name hn
  have e:fitsV (x::post) w=(decide (x.n≤getQ w x.name)&&fitsV post w):=rfl
  rw[e]
  by_cases hq:x.n≤getQ w x.name
  ·rw[decide_eq_true hq,Bool.true_and]
   exact let ζ1:List AV:=[.sl .sh (w.map encA),.str x.name];gG 90 _ hT (.len (lM .sh encA v)<|.yes (dT ((↑i:Int)<(↑v.length:Int)))<|.idx (iR 2 encA hd)<|.idx (iR 2 encA hd)<|.callK (ζ1) (.int .i64 (getQ w x.name)) hg<|.no (dF (getQ w x.name<x.n))<|.bin (iI i)<|.cutQ k122_0 [(0,.sl .sh (v.map encA)),(1,.sl .sh (w.map encA)),(5,.int .i64 (↑(i+1)))] ({boxes:=[],toks:=[],loops:=[]:Heap}) (fun T hT=>(ih (i+1) hnx T hT)))
  ·rw[decide_eq_false hq,Bool.false_and]
   exact let ζ1:List AV:=[.sl .sh (w.map encA),.str x.name];gG 90 _ hT (.len (lM .sh encA v)<|.yes (dT ((↑i:Int)<(↑v.length:Int)))<|.idx (iR 2 encA hd)<|.idx (iR 2 encA hd)<|.callK (ζ1) (.int .i64 (getQ w x.name)) hg<|.yes (dT (getQ w x.name<x.n))<|.fin ((.ret (.bool false),{boxes:=[],toks:=[],loops:=[]:Heap})) rfl)
theorem fits_ref(v w:List Amount)(hv:v.length<9223372036854775807)(hn:w.length<9223372036854775807):Gives cfg 122 [.sl .sh (v.map encA),.sl .sh (w.map encA)] (.bool (fitsV v w)):=by
 refine Gives.run (l122 _ _) ?_
 have h:=fits_ref_loop v w hv hn v 0 rfl
 exact gG 60 [] trivial (.cutQ k122_0 [(0,.sl .sh (v.map encA)),(1,.sl .sh (w.map encA)),(5,.int .i64 0)] ({boxes:=[],toks:=[],loops:=[]:Heap}) (fun T hT=>(h T hT)))
end Go.Aa.T
