/-
  WHAT THE LAW LEANS ON, part 7 of 12: a machine of values and its soundness; the functions of the law upon it; what they come to.
-/
import Derived.Test.YtjoblbpgpmknmaaGreatDoorXany2f
set_option linter.unusedVariables false
set_option linter.unusedSimpArgs false
set_option maxRecDepth 100000
namespace Go.Aa.T
open Go.Aa Go.Proofs
def few{α:Type}(f:α→List UInt8×List UInt8)(l:List α):Bool:=l.all fun x=>decide ((f x).1.length≤50)&&decide ((f x).2.length≤50)
def fewT(l:List Taint):Bool:=decide (l.length≤20)&&few (fun t=>(t.key,t.val)) l
def fewL(l:List Tol):Bool:=decide (l.length≤20)&&few (fun t=>(t.key,t.val)) l
theorem fewT_loop(l:List Taint)(hn:l.length≤20):∀(post:List Taint)(i:Nat)(hd:l.drop i=post)(T:Env)(hT:Has T [(0,.sl .sh (l.map encT)),(3,.int .i64 i)]),
 Goes cfg a166 k166_0 T Heap.nil (IsRet (.bool (few (fun t=>(t.key,t.val)) post))):=by
 intro post
 induction post with
 |nil=>
  intro i hd T hT
  have hge:=drop_ge hd
  exact goG 60 _ hT (.len (show lenA false (.sl .sh (l.map encT))=some (.int .i64 (↑l.length))from len_map _)<|.no (decide_eq_false (p:=(↑i:Int)<(↑l.length:Int)) (by omega))<|.fin ((.ret (.bool true),{boxes:=[],toks:=[],loops:=[]:Heap})) rfl) (by kernel_rfl)
 |cons x post ih=>
  intro i hd T hT
  have hlt:=drop_lt hd
  have hnx:=drop_next hd
  exact let ζ1:Heap:={boxes:=[],toks:=[],loops:=[]:Heap};goG 60 _ hT (.len (show lenA false (.sl .sh (l.map encT))=some (.int .i64 (↑l.length))from len_map _)<|.yes (decide_eq_true (p:=(↑i:Int)<(↑l.length:Int)) (by omega))<|.idx (show idxA 3 (.sl .sh (l.map encT)) (.int .i64 ↑i)=some (.ref (encT x).cells)from idx_row hd (by rfl))<|.len (show lenA true (.str x.key)=some (.int .i64 (↑x.key.length))from len_str _)<|.split ((50:Int)<(↑x.key.length:Int)) (fun h1=>.yes (decide_eq_true (p:=(50:Int)<(↑x.key.length:Int)) h1)<|.tt<|.fin ((.ret (.bool false),ζ1)) (by simp only[IsRet];grind[few])) (fun h1=>.no (decide_eq_false (p:=(50:Int)<(↑x.key.length:Int)) h1)<|.idx (show idxA 3 (.sl .sh (l.map encT)) (.int .i64 ↑i)=some (.ref (encT x).cells)from idx_row hd (by rfl))<|.len (show lenA true (.str x.val)=some (.int .i64 (↑x.val.length))from len_str _)<|.split ((50:Int)<(↑x.val.length:Int)) (fun h2=>.yes (decide_eq_true (p:=(50:Int)<(↑x.val.length:Int)) h2)<|.fin ((.ret (.bool false),ζ1)) (by simp only[IsRet];grind[few])) (fun h2=>.no (decide_eq_false (p:=(50:Int)<(↑x.val.length:Int)) h2)<|.bin (show binA .add (.int .i64 ↑i) (.int .i64 1)=some (.int .i64 (↑(i+1)))from inc_i (by omega))<|.cutQ k166_0 [(0,.sl .sh (l.map encT)),(3,.int .i64 (↑(i+1)))] (ζ1) (fun T hT=>(ih (i+(1:Nat)) hnx T hT).to (by grind[few]))))) (by kernel_rfl)
theorem fewL_loop(l:List Tol)(hn:l.length≤20):∀(post:List Tol)(i:Nat)(hd:l.drop i=post)(T:Env)(hT:Has T [(0,.sl .sh (l.map encL)),(3,.int .i64 i)]),
 Goes cfg a65 k65_0 T Heap.nil (IsRet (.bool (few (fun t=>(t.key,t.val)) post))):=by
 intro post
 induction post with
 |nil=>
  intro i hd T hT
  have hge:=drop_ge hd
  exact goG 60 _ hT (.len (show lenA false (.sl .sh (l.map encL))=some (.int .i64 (↑l.length))from len_map _)<|.no (decide_eq_false (p:=(↑i:Int)<(↑l.length:Int)) (by omega))<|.fin ((.ret (.bool true),{boxes:=[],toks:=[],loops:=[]:Heap})) rfl) (by kernel_rfl)
 |cons x post ih=>
  intro i hd T hT
  have hlt:=drop_lt hd
  have hnx:=drop_next hd
  exact let ζ1:Heap:={boxes:=[],toks:=[],loops:=[]:Heap};goG 60 _ hT (.len (show lenA false (.sl .sh (l.map encL))=some (.int .i64 (↑l.length))from len_map _)<|.yes (decide_eq_true (p:=(↑i:Int)<(↑l.length:Int)) (by omega))<|.idx (show idxA 3 (.sl .sh (l.map encL)) (.int .i64 ↑i)=some (.ref (encL x).cells)from idx_row hd (by rfl))<|.len (show lenA true (.str x.key)=some (.int .i64 (↑x.key.length))from len_str _)<|.split ((50:Int)<(↑x.key.length:Int)) (fun h1=>.yes (decide_eq_true (p:=(50:Int)<(↑x.key.length:Int)) h1)<|.tt<|.fin ((.ret (.bool false),ζ1)) (by simp only[IsRet];grind[few])) (fun h1=>.no (decide_eq_false (p:=(50:Int)<(↑x.key.length:Int)) h1)<|.idx (show idxA 3 (.sl .sh (l.map encL)) (.int .i64 ↑i)=some (.ref (encL x).cells)from idx_row hd (by rfl))<|.len (show lenA true (.str x.val)=some (.int .i64 (↑x.val.length))from len_str _)<|.split ((50:Int)<(↑x.val.length:Int)) (fun h2=>.yes (decide_eq_true (p:=(50:Int)<(↑x.val.length:Int)) h2)<|.fin ((.ret (.bool false),ζ1)) (by simp only[IsRet];grind[few])) (fun h2=>.no (decide_eq_false (p:=(50:Int)<(↑x.val.length:Int)) h2)<|.bin (show binA .add (.int .i64 ↑i) (.int .i64 1)=some (.int .i64 (↑(i+1)))from inc_i (by omega))<|.cutQ k65_0 [(0,.sl .sh (l.map encL)),(3,.int .i64 (↑(i+1)))] (ζ1) (fun T hT=>(ih (i+(1:Nat)) hnx T hT).to (by grind[few]))))) (by kernel_rfl)
theorem fewT_any(l:List Taint):Gives cfg 166 [.sl .sh (l.map encT)] (.bool (fewT l)):=by
 refine Gives.run (l166 _ _) ?_
 have h:=fun hn=>fewT_loop l hn l 0 rfl
 exact let ζ1:Heap:={boxes:=[],toks:=[],loops:=[]:Heap};goG 60 [] trivial (.len (show lenA false (.sl .sh (l.map encT))=some (.int .i64 (↑l.length))from len_map _)<|.split ((20:Int)<(↑l.length:Int)) (fun h1=>.yes (decide_eq_true (p:=(20:Int)<(↑l.length:Int)) h1)<|.fin ((.ret (.bool false),ζ1)) (by simp only[IsRet];grind[fewT])) (fun h1=>.no (decide_eq_false (p:=(20:Int)<(↑l.length:Int)) h1)<|.cutQ k166_0 [(0,.sl .sh (l.map encT)),(3,.int .i64 0)] (ζ1) (fun T hT=>(h (by omega) T hT).to (by grind[fewT])))) (by kernel_rfl)
theorem fewL_any(l:List Tol):Gives cfg 65 [.sl .sh (l.map encL)] (.bool (fewL l)):=by
 refine Gives.run (l65 _ _) ?_
 have h:=fun hn=>fewL_loop l hn l 0 rfl
 exact let ζ1:Heap:={boxes:=[],toks:=[],loops:=[]:Heap};goG 60 [] trivial (.len (show lenA false (.sl .sh (l.map encL))=some (.int .i64 (↑l.length))from len_map _)<|.split ((20:Int)<(↑l.length:Int)) (fun h1=>.yes (decide_eq_true (p:=(20:Int)<(↑l.length:Int)) h1)<|.fin ((.ret (.bool false),ζ1)) (by simp only[IsRet];grind[fewL])) (fun h1=>.no (decide_eq_false (p:=(20:Int)<(↑l.length:Int)) h1)<|.cutQ k65_0 [(0,.sl .sh (l.map encL)),(3,.int .i64 0)] (ζ1) (fun T hT=>(h (by omega) T hT).to (by grind[fewL])))) (by kernel_rfl)
theorem ofT_loop(l:List Taint)(hn:l.length≤20):∀(post:List Taint)(i:Nat)(acc:List AV)(hd:l.drop i=post)(ha:acc.length=i)(hl:lenOk 3 acc=true)(T:Env)(hT:Has T [(0,.sl .sh (l.map encT)),(3,rowS Heap.nil acc),(4,.int .i64 i)]),
 Goes cfg a198 k198_0 T (rowH Heap.nil acc) (IsRet (rowS Heap.nil (acc++post.map encT))):=by
 intro post
 induction post with
 |nil=>
  intro i acc hd ha hl T hT
  have hge:=drop_ge hd
  exact goG 60 _ hT (.len (show lenA false (.sl .sh (l.map encT))=some (.int .i64 (↑l.length))from len_map _)<|.no (decide_eq_false (p:=(↑i:Int)<(↑l.length:Int)) (by omega))<|.fin ((.ret (setD (setD (setD (setD (setD (setD (updL T [((0:Nat),.sl .sh (l.map encT)),((3:Nat),rowS Heap.nil acc),((4:Nat),.int .i64 ↑i)]) (some 5) (ev (updL T [((0:Nat),.sl .sh (l.map encT)),((3:Nat),rowS Heap.nil acc),((4:Nat),.int .i64 ↑i)]) (.t 4))) (some 6) (ev (setD (updL T [((0:Nat),.sl .sh (l.map encT)),((3:Nat),rowS Heap.nil acc),((4:Nat),.int .i64 ↑i)]) (some 5) (ev (updL T [((0:Nat),.sl .sh (l.map encT)),((3:Nat),rowS Heap.nil acc),((4:Nat),.int .i64 ↑i)]) (.t 4))) (.t 0))) (some 7) (.int .i64 (↑l.length))) (some 8) (.bool (decide ((↑i:Int)<(↑l.length:Int))))) (some 30) (ev (setD (setD (setD (setD (updL T [((0:Nat),.sl .sh (l.map encT)),((3:Nat),rowS Heap.nil acc),((4:Nat),.int .i64 ↑i)]) (some 5) (ev (updL T [((0:Nat),.sl .sh (l.map encT)),((3:Nat),rowS Heap.nil acc),((4:Nat),.int .i64 ↑i)]) (.t 4))) (some 6) (ev (setD (updL T [((0:Nat),.sl .sh (l.map encT)),((3:Nat),rowS Heap.nil acc),((4:Nat),.int .i64 ↑i)]) (some 5) (ev (updL T [((0:Nat),.sl .sh (l.map encT)),((3:Nat),rowS Heap.nil acc),((4:Nat),.int .i64 ↑i)]) (.t 4))) (.t 0))) (some 7) (.int .i64 (↑l.length))) (some 8) (.bool (decide ((↑i:Int)<(↑l.length:Int))))) (.t 3))) (some 2) (ev (setD (setD (setD (setD (setD (updL T [((0:Nat),.sl .sh (l.map encT)),((3:Nat),rowS Heap.nil acc),((4:Nat),.int .i64 ↑i)]) (some 5) (ev (updL T [((0:Nat),.sl .sh (l.map encT)),((3:Nat),rowS Heap.nil acc),((4:Nat),.int .i64 ↑i)]) (.t 4))) (some 6) (ev (setD (updL T [((0:Nat),.sl .sh (l.map encT)),((3:Nat),rowS Heap.nil acc),((4:Nat),.int .i64 ↑i)]) (some 5) (ev (updL T [((0:Nat),.sl .sh (l.map encT)),((3:Nat),rowS Heap.nil acc),((4:Nat),.int .i64 ↑i)]) (.t 4))) (.t 0))) (some 7) (.int .i64 (↑l.length))) (some 8) (.bool (decide ((↑i:Int)<(↑l.length:Int))))) (some 30) (ev (setD (setD (setD (setD (updL T [((0:Nat),.sl .sh (l.map encT)),((3:Nat),rowS Heap.nil acc),((4:Nat),.int .i64 ↑i)]) (some 5) (ev (updL T [((0:Nat),.sl .sh (l.map encT)),((3:Nat),rowS Heap.nil acc),((4:Nat),.int .i64 ↑i)]) (.t 4))) (some 6) (ev (setD (updL T [((0:Nat),.sl .sh (l.map encT)),((3:Nat),rowS Heap.nil acc),((4:Nat),.int .i64 ↑i)]) (some 5) (ev (updL T [((0:Nat),.sl .sh (l.map encT)),((3:Nat),rowS Heap.nil acc),((4:Nat),.int .i64 ↑i)]) (.t 4))) (.t 0))) (some 7) (.int .i64 (↑l.length))) (some 8) (.bool (decide ((↑i:Int)<(↑l.length:Int))))) (.t 3))) (.t 30)) (2:Nat)),rowH Heap.nil acc)) (by simp only[IsRet,List.map_nil,List.append_nil];rfl)) (by kernel_rfl)
 |cons x post ih=>
  intro i acc hd ha hl T hT
  have hlt:=drop_lt hd
  have hnx:=drop_next hd
  exact goG 60 _ hT (.len (show lenA false (.sl .sh (l.map encT))=some (.int .i64 (↑l.length))from len_map _)<|.yes (decide_eq_true (p:=(↑i:Int)<(↑l.length:Int)) (by simp;omega))<|.idx (show idxA 3 (.sl .sh (l.map encT)) (.int .i64 ↑i)=some (.ref (encT x).cells)from idx_row hd (by rfl))<|.load (rfl:loadA false 1 (rowH Heap.nil acc) (.ref [.str x.key])=some (.str x.key))<|.idx (show idxA 3 (.sl .sh (l.map encT)) (.int .i64 ↑i)=some (.ref (encT x).cells)from idx_row hd (by rfl))<|.load (rfl:loadA false 1 (rowH Heap.nil acc) (.ref [.str x.val])=some (.str x.val))<|.idx (show idxA 3 (.sl .sh (l.map encT)) (.int .i64 ↑i)=some (.ref (encT x).cells)from idx_row hd (by rfl))<|.load (rfl:loadA false 1 (rowH Heap.nil acc) (.ref [.bool x.hard])=some (.bool x.hard))<|.append (show appendA (3:Nat) (40:Nat) (rowH Heap.nil acc) (rowS Heap.nil acc) (.sl .full [.agg [.str x.key,.str x.val,.bool x.hard]])=some ((rowS Heap.nil (acc++[AV.agg [.str x.key,.str x.val,.bool x.hard]]),rowH Heap.nil (acc++[AV.agg [.str x.key,.str x.val,.bool x.hard]])))from row_append (by omega) hl (by rfl) (by rfl))<|.bin (show binA .add (.int .i64 ↑i) (.int .i64 1)=some (.int .i64 (↑(i+1)))from inc_i (by omega))<|.cutQ k198_0 [(0,.sl .sh (l.map encT)),(3,rowS Heap.nil (acc++[AV.agg [.str x.key,.str x.val,.bool x.hard]])),(4,.int .i64 (↑(i+1)))] (rowH Heap.nil (acc++[AV.agg [.str x.key,.str x.val,.bool x.hard]])) (fun T hT=>(ih (i+(1:Nat)) (acc++[AV.agg [.str x.key,.str x.val,.bool x.hard]]) hnx (by simp;omega) (by exact lenOk_snoc (by assumption) rfl) T hT).to (by simp[encT,Taint.cells]))) (by kernel_rfl)
theorem ofL_loop(l:List Tol)(hn:l.length≤20):∀(post:List Tol)(i:Nat)(acc:List AV)(hd:l.drop i=post)(ha:acc.length=i)(hl:lenOk 3 acc=true)(T:Env)(hT:Has T [(0,.sl .sh (l.map encL)),(3,rowS Heap.nil acc),(4,.int .i64 i)]),
 Goes cfg a73 k73_0 T (rowH Heap.nil acc) (IsRet (rowS Heap.nil (acc++post.map encL))):=by
 intro post
 induction post with
 |nil=>
  intro i acc hd ha hl T hT
  have hge:=drop_ge hd
  exact goG 60 _ hT (.len (show lenA false (.sl .sh (l.map encL))=some (.int .i64 (↑l.length))from len_map _)<|.no (decide_eq_false (p:=(↑i:Int)<(↑l.length:Int)) (by omega))<|.fin ((.ret (setD (setD (setD (setD (setD (setD (updL T [((0:Nat),.sl .sh (l.map encL)),((3:Nat),rowS Heap.nil acc),((4:Nat),.int .i64 ↑i)]) (some 5) (ev (updL T [((0:Nat),.sl .sh (l.map encL)),((3:Nat),rowS Heap.nil acc),((4:Nat),.int .i64 ↑i)]) (.t 4))) (some 6) (ev (setD (updL T [((0:Nat),.sl .sh (l.map encL)),((3:Nat),rowS Heap.nil acc),((4:Nat),.int .i64 ↑i)]) (some 5) (ev (updL T [((0:Nat),.sl .sh (l.map encL)),((3:Nat),rowS Heap.nil acc),((4:Nat),.int .i64 ↑i)]) (.t 4))) (.t 0))) (some 7) (.int .i64 (↑l.length))) (some 8) (.bool (decide ((↑i:Int)<(↑l.length:Int))))) (some 30) (ev (setD (setD (setD (setD (updL T [((0:Nat),.sl .sh (l.map encL)),((3:Nat),rowS Heap.nil acc),((4:Nat),.int .i64 ↑i)]) (some 5) (ev (updL T [((0:Nat),.sl .sh (l.map encL)),((3:Nat),rowS Heap.nil acc),((4:Nat),.int .i64 ↑i)]) (.t 4))) (some 6) (ev (setD (updL T [((0:Nat),.sl .sh (l.map encL)),((3:Nat),rowS Heap.nil acc),((4:Nat),.int .i64 ↑i)]) (some 5) (ev (updL T [((0:Nat),.sl .sh (l.map encL)),((3:Nat),rowS Heap.nil acc),((4:Nat),.int .i64 ↑i)]) (.t 4))) (.t 0))) (some 7) (.int .i64 (↑l.length))) (some 8) (.bool (decide ((↑i:Int)<(↑l.length:Int))))) (.t 3))) (some 2) (ev (setD (setD (setD (setD (setD (updL T [((0:Nat),.sl .sh (l.map encL)),((3:Nat),rowS Heap.nil acc),((4:Nat),.int .i64 ↑i)]) (some 5) (ev (updL T [((0:Nat),.sl .sh (l.map encL)),((3:Nat),rowS Heap.nil acc),((4:Nat),.int .i64 ↑i)]) (.t 4))) (some 6) (ev (setD (updL T [((0:Nat),.sl .sh (l.map encL)),((3:Nat),rowS Heap.nil acc),((4:Nat),.int .i64 ↑i)]) (some 5) (ev (updL T [((0:Nat),.sl .sh (l.map encL)),((3:Nat),rowS Heap.nil acc),((4:Nat),.int .i64 ↑i)]) (.t 4))) (.t 0))) (some 7) (.int .i64 (↑l.length))) (some 8) (.bool (decide ((↑i:Int)<(↑l.length:Int))))) (some 30) (ev (setD (setD (setD (setD (updL T [((0:Nat),.sl .sh (l.map encL)),((3:Nat),rowS Heap.nil acc),((4:Nat),.int .i64 ↑i)]) (some 5) (ev (updL T [((0:Nat),.sl .sh (l.map encL)),((3:Nat),rowS Heap.nil acc),((4:Nat),.int .i64 ↑i)]) (.t 4))) (some 6) (ev (setD (updL T [((0:Nat),.sl .sh (l.map encL)),((3:Nat),rowS Heap.nil acc),((4:Nat),.int .i64 ↑i)]) (some 5) (ev (updL T [((0:Nat),.sl .sh (l.map encL)),((3:Nat),rowS Heap.nil acc),((4:Nat),.int .i64 ↑i)]) (.t 4))) (.t 0))) (some 7) (.int .i64 (↑l.length))) (some 8) (.bool (decide ((↑i:Int)<(↑l.length:Int))))) (.t 3))) (.t 30)) (2:Nat)),rowH Heap.nil acc)) (by simp only[IsRet,List.map_nil,List.append_nil];rfl)) (by kernel_rfl)
 |cons x post ih=>
  intro i acc hd ha hl T hT
  have hlt:=drop_lt hd
  have hnx:=drop_next hd
  exact goG 60 _ hT (.len (show lenA false (.sl .sh (l.map encL))=some (.int .i64 (↑l.length))from len_map _)<|.yes (decide_eq_true (p:=(↑i:Int)<(↑l.length:Int)) (by simp;omega))<|.idx (show idxA 3 (.sl .sh (l.map encL)) (.int .i64 ↑i)=some (.ref (encL x).cells)from idx_row hd (by rfl))<|.load (rfl:loadA false 1 (rowH Heap.nil acc) (.ref [.str x.key])=some (.str x.key))<|.idx (show idxA 3 (.sl .sh (l.map encL)) (.int .i64 ↑i)=some (.ref (encL x).cells)from idx_row hd (by rfl))<|.load (rfl:loadA false 1 (rowH Heap.nil acc) (.ref [.str x.val])=some (.str x.val))<|.idx (show idxA 3 (.sl .sh (l.map encL)) (.int .i64 ↑i)=some (.ref (encL x).cells)from idx_row hd (by rfl))<|.load (rfl:loadA false 1 (rowH Heap.nil acc) (.ref [.bool x.any])=some (.bool x.any))<|.append (show appendA (3:Nat) (40:Nat) (rowH Heap.nil acc) (rowS Heap.nil acc) (.sl .full [.agg [.str x.key,.str x.val,.bool x.any]])=some ((rowS Heap.nil (acc++[AV.agg [.str x.key,.str x.val,.bool x.any]]),rowH Heap.nil (acc++[AV.agg [.str x.key,.str x.val,.bool x.any]])))from row_append (by omega) hl (by rfl) (by rfl))<|.bin (show binA .add (.int .i64 ↑i) (.int .i64 1)=some (.int .i64 (↑(i+1)))from inc_i (by omega))<|.cutQ k73_0 [(0,.sl .sh (l.map encL)),(3,rowS Heap.nil (acc++[AV.agg [.str x.key,.str x.val,.bool x.any]])),(4,.int .i64 (↑(i+1)))] (rowH Heap.nil (acc++[AV.agg [.str x.key,.str x.val,.bool x.any]])) (fun T hT=>(ih (i+(1:Nat)) (acc++[AV.agg [.str x.key,.str x.val,.bool x.any]]) hnx (by simp;omega) (by exact lenOk_snoc (by assumption) rfl) T hT).to (by simp[encL,Tol.cells]))) (by kernel_rfl)
theorem ofT_any(l:List Taint)(hn:l.length≤20):Gives cfg 198 [.sl .sh (l.map encT)] (rowS Heap.nil (l.map encT)):=by
 refine Gives.run (l198 _ _) ?_
 have h:=ofT_loop l hn l 0 [] rfl rfl rfl
 exact goG 60 [] trivial (.cutQ k198_0 [(0,.sl .sh (l.map encT)),(3,.sl .full []),(4,.int .i64 0)] ({boxes:=[],toks:=[],loops:=[]:Heap}) (fun T hT=>(h T hT))) (by kernel_rfl)
theorem ofL_any(l:List Tol)(hn:l.length≤20):Gives cfg 73 [.sl .sh (l.map encL)] (rowS Heap.nil (l.map encL)):=by
 refine Gives.run (l73 _ _) ?_
 have h:=ofL_loop l hn l 0 [] rfl rfl rfl
 exact goG 60 [] trivial (.cutQ k73_0 [(0,.sl .sh (l.map encL)),(3,.sl .full []),(4,.int .i64 0)] ({boxes:=[],toks:=[],loops:=[]:Heap}) (fun T hT=>(h T hT))) (by kernel_rfl)
def nameCh(c:UInt8):Bool:=(decide (97≤c.toNat)&&decide (c.toNat≤122))||(decide (48≤c.toNat)&&decide (c.toNat≤57))
def isName(s:List UInt8):Bool:=decide (1≤s.length)&&decide (s.length≤12)&&s.all nameCh
theorem name_loop(s:List UInt8)(hn:s.length≤12):∀(post:List UInt8)(i:Nat)(hd:s.drop i=post)(T:Env)(hT:Has T [(0,.str s),(3,.int .i64 i)]),
 Goes cfg a66 k66_0 T Heap.nil (IsRet (.bool (post.all nameCh))):=by
 intro post
 induction post with
 |nil=>
  intro i hd T hT
  have hge:=drop_ge hd
  exact goG 60 _ hT (.len (show lenA true (.str s)=some (.int .i64 (↑s.length))from len_str _)<|.no (decide_eq_false (p:=(↑i:Int)<(↑s.length:Int)) (by omega))<|.fin ((.ret (.bool true),{boxes:=[],toks:=[],loops:=[]:Heap})) rfl) (by kernel_rfl)
 |cons x post ih=>
  intro i hd T hT
  have hlt:=drop_lt hd
  have hnx:=drop_next hd
  exact let ζ1:Heap:={boxes:=[],toks:=[],loops:=[]:Heap};goG 60 _ hT (.len (show lenA true (.str s)=some (.int .i64 (↑s.length))from len_str _)<|.yes (decide_eq_true (p:=(↑i:Int)<(↑s.length:Int)) (by omega))<|.idxs (show idxsA (.str s) (.int .i64 ↑i)=some (.int .u8 (↑x.toNat))from idx_str hd)<|.split ((↑x.toNat:Int)<(97:Int)) (fun h1=>.yes (decide_eq_true (p:=(↑x.toNat:Int)<(97:Int)) h1)<|.tt<|.idxs (show idxsA (.str s) (.int .i64 ↑i)=some (.int .u8 (↑x.toNat))from idx_str hd)<|.split ((↑x.toNat:Int)<(48:Int)) (fun h2=>.yes (decide_eq_true (p:=(↑x.toNat:Int)<(48:Int)) h2)<|.tt<|.fin ((.ret (.bool false),ζ1)) (by simp only[IsRet];grind[nameCh])) (fun h2=>.no (decide_eq_false (p:=(↑x.toNat:Int)<(48:Int)) h2)<|.idxs (show idxsA (.str s) (.int .i64 ↑i)=some (.int .u8 (↑x.toNat))from idx_str hd)<|.split ((57:Int)<(↑x.toNat:Int)) (fun h3=>.yes (decide_eq_true (p:=(57:Int)<(↑x.toNat:Int)) h3)<|.fin ((.ret (.bool false),ζ1)) (by simp only[IsRet];grind[nameCh])) (fun h3=>.no (decide_eq_false (p:=(57:Int)<(↑x.toNat:Int)) h3)<|.bin (show binA .add (.int .i64 ↑i) (.int .i64 1)=some (.int .i64 (↑(i+1)))from inc_i (by omega))<|.cutQ k66_0 [(0,.str s),(3,.int .i64 (↑(i+1)))] (ζ1) (fun T hT=>(ih (i+(1:Nat)) hnx T hT).to (by grind[nameCh]))))) (fun h1=>.no (decide_eq_false (p:=(↑x.toNat:Int)<(97:Int)) h1)<|.idxs (show idxsA (.str s) (.int .i64 ↑i)=some (.int .u8 (↑x.toNat))from idx_str hd)<|.split ((122:Int)<(↑x.toNat:Int)) (fun h2=>.yes (decide_eq_true (p:=(122:Int)<(↑x.toNat:Int)) h2)<|.idxs (show idxsA (.str s) (.int .i64 ↑i)=some (.int .u8 (↑x.toNat))from idx_str hd)<|.no (decide_eq_false (p:=(↑x.toNat:Int)<(48:Int)) (by omega))<|.idxs (show idxsA (.str s) (.int .i64 ↑i)=some (.int .u8 (↑x.toNat))from idx_str hd)<|.yes (decide_eq_true (p:=(57:Int)<(↑x.toNat:Int)) (by omega))<|.fin ((.ret (.bool false),ζ1)) (by simp only[IsRet];grind[nameCh])) (fun h2=>.no (decide_eq_false (p:=(122:Int)<(↑x.toNat:Int)) h2)<|.ff<|.bin (show binA .add (.int .i64 ↑i) (.int .i64 1)=some (.int .i64 (↑(i+1)))from inc_i (by omega))<|.cutQ k66_0 [(0,.str s),(3,.int .i64 (↑(i+1)))] (ζ1) (fun T hT=>(ih (i+(1:Nat)) hnx T hT).to (by grind[nameCh]))))) (by kernel_rfl)
theorem name_any(s:List UInt8):Gives cfg 66 [.str s] (.bool (isName s)):=by
 refine Gives.run (l66 _ _) ?_
 have h:=fun hn=>name_loop s hn s 0 rfl
 exact let ζ1:Heap:={boxes:=[],toks:=[],loops:=[]:Heap};goG 60 [] trivial (.len (show lenA true (.str s)=some (.int .i64 (↑s.length))from len_str _)<|.split ((↑s.length:Int)<(1:Int)) (fun h1=>.yes (decide_eq_true (p:=(↑s.length:Int)<(1:Int)) h1)<|.tt<|.fin ((.ret (.bool false),ζ1)) (by simp only[IsRet];grind[isName])) (fun h1=>.no (decide_eq_false (p:=(↑s.length:Int)<(1:Int)) h1)<|.len (show lenA true (.str s)=some (.int .i64 (↑s.length))from len_str _)<|.split ((12:Int)<(↑s.length:Int)) (fun h2=>.yes (decide_eq_true (p:=(12:Int)<(↑s.length:Int)) h2)<|.fin ((.ret (.bool false),ζ1)) (by simp only[IsRet];grind[isName])) (fun h2=>.no (decide_eq_false (p:=(12:Int)<(↑s.length:Int)) h2)<|.cutQ k66_0 [(0,.str s),(3,.int .i64 0)] (ζ1) (fun T hT=>(h (by omega) T hT).to (by grind[isName]))))) (by kernel_rfl)
end Go.Aa.T
set_option linter.unusedVariables false
set_option linter.unusedSimpArgs false
set_option maxRecDepth 100000
namespace Go.Aa.T
open Go.Aa Go.Proofs
def _root_.Go.Aa.ScrQ.callI{cfg:Cfg}{A:AFunc}{R:ARes×Heap→Prop}{ys:List AV}{g:FuncId}{v:AV}(h:Gives cfg g ys v)(s:ScrQ cfg A R)(hx:ys.map shut2=ys∧ys.all data2=true:=by exact⟨rfl,rfl⟩)(hv:shutA v=v∧isData v=true:=by exact⟨rfl,rfl⟩):ScrQ cfg A R:=.callG ys v h hx hv s
def _root_.Go.Aa.ScrQ.callK{cfg:Cfg}{A:AFunc}{R:ARes×Heap→Prop}(xs:List AV){ys:List AV}{g:FuncId}{v:AV}(w:AV)(h:Gives cfg g ys v)(s:ScrQ cfg A R)(hx:xs.map shut2=ys∧ys.all data2=true:=by exact⟨rfl,rfl⟩)(hv:shutA v=w∧isData w=true:=by exact⟨rfl,rfl⟩):ScrQ cfg A R:=.callG xs w h hx hv s
def _root_.Go.Aa.ScrQ.callH{cfg:Cfg}{A:AFunc}{R:ARes×Heap→Prop}{ys:List AV}{g:FuncId}{v:AV}(h:Gives cfg g ys v)(hx:ys.map shut2=ys∧ys.all data2=true)(hv:shutA v=v∧isData v=true)(s:ScrQ cfg A R):ScrQ cfg A R:=.callG ys v h hx hv s
def same(x y:Taint):Bool:=decide (y.key=x.key)&&decide (y.val=x.val)
def ckTl(l:List Taint):Nat→List Taint→Int
 |_,[]=>0
 |i,x::post=>if isName x.key&&isName x.val then(if(l.take i).any (same x)then 6 else ckTl l (i+1) post)else 3
def ckT(l:List Taint):Int:=if l.length≤8 then ckTl l 0 l else 4
theorem ckT_loop(l:List Taint)(hn:l.length≤8):∀(post:List Taint)(i:Nat)(hd:l.drop i=post)(T:Env)(hT:Has T [(0,.sl .sh (l.map encT)),(3,.int .i64 i)]),
 Goes cfg a211 k211_0 T Heap.nil (IsRet (.int .i64 (ckTl l i post))):=by
 intro post
 induction post with
 |nil=>
  intro i hd T hT
  have hge:=drop_ge hd
  exact goG 60 _ hT (.len (show lenA false (.sl .sh (l.map encT))=some (.int .i64 (↑l.length))from len_map _)<|.no (decide_eq_false (p:=(↑i:Int)<(↑l.length:Int)) (by omega))<|.fin ((.ret (.int .i64 0),{boxes:=[],toks:=[],loops:=[]:Heap})) rfl) (by kernel_rfl)
 |cons x post ih=>
  intro i hd T hT
  have hlt:=drop_lt hd
  have hnx:=drop_next hd
  have hx:=drop_at hd
  have inner:∀(q:List Taint)(k:Nat)(hk:(l.take i).drop k=q)(T:Env)(hT:Has T [(0,.sl .sh (l.map encT)),(3,.int .i64 i),(4,.int .i64 k)]),
   Goes cfg a211 k211_1 T Heap.nil (IsRet (.int .i64 (if q.any (same x)then 6 else ckTl l (i+1) post))):=by
   intro q
   induction q with
   |nil=>
    intro k hk T hT
    have hge:i≤k:=by have:=drop_ge hk;simp at this;omega
    exact goG 60 _ hT (.no (decide_eq_false (p:=(↑k:Int)<(↑i:Int)) (by omega))<|.bin (show binA .add (.int .i64 ↑i) (.int .i64 1)=some (.int .i64 (↑(i+1)))from inc_i (by omega))<|.cutQ k211_0 [(0,.sl .sh (l.map encT)),(3,.int .i64 (↑(i+1)))] ({boxes:=[],toks:=[],loops:=[]:Heap}) (fun T hT=>(ih (i+(1:Nat)) hnx T hT))) (by kernel_rfl)
   |cons y q ih2=>
    intro k hk T hT
    have hlt2:k<i:=by have:=drop_lt hk;simp at this;omega
    have hnx2:=drop_next hk
    have hy:l[k]?=some y:=by have:=drop_at hk;rw[List.getElem?_take]at this;simpa[hlt2]using this
    exact let ζ1:Heap:={boxes:=[],toks:=[],loops:=[]:Heap};goG 60 _ hT (.yes (decide_eq_true (p:=(↑k:Int)<(↑i:Int)) (by omega))<|.idx (show idxA 3 (.sl .sh (l.map encT)) (.int .i64 ↑k)=some (.ref (encT y).cells)from idx_get hy (by rfl))<|.idx (show idxA 3 (.sl .sh (l.map encT)) (.int .i64 ↑i)=some (.ref (encT x).cells)from idx_row hd (by rfl))<|.split ((y.key==x.key)=true) (fun h1=>.yes (show(y.key==x.key)=true from h1)<|.idx (show idxA 3 (.sl .sh (l.map encT)) (.int .i64 ↑k)=some (.ref (encT y).cells)from idx_get hy (by rfl))<|.idx (show idxA 3 (.sl .sh (l.map encT)) (.int .i64 ↑i)=some (.ref (encT x).cells)from idx_row hd (by rfl))<|.split ((y.val==x.val)=true) (fun h2=>.yes (show(y.val==x.val)=true from h2)<|.fin ((.ret (.int .i64 6),ζ1)) (by simp only[IsRet];grind[same])) (fun h2=>.no (show(y.val==x.val)=false from Bool.eq_false_iff.2 h2)<|.bin (show binA .add (.int .i64 ↑k) (.int .i64 1)=some (.int .i64 (↑(k+(1:Nat)):Int))from inc_i (by omega))<|.cutQ k211_1 [(0,.sl .sh (l.map encT)),(3,.int .i64 ↑i),(4,.int .i64 (↑(k+(1:Nat)):Int))] (ζ1) (fun T hT=>(ih2 (k+(1:Nat)) hnx2 T hT).to (by grind[same])))) (fun h1=>.no (show(y.key==x.key)=false from Bool.eq_false_iff.2 h1)<|.ff<|.bin (show binA .add (.int .i64 ↑k) (.int .i64 1)=some (.int .i64 (↑(k+(1:Nat)):Int))from inc_i (by omega))<|.cutQ k211_1 [(0,.sl .sh (l.map encT)),(3,.int .i64 ↑i),(4,.int .i64 (↑(k+(1:Nat)):Int))] (ζ1) (fun T hT=>(ih2 (k+(1:Nat)) hnx2 T hT).to (by grind[same])))) (by kernel_rfl)
  have inner0:=inner (l.take i) 0 rfl
  exact let ζ1:Heap:={boxes:=[],toks:=[],loops:=[]:Heap};goG 60 _ hT (.len (show lenA false (.sl .sh (l.map encT))=some (.int .i64 (↑l.length))from len_map _)<|.yes (decide_eq_true (p:=(↑i:Int)<(↑l.length:Int)) (by omega))<|.idx (show idxA 3 (.sl .sh (l.map encT)) (.int .i64 ↑i)=some (.ref (encT x).cells)from idx_row hd (by rfl))<|.callI (show Gives cfg (66:FuncId) [.str x.key] (.bool (isName x.key))from name_any _)<|.split (isName x.key=true) (fun h1=>.no (show(!isName x.key)=false from by have hh:isName x.key=true:=h1;simp[hh])<|.idx (show idxA 3 (.sl .sh (l.map encT)) (.int .i64 ↑i)=some (.ref (encT x).cells)from idx_row hd (by rfl))<|.callI (show Gives cfg (66:FuncId) [.str x.val] (.bool (isName x.val))from name_any _)<|.split (isName x.val=true) (fun h2=>.no (show(!isName x.val)=false from by have hh:isName x.val=true:=h2;simp[hh])<|.cutQ k211_1 [(0,.sl .sh (l.map encT)),(3,.int .i64 ↑i),(4,.int .i64 0)] (ζ1) (fun T hT=>(inner0 T hT).to (by grind[ckTl]))) (fun h2=>.yes (show(!isName x.val)=true from by have hh:¬(isName x.val=true):=h2;simp[hh])<|.fin ((.ret (.int .i64 3),ζ1)) (by simp only[IsRet];grind[ckTl]))) (fun h1=>.yes (show(!isName x.key)=true from by have hh:¬(isName x.key=true):=h1;simp[hh])<|.tt<|.fin ((.ret (.int .i64 3),ζ1)) (by simp only[IsRet];grind[ckTl]))) (by kernel_rfl)
theorem ckT_any(l:List Taint):Gives cfg 211 [.sl .sh (l.map encT)] (.int .i64 (ckT l)):=by
 refine Gives.run (l211 _ _) ?_
 have h:=fun hn=>ckT_loop l hn l 0 rfl
 exact let ζ1:Heap:={boxes:=[],toks:=[],loops:=[]:Heap};goG 60 [] trivial (.len (show lenA false (.sl .sh (l.map encT))=some (.int .i64 (↑l.length))from len_map _)<|.split ((8:Int)<(↑l.length:Int)) (fun h1=>.yes (decide_eq_true (p:=(8:Int)<(↑l.length:Int)) h1)<|.fin ((.ret (.int .i64 4),ζ1)) (by simp only[IsRet];grind[ckT])) (fun h1=>.no (decide_eq_false (p:=(8:Int)<(↑l.length:Int)) h1)<|.cutQ k211_0 [(0,.sl .sh (l.map encT)),(3,.int .i64 0)] (ζ1) (fun T hT=>(h (by omega) T hT).to (by grind[ckT])))) (by kernel_rfl)
def okL(x:Tol):Bool:=(decide (x.key=[])||isName x.key)&&(if x.any then decide (x.val=[])else isName x.val)
def ckL(l:List Tol):Int:=if l.length≤8 then(if l.all okL then 0 else 3)else 4
theorem ckL_loop(l:List Tol)(hn:l.length≤8):∀(post:List Tol)(i:Nat)(bs:List (List AV))(hd:l.drop i=post)(T:Env)(hT:Has T [(0,.sl .sh (l.map encL)),(3,.int .i64 i)]),
 Goes cfg a70 k70_0 T ⟨bs,[],[]⟩ (IsRet (.int .i64 (if post.all okL then 0 else 3))):=by
 intro post
 induction post with
 |nil=>
  intro i bs hd T hT
  have hge:=drop_ge hd
  exact goG 60 _ hT (.len (show lenA false (.sl .sh (l.map encL))=some (.int .i64 (↑l.length))from len_map _)<|.no (decide_eq_false (p:=(↑i:Int)<(↑l.length:Int)) (by omega))<|.fin ((.ret (.int .i64 0),{boxes:=bs,toks:=[],loops:=[]:Heap})) rfl) (by kernel_rfl)
 |cons x post ih=>
  intro i bs hd T hT
  have hlt:=drop_lt hd
  have hnx:=drop_next hd
  exact let ζ2:List AV:=[.str x.key,.str x.val,.bool x.any];let ζ1:Heap:={boxes:=bs++[ζ2],toks:=[],loops:=[]:Heap};goG 60 _ hT (.len (show lenA false (.sl .sh (l.map encL))=some (.int .i64 (↑l.length))from len_map _)<|.yes (decide_eq_true (p:=(↑i:Int)<(↑l.length:Int)) (by omega))<|.idx (show idxA 3 (.sl .sh (l.map encL)) (.int .i64 ↑i)=some (.ref (encL x).cells)from idx_row hd (by rfl))<|.load (rfl:loadA true 3 {boxes:=bs,toks:=[],loops:=[]:Heap} (.ref ζ2)=some (.agg ζ2))<|.store (show storeA 3 {boxes:=bs++[[AV.str [],.str [],.bool false]],toks:=[],loops:=[]:Heap} (.ptr bs.length (0:Nat)) (.agg ζ2)=some (ζ1)from store_box2 (cs:=[.str [],.str [],.bool false]) (cs':=ζ2) (by simp+zetaDelta) rfl (by simp+zetaDelta [List.set_append]))<|.load (show loadA false 1 ζ1 (.ptr bs.length (0:Nat))=some (.str x.key)from load_box (cs:=ζ2) (by simp+zetaDelta) rfl)<|.split ((x.key==[])=true) (fun h1=>.no (show(!x.key==[])=false from by have hh:(x.key==[])=true:=h1;simp[hh])<|.ff<|.load (show loadA false 1 ζ1 (.ptr bs.length (2:Nat))=some (.bool x.any)from load_box (cs:=ζ2) (by simp+zetaDelta) rfl)<|.split (x.any=true) (fun h2=>.yes (show(x.any)=true from h2)<|.load (show loadA false 1 ζ1 (.ptr bs.length (1:Nat))=some (.str x.val)from load_box (cs:=ζ2) (by simp+zetaDelta) rfl)<|.split ((x.val==[])=true) (fun h3=>.no (show(!x.val==[])=false from by have hh:(x.val==[])=true:=h3;simp[hh])<|.load (show loadA false 1 ζ1 (.ptr bs.length (2:Nat))=some (.bool x.any)from load_box (cs:=ζ2) (by simp+zetaDelta) rfl)<|.no (show(!x.any)=false from by have hh:x.any=true:=(by omega);simp[hh])<|.ff<|.bin (show binA .add (.int .i64 ↑i) (.int .i64 1)=some (.int .i64 (↑(i+1)))from inc_i (by omega))<|.cutQ k70_0 [(0,.sl .sh (l.map encL)),(3,.int .i64 (↑(i+1)))] (ζ1) (fun T hT=>(ih (i+(1:Nat)) (bs++[ζ2]) hnx T hT).to (by grind[okL]))) (fun h3=>.yes (show(!x.val==[])=true from by have hh:¬((x.val==[])=true):=h3;simp[hh])<|.tt<|.fin ((.ret (.int .i64 3),ζ1)) (by simp only[IsRet];grind[okL]))) (fun h2=>.no (show(x.any)=false from Bool.eq_false_iff.2 h2)<|.ff<|.load (show loadA false 1 ζ1 (.ptr bs.length (2:Nat))=some (.bool x.any)from load_box (cs:=ζ2) (by simp+zetaDelta) rfl)<|.yes (show(!x.any)=true from by have hh:¬(x.any=true):=(by omega);simp[hh])<|.load (show loadA false 1 ζ1 (.ptr bs.length (1:Nat))=some (.str x.val)from load_box (cs:=ζ2) (by simp+zetaDelta) rfl)<|.callI (show Gives cfg (66:FuncId) [.str x.val] (.bool (isName x.val))from name_any _)<|.split (isName x.val=true) (fun h3=>.no (show(!isName x.val)=false from by have hh:isName x.val=true:=h3;simp[hh])<|.bin (show binA .add (.int .i64 ↑i) (.int .i64 1)=some (.int .i64 (↑(i+1)))from inc_i (by omega))<|.cutQ k70_0 [(0,.sl .sh (l.map encL)),(3,.int .i64 (↑(i+1)))] (ζ1) (fun T hT=>(ih (i+(1:Nat)) (bs++[ζ2]) hnx T hT).to (by grind[okL]))) (fun h3=>.yes (show(!isName x.val)=true from by have hh:¬(isName x.val=true):=h3;simp[hh])<|.fin ((.ret (.int .i64 3),ζ1)) (by simp only[IsRet];grind[okL])))) (fun h1=>.yes (show(!x.key==[])=true from by have hh:¬((x.key==[])=true):=h1;simp[hh])<|.load (show loadA false 1 ζ1 (.ptr bs.length (0:Nat))=some (.str x.key)from load_box (cs:=ζ2) (by simp+zetaDelta) rfl)<|.callI (show Gives cfg (66:FuncId) [.str x.key] (.bool (isName x.key))from name_any _)<|.split (isName x.key=true) (fun h2=>.no (show(!isName x.key)=false from by have hh:isName x.key=true:=h2;simp[hh])<|.load (show loadA false 1 ζ1 (.ptr bs.length (2:Nat))=some (.bool x.any)from load_box (cs:=ζ2) (by simp+zetaDelta) rfl)<|.split (x.any=true) (fun h3=>.yes (show(x.any)=true from h3)<|.load (show loadA false 1 ζ1 (.ptr bs.length (1:Nat))=some (.str x.val)from load_box (cs:=ζ2) (by simp+zetaDelta) rfl)<|.split ((x.val==[])=true) (fun h4=>.no (show(!x.val==[])=false from by have hh:(x.val==[])=true:=h4;simp[hh])<|.load (show loadA false 1 ζ1 (.ptr bs.length (2:Nat))=some (.bool x.any)from load_box (cs:=ζ2) (by simp+zetaDelta) rfl)<|.no (show(!x.any)=false from by have hh:x.any=true:=(by omega);simp[hh])<|.ff<|.bin (show binA .add (.int .i64 ↑i) (.int .i64 1)=some (.int .i64 (↑(i+1)))from inc_i (by omega))<|.cutQ k70_0 [(0,.sl .sh (l.map encL)),(3,.int .i64 (↑(i+1)))] (ζ1) (fun T hT=>(ih (i+(1:Nat)) (bs++[ζ2]) hnx T hT).to (by grind[okL]))) (fun h4=>.yes (show(!x.val==[])=true from by have hh:¬((x.val==[])=true):=h4;simp[hh])<|.tt<|.fin ((.ret (.int .i64 3),ζ1)) (by simp only[IsRet];grind[okL]))) (fun h3=>.no (show(x.any)=false from Bool.eq_false_iff.2 h3)<|.ff<|.load (show loadA false 1 ζ1 (.ptr bs.length (2:Nat))=some (.bool x.any)from load_box (cs:=ζ2) (by simp+zetaDelta) rfl)<|.yes (show(!x.any)=true from by have hh:¬(x.any=true):=(by omega);simp[hh])<|.load (show loadA false 1 ζ1 (.ptr bs.length (1:Nat))=some (.str x.val)from load_box (cs:=ζ2) (by simp+zetaDelta) rfl)<|.callI (show Gives cfg (66:FuncId) [.str x.val] (.bool (isName x.val))from name_any _)<|.split (isName x.val=true) (fun h4=>.no (show(!isName x.val)=false from by have hh:isName x.val=true:=h4;simp[hh])<|.bin (show binA .add (.int .i64 ↑i) (.int .i64 1)=some (.int .i64 (↑(i+1)))from inc_i (by omega))<|.cutQ k70_0 [(0,.sl .sh (l.map encL)),(3,.int .i64 (↑(i+1)))] (ζ1) (fun T hT=>(ih (i+(1:Nat)) (bs++[ζ2]) hnx T hT).to (by grind[okL]))) (fun h4=>.yes (show(!isName x.val)=true from by have hh:¬(isName x.val=true):=h4;simp[hh])<|.fin ((.ret (.int .i64 3),ζ1)) (by simp only[IsRet];grind[okL])))) (fun h2=>.yes (show(!isName x.key)=true from by have hh:¬(isName x.key=true):=h2;simp[hh])<|.tt<|.tt<|.fin ((.ret (.int .i64 3),ζ1)) (by simp only[IsRet];grind[okL])))) (by kernel_rfl)
theorem ckL_any(l:List Tol):Gives cfg 70 [.sl .sh (l.map encL)] (.int .i64 (ckL l)):=by
 refine Gives.run (l70 _ _) ?_
 have h:=fun hn=>ckL_loop l hn l 0 [] rfl
 exact let ζ1:Heap:={boxes:=[],toks:=[],loops:=[]:Heap};goG 60 [] trivial (.len (show lenA false (.sl .sh (l.map encL))=some (.int .i64 (↑l.length))from len_map _)<|.split ((8:Int)<(↑l.length:Int)) (fun h1=>.yes (decide_eq_true (p:=(8:Int)<(↑l.length:Int)) h1)<|.fin ((.ret (.int .i64 4),ζ1)) (by simp only[IsRet];grind[ckL])) (fun h1=>.no (decide_eq_false (p:=(8:Int)<(↑l.length:Int)) h1)<|.cutQ k70_0 [(0,.sl .sh (l.map encL)),(3,.int .i64 0)] (ζ1) (fun T hT=>(h (by omega) T hT).to (by grind[ckL])))) (by kernel_rfl)
end Go.Aa.T
set_option linter.unusedVariables false
set_option linter.unusedSimpArgs false
set_option maxRecDepth 100000
namespace Go.Aa.T
open Go.Aa Go.Proofs
def alnum:List UInt8:=[97,98,99,100,101,102,103,104,105,106,107,108,109,110,111,112,113,114,115,116,117,118,119,120,121,122,48,49,50,51,52,53,54,55,56,57]
theorem alnum_ch(c:UInt8):alnum.contains c=nameCh c:=by
 have:∀n:Fin 256,alnum.contains (UInt8.ofNat n.val)=nameCh (UInt8.ofNat n.val):=by decide+kernel
 have h:=this ⟨c.toNat,c.toNat_lt⟩
 simpa using h
theorem dropWhile_nil{p:UInt8→Bool}:∀{l:List UInt8},l.dropWhile p=[]↔l.all p=true
 |[]=>by simp
 |c::l=>by
  by_cases h:p c=true
  ·simp[List.dropWhile_cons,h,dropWhile_nil]
  ·simp[List.dropWhile_cons,h]
theorem trim_nil(s:List UInt8):Lib.trimS s alnum=[]↔s.all nameCh=true:=by
 have hp:(fun c=>alnum.contains c)=nameCh:=funext alnum_ch
 unfold Lib.trimS Lib.trimLeftS Lib.trimRightS
 rw[hp,dropWhile_nil,List.all_reverse]
 constructor
 ·intro h
  have e:=List.takeWhile_append_dropWhile (p:=nameCh) (l:=s.reverse)
  have:s.reverse.all nameCh=true:=by
   rw[←e,List.all_append,h,Bool.and_true]
   exact List.all_takeWhile
  rwa [List.all_reverse]at this
 ·intro h
  have:s.reverse.dropWhile nameCh=[]:=dropWhile_nil.2 (by rwa [List.all_reverse])
  rw[this];rfl
theorem trim_any(s:List UInt8)(h:s.length≤9223372036854775807):Gives cfg 215 [.str s,.str alnum] (.str (Lib.trimS s alnum)):=by
 refine Gives.of (H':=Heap.nil) ?_
 rw[lim_ext (g:=trimE) rfl rfl]
 have:trimE [.str s,.str alnum] Heap.nil=some (.str (Lib.trimS s alnum),Heap.nil):=if_pos ⟨h,by decide,by decide⟩
 rw[this];rfl
theorem res_name(s:List UInt8):Gives cfg 196 [.str s] (.bool (isName s)):=by
 refine Gives.run (l196 _ _) ?_
 have ht:=trim_nil s
 exact let ζ1:Heap:={boxes:=[],toks:=[],loops:=[]:Heap};goG 60 [] trivial (.len (show lenA true (.str s)=some (.int .i64 (↑s.length))from len_str _)<|.split ((1:Int)≤(↑s.length:Int)) (fun h1=>.yes (decide_eq_true (p:=(1:Int)≤(↑s.length:Int)) h1)<|.len (show lenA true (.str s)=some (.int .i64 (↑s.length))from len_str _)<|.split ((↑s.length:Int)≤(12:Int)) (fun h2=>.yes (decide_eq_true (p:=(↑s.length:Int)≤(12:Int)) h2)<|.callK ([.str s,.str [(97:UInt8),(98:UInt8),(99:UInt8),(100:UInt8),(101:UInt8),(102:UInt8),(103:UInt8),(104:UInt8),(105:UInt8),(106:UInt8),(107:UInt8),(108:UInt8),(109:UInt8),(110:UInt8),(111:UInt8),(112:UInt8),(113:UInt8),(114:UInt8),(115:UInt8),(116:UInt8),(117:UInt8),(118:UInt8),(119:UInt8),(120:UInt8),(121:UInt8),(122:UInt8),(48:UInt8),(49:UInt8),(50:UInt8),(51:UInt8),(52:UInt8),(53:UInt8),(54:UInt8),(55:UInt8),(56:UInt8),(57:UInt8)]]) (.str (Lib.trimS s alnum)) (show Gives cfg (215:FuncId) [.str s,.str alnum] (.str (Lib.trimS s alnum))from trim_any _ (by omega))<|.fin ((.ret (.bool (Lib.trimS s alnum==[])),ζ1)) (by simp only[IsRet];grind[isName])) (fun h2=>.no (decide_eq_false (p:=(↑s.length:Int)≤(12:Int)) h2)<|.fin ((.ret (.bool false),ζ1)) (by simp only[IsRet];grind[isName]))) (fun h1=>.no (decide_eq_false (p:=(1:Int)≤(↑s.length:Int)) h1)<|.ff<|.fin ((.ret (.bool false),ζ1)) (by simp only[IsRet];grind[isName]))) (by kernel_rfl)
end Go.Aa.T
set_option linter.unusedVariables false
set_option linter.unusedSimpArgs false
set_option maxRecDepth 100000
namespace Go.Aa.T
open Go.Aa Go.Proofs
structure Pair where
 key:List UInt8
 val:List UInt8
structure Term where
 op:Int
 key:List UInt8
 val:List UInt8
def Pair.cells(t:Pair):List AV:=[.str t.key,.str t.val]
def Term.cells(t:Term):List AV:=[.int .i64 t.op,.str t.key,.str t.val]
def encP(t:Pair):AV:=.agg t.cells
def encM(t:Term):AV:=.agg t.cells
def fewP(l:List Pair):Bool:=decide (l.length≤20)&&few (fun t=>(t.key,t.val)) l
def fewM(l:List Term):Bool:=decide (l.length≤20)&&few (fun t=>(t.key,t.val)) l
theorem fewP_len{l:List Pair}(h:fewP l=true):l.length≤20:=by
 simp only[fewP,Bool.and_eq_true,decide_eq_true_eq]at h;exact h.1
theorem fewM_len{l:List Term}(h:fewM l=true):l.length≤20:=by
 simp only[fewM,Bool.and_eq_true,decide_eq_true_eq]at h;exact h.1
theorem fewP_loop(l:List Pair)(hn:l.length≤20):∀(post:List Pair)(i:Nat)(hd:l.drop i=post)(T:Env)(hT:Has T [(0,.sl .sh (l.map encP)),(3,.int .i64 i)]),
 Goes cfg a63 k63_0 T Heap.nil (IsRet (.bool (few (fun t=>(t.key,t.val)) post))):=by
 intro post
 induction post with
 |nil=>
  intro i hd T hT
  have hge:=drop_ge hd
  exact goG 60 _ hT (.len (show lenA false (.sl .sh (l.map encP))=some (.int .i64 (↑l.length))from len_map _)<|.no (decide_eq_false (p:=(↑i:Int)<(↑l.length:Int)) (by omega))<|.fin ((.ret (.bool true),{boxes:=[],toks:=[],loops:=[]:Heap})) rfl) (by kernel_rfl)
 |cons x post ih=>
  intro i hd T hT
  have hlt:=drop_lt hd
  have hnx:=drop_next hd
  exact let ζ1:Heap:={boxes:=[],toks:=[],loops:=[]:Heap};goG 60 _ hT (.len (show lenA false (.sl .sh (l.map encP))=some (.int .i64 (↑l.length))from len_map _)<|.yes (decide_eq_true (p:=(↑i:Int)<(↑l.length:Int)) (by omega))<|.idx (show idxA 2 (.sl .sh (l.map encP)) (.int .i64 ↑i)=some (.ref (encP x).cells)from idx_row hd (by rfl))<|.len (show lenA true (.str x.key)=some (.int .i64 (↑x.key.length))from len_str _)<|.split ((50:Int)<(↑x.key.length:Int)) (fun h1=>.yes (decide_eq_true (p:=(50:Int)<(↑x.key.length:Int)) h1)<|.tt<|.fin ((.ret (.bool false),ζ1)) (by simp only[IsRet];grind[few])) (fun h1=>.no (decide_eq_false (p:=(50:Int)<(↑x.key.length:Int)) h1)<|.idx (show idxA 2 (.sl .sh (l.map encP)) (.int .i64 ↑i)=some (.ref (encP x).cells)from idx_row hd (by rfl))<|.len (show lenA true (.str x.val)=some (.int .i64 (↑x.val.length))from len_str _)<|.split ((50:Int)<(↑x.val.length:Int)) (fun h2=>.yes (decide_eq_true (p:=(50:Int)<(↑x.val.length:Int)) h2)<|.fin ((.ret (.bool false),ζ1)) (by simp only[IsRet];grind[few])) (fun h2=>.no (decide_eq_false (p:=(50:Int)<(↑x.val.length:Int)) h2)<|.bin (show binA .add (.int .i64 ↑i) (.int .i64 1)=some (.int .i64 (↑(i+1)))from inc_i (by omega))<|.cutQ k63_0 [(0,.sl .sh (l.map encP)),(3,.int .i64 (↑(i+1)))] (ζ1) (fun T hT=>(ih (i+(1:Nat)) hnx T hT).to (by grind[few]))))) (by kernel_rfl)
theorem fewM_loop(l:List Term)(hn:l.length≤20):∀(post:List Term)(i:Nat)(hd:l.drop i=post)(T:Env)(hT:Has T [(0,.sl .sh (l.map encM)),(3,.int .i64 i)]),
 Goes cfg a64 k64_0 T Heap.nil (IsRet (.bool (few (fun t=>(t.key,t.val)) post))):=by
 intro post
 induction post with
 |nil=>
  intro i hd T hT
  have hge:=drop_ge hd
  exact goG 60 _ hT (.len (show lenA false (.sl .sh (l.map encM))=some (.int .i64 (↑l.length))from len_map _)<|.no (decide_eq_false (p:=(↑i:Int)<(↑l.length:Int)) (by omega))<|.fin ((.ret (.bool true),{boxes:=[],toks:=[],loops:=[]:Heap})) rfl) (by kernel_rfl)
 |cons x post ih=>
  intro i hd T hT
  have hlt:=drop_lt hd
  have hnx:=drop_next hd
  exact let ζ1:Heap:={boxes:=[],toks:=[],loops:=[]:Heap};goG 60 _ hT (.len (show lenA false (.sl .sh (l.map encM))=some (.int .i64 (↑l.length))from len_map _)<|.yes (decide_eq_true (p:=(↑i:Int)<(↑l.length:Int)) (by omega))<|.idx (show idxA 3 (.sl .sh (l.map encM)) (.int .i64 ↑i)=some (.ref (encM x).cells)from idx_row hd (by rfl))<|.len (show lenA true (.str x.key)=some (.int .i64 (↑x.key.length))from len_str _)<|.split ((50:Int)<(↑x.key.length:Int)) (fun h1=>.yes (decide_eq_true (p:=(50:Int)<(↑x.key.length:Int)) h1)<|.tt<|.fin ((.ret (.bool false),ζ1)) (by simp only[IsRet];grind[few])) (fun h1=>.no (decide_eq_false (p:=(50:Int)<(↑x.key.length:Int)) h1)<|.idx (show idxA 3 (.sl .sh (l.map encM)) (.int .i64 ↑i)=some (.ref (encM x).cells)from idx_row hd (by rfl))<|.len (show lenA true (.str x.val)=some (.int .i64 (↑x.val.length))from len_str _)<|.split ((50:Int)<(↑x.val.length:Int)) (fun h2=>.yes (decide_eq_true (p:=(50:Int)<(↑x.val.length:Int)) h2)<|.fin ((.ret (.bool false),ζ1)) (by simp only[IsRet];grind[few])) (fun h2=>.no (decide_eq_false (p:=(50:Int)<(↑x.val.length:Int)) h2)<|.bin (show binA .add (.int .i64 ↑i) (.int .i64 1)=some (.int .i64 (↑(i+1)))from inc_i (by omega))<|.cutQ k64_0 [(0,.sl .sh (l.map encM)),(3,.int .i64 (↑(i+1)))] (ζ1) (fun T hT=>(ih (i+(1:Nat)) hnx T hT).to (by grind[few]))))) (by kernel_rfl)
theorem fewP_any(l:List Pair):Gives cfg 63 [.sl .sh (l.map encP)] (.bool (fewP l)):=by
 refine Gives.run (l63 _ _) ?_
 have h:=fun hn=>fewP_loop l hn l 0 rfl
 exact let ζ1:Heap:={boxes:=[],toks:=[],loops:=[]:Heap};goG 60 [] trivial (.len (show lenA false (.sl .sh (l.map encP))=some (.int .i64 (↑l.length))from len_map _)<|.split ((20:Int)<(↑l.length:Int)) (fun h1=>.yes (decide_eq_true (p:=(20:Int)<(↑l.length:Int)) h1)<|.fin ((.ret (.bool false),ζ1)) (by simp only[IsRet];grind[fewP])) (fun h1=>.no (decide_eq_false (p:=(20:Int)<(↑l.length:Int)) h1)<|.cutQ k63_0 [(0,.sl .sh (l.map encP)),(3,.int .i64 0)] (ζ1) (fun T hT=>(h (by omega) T hT).to (by grind[fewP])))) (by kernel_rfl)
theorem fewM_any(l:List Term):Gives cfg 64 [.sl .sh (l.map encM)] (.bool (fewM l)):=by
 refine Gives.run (l64 _ _) ?_
 have h:=fun hn=>fewM_loop l hn l 0 rfl
 exact let ζ1:Heap:={boxes:=[],toks:=[],loops:=[]:Heap};goG 60 [] trivial (.len (show lenA false (.sl .sh (l.map encM))=some (.int .i64 (↑l.length))from len_map _)<|.split ((20:Int)<(↑l.length:Int)) (fun h1=>.yes (decide_eq_true (p:=(20:Int)<(↑l.length:Int)) h1)<|.fin ((.ret (.bool false),ζ1)) (by simp only[IsRet];grind[fewM])) (fun h1=>.no (decide_eq_false (p:=(20:Int)<(↑l.length:Int)) h1)<|.cutQ k64_0 [(0,.sl .sh (l.map encM)),(3,.int .i64 0)] (ζ1) (fun T hT=>(h (by omega) T hT).to (by grind[fewM])))) (by kernel_rfl)
theorem ofP_loop(l:List Pair)(hn:l.length≤20):∀(post:List Pair)(i:Nat)(acc:List AV)(hd:l.drop i=post)(ha:acc.length=i)(hl:lenOk 2 acc=true)(T:Env)(hT:Has T [(0,.sl .sh (l.map encP)),(3,rowS Heap.nil acc),(4,.int .i64 i)]),
 Goes cfg a71 k71_0 T (rowH Heap.nil acc) (IsRet (rowS Heap.nil (acc++post.map encP))):=by
 intro post
 induction post with
 |nil=>
  intro i acc hd ha hl T hT
  have hge:=drop_ge hd
  exact goG 60 _ hT (.len (show lenA false (.sl .sh (l.map encP))=some (.int .i64 (↑l.length))from len_map _)<|.no (decide_eq_false (p:=(↑i:Int)<(↑l.length:Int)) (by omega))<|.fin ((.ret (setD (setD (setD (setD (setD (setD (updL T [((0:Nat),.sl .sh (l.map encP)),((3:Nat),rowS Heap.nil acc),((4:Nat),.int .i64 ↑i)]) (some 5) (ev (updL T [((0:Nat),.sl .sh (l.map encP)),((3:Nat),rowS Heap.nil acc),((4:Nat),.int .i64 ↑i)]) (.t 4))) (some 6) (ev (setD (updL T [((0:Nat),.sl .sh (l.map encP)),((3:Nat),rowS Heap.nil acc),((4:Nat),.int .i64 ↑i)]) (some 5) (ev (updL T [((0:Nat),.sl .sh (l.map encP)),((3:Nat),rowS Heap.nil acc),((4:Nat),.int .i64 ↑i)]) (.t 4))) (.t 0))) (some 7) (.int .i64 (↑l.length))) (some 8) (.bool (decide ((↑i:Int)<(↑l.length:Int))))) (some 25) (ev (setD (setD (setD (setD (updL T [((0:Nat),.sl .sh (l.map encP)),((3:Nat),rowS Heap.nil acc),((4:Nat),.int .i64 ↑i)]) (some 5) (ev (updL T [((0:Nat),.sl .sh (l.map encP)),((3:Nat),rowS Heap.nil acc),((4:Nat),.int .i64 ↑i)]) (.t 4))) (some 6) (ev (setD (updL T [((0:Nat),.sl .sh (l.map encP)),((3:Nat),rowS Heap.nil acc),((4:Nat),.int .i64 ↑i)]) (some 5) (ev (updL T [((0:Nat),.sl .sh (l.map encP)),((3:Nat),rowS Heap.nil acc),((4:Nat),.int .i64 ↑i)]) (.t 4))) (.t 0))) (some 7) (.int .i64 (↑l.length))) (some 8) (.bool (decide ((↑i:Int)<(↑l.length:Int))))) (.t 3))) (some 2) (ev (setD (setD (setD (setD (setD (updL T [((0:Nat),.sl .sh (l.map encP)),((3:Nat),rowS Heap.nil acc),((4:Nat),.int .i64 ↑i)]) (some 5) (ev (updL T [((0:Nat),.sl .sh (l.map encP)),((3:Nat),rowS Heap.nil acc),((4:Nat),.int .i64 ↑i)]) (.t 4))) (some 6) (ev (setD (updL T [((0:Nat),.sl .sh (l.map encP)),((3:Nat),rowS Heap.nil acc),((4:Nat),.int .i64 ↑i)]) (some 5) (ev (updL T [((0:Nat),.sl .sh (l.map encP)),((3:Nat),rowS Heap.nil acc),((4:Nat),.int .i64 ↑i)]) (.t 4))) (.t 0))) (some 7) (.int .i64 (↑l.length))) (some 8) (.bool (decide ((↑i:Int)<(↑l.length:Int))))) (some 25) (ev (setD (setD (setD (setD (updL T [((0:Nat),.sl .sh (l.map encP)),((3:Nat),rowS Heap.nil acc),((4:Nat),.int .i64 ↑i)]) (some 5) (ev (updL T [((0:Nat),.sl .sh (l.map encP)),((3:Nat),rowS Heap.nil acc),((4:Nat),.int .i64 ↑i)]) (.t 4))) (some 6) (ev (setD (updL T [((0:Nat),.sl .sh (l.map encP)),((3:Nat),rowS Heap.nil acc),((4:Nat),.int .i64 ↑i)]) (some 5) (ev (updL T [((0:Nat),.sl .sh (l.map encP)),((3:Nat),rowS Heap.nil acc),((4:Nat),.int .i64 ↑i)]) (.t 4))) (.t 0))) (some 7) (.int .i64 (↑l.length))) (some 8) (.bool (decide ((↑i:Int)<(↑l.length:Int))))) (.t 3))) (.t 25)) (2:Nat)),rowH Heap.nil acc)) (by simp only[IsRet,List.map_nil,List.append_nil];rfl)) (by kernel_rfl)
 |cons x post ih=>
  intro i acc hd ha hl T hT
  have hlt:=drop_lt hd
  have hnx:=drop_next hd
  exact goG 60 _ hT (.len (show lenA false (.sl .sh (l.map encP))=some (.int .i64 (↑l.length))from len_map _)<|.yes (decide_eq_true (p:=(↑i:Int)<(↑l.length:Int)) (by simp;omega))<|.idx (show idxA 2 (.sl .sh (l.map encP)) (.int .i64 ↑i)=some (.ref (encP x).cells)from idx_row hd (by rfl))<|.load (rfl:loadA false 1 (rowH Heap.nil acc) (.ref [.str x.key])=some (.str x.key))<|.idx (show idxA 2 (.sl .sh (l.map encP)) (.int .i64 ↑i)=some (.ref (encP x).cells)from idx_row hd (by rfl))<|.load (rfl:loadA false 1 (rowH Heap.nil acc) (.ref [.str x.val])=some (.str x.val))<|.append (show appendA (2:Nat) (32:Nat) (rowH Heap.nil acc) (rowS Heap.nil acc) (.sl .full [.agg [.str x.key,.str x.val]])=some ((rowS Heap.nil (acc++[AV.agg [.str x.key,.str x.val]]),rowH Heap.nil (acc++[AV.agg [.str x.key,.str x.val]])))from row_append (by omega) hl (by rfl) (by rfl))<|.bin (show binA .add (.int .i64 ↑i) (.int .i64 1)=some (.int .i64 (↑(i+1)))from inc_i (by omega))<|.cutQ k71_0 [(0,.sl .sh (l.map encP)),(3,rowS Heap.nil (acc++[AV.agg [.str x.key,.str x.val]])),(4,.int .i64 (↑(i+1)))] (rowH Heap.nil (acc++[AV.agg [.str x.key,.str x.val]])) (fun T hT=>(ih (i+(1:Nat)) (acc++[AV.agg [.str x.key,.str x.val]]) hnx (by simp;omega) (by exact lenOk_snoc (by assumption) rfl) T hT).to (by simp[encP,Pair.cells]))) (by kernel_rfl)
theorem ofM_loop(l:List Term)(hn:l.length≤20):∀(post:List Term)(i:Nat)(acc:List AV)(hd:l.drop i=post)(ha:acc.length=i)(hl:lenOk 3 acc=true)(T:Env)(hT:Has T [(0,.sl .sh (l.map encM)),(3,rowS Heap.nil acc),(4,.int .i64 i)]),
 Goes cfg a72 k72_0 T (rowH Heap.nil acc) (IsRet (rowS Heap.nil (acc++post.map encM))):=by
 intro post
 induction post with
 |nil=>
  intro i acc hd ha hl T hT
  have hge:=drop_ge hd
  exact goG 60 _ hT (.len (show lenA false (.sl .sh (l.map encM))=some (.int .i64 (↑l.length))from len_map _)<|.no (decide_eq_false (p:=(↑i:Int)<(↑l.length:Int)) (by omega))<|.fin ((.ret (setD (setD (setD (setD (setD (setD (updL T [((0:Nat),.sl .sh (l.map encM)),((3:Nat),rowS Heap.nil acc),((4:Nat),.int .i64 ↑i)]) (some 5) (ev (updL T [((0:Nat),.sl .sh (l.map encM)),((3:Nat),rowS Heap.nil acc),((4:Nat),.int .i64 ↑i)]) (.t 4))) (some 6) (ev (setD (updL T [((0:Nat),.sl .sh (l.map encM)),((3:Nat),rowS Heap.nil acc),((4:Nat),.int .i64 ↑i)]) (some 5) (ev (updL T [((0:Nat),.sl .sh (l.map encM)),((3:Nat),rowS Heap.nil acc),((4:Nat),.int .i64 ↑i)]) (.t 4))) (.t 0))) (some 7) (.int .i64 (↑l.length))) (some 8) (.bool (decide ((↑i:Int)<(↑l.length:Int))))) (some 30) (ev (setD (setD (setD (setD (updL T [((0:Nat),.sl .sh (l.map encM)),((3:Nat),rowS Heap.nil acc),((4:Nat),.int .i64 ↑i)]) (some 5) (ev (updL T [((0:Nat),.sl .sh (l.map encM)),((3:Nat),rowS Heap.nil acc),((4:Nat),.int .i64 ↑i)]) (.t 4))) (some 6) (ev (setD (updL T [((0:Nat),.sl .sh (l.map encM)),((3:Nat),rowS Heap.nil acc),((4:Nat),.int .i64 ↑i)]) (some 5) (ev (updL T [((0:Nat),.sl .sh (l.map encM)),((3:Nat),rowS Heap.nil acc),((4:Nat),.int .i64 ↑i)]) (.t 4))) (.t 0))) (some 7) (.int .i64 (↑l.length))) (some 8) (.bool (decide ((↑i:Int)<(↑l.length:Int))))) (.t 3))) (some 2) (ev (setD (setD (setD (setD (setD (updL T [((0:Nat),.sl .sh (l.map encM)),((3:Nat),rowS Heap.nil acc),((4:Nat),.int .i64 ↑i)]) (some 5) (ev (updL T [((0:Nat),.sl .sh (l.map encM)),((3:Nat),rowS Heap.nil acc),((4:Nat),.int .i64 ↑i)]) (.t 4))) (some 6) (ev (setD (updL T [((0:Nat),.sl .sh (l.map encM)),((3:Nat),rowS Heap.nil acc),((4:Nat),.int .i64 ↑i)]) (some 5) (ev (updL T [((0:Nat),.sl .sh (l.map encM)),((3:Nat),rowS Heap.nil acc),((4:Nat),.int .i64 ↑i)]) (.t 4))) (.t 0))) (some 7) (.int .i64 (↑l.length))) (some 8) (.bool (decide ((↑i:Int)<(↑l.length:Int))))) (some 30) (ev (setD (setD (setD (setD (updL T [((0:Nat),.sl .sh (l.map encM)),((3:Nat),rowS Heap.nil acc),((4:Nat),.int .i64 ↑i)]) (some 5) (ev (updL T [((0:Nat),.sl .sh (l.map encM)),((3:Nat),rowS Heap.nil acc),((4:Nat),.int .i64 ↑i)]) (.t 4))) (some 6) (ev (setD (updL T [((0:Nat),.sl .sh (l.map encM)),((3:Nat),rowS Heap.nil acc),((4:Nat),.int .i64 ↑i)]) (some 5) (ev (updL T [((0:Nat),.sl .sh (l.map encM)),((3:Nat),rowS Heap.nil acc),((4:Nat),.int .i64 ↑i)]) (.t 4))) (.t 0))) (some 7) (.int .i64 (↑l.length))) (some 8) (.bool (decide ((↑i:Int)<(↑l.length:Int))))) (.t 3))) (.t 30)) (2:Nat)),rowH Heap.nil acc)) (by simp only[IsRet,List.map_nil,List.append_nil];rfl)) (by kernel_rfl)
 |cons x post ih=>
  intro i acc hd ha hl T hT
  have hlt:=drop_lt hd
  have hnx:=drop_next hd
  exact goG 60 _ hT (.len (show lenA false (.sl .sh (l.map encM))=some (.int .i64 (↑l.length))from len_map _)<|.yes (decide_eq_true (p:=(↑i:Int)<(↑l.length:Int)) (by simp;omega))<|.idx (show idxA 3 (.sl .sh (l.map encM)) (.int .i64 ↑i)=some (.ref (encM x).cells)from idx_row hd (by rfl))<|.load (rfl:loadA false 1 (rowH Heap.nil acc) (.ref [.int .i64 x.op])=some (.int .i64 x.op))<|.idx (show idxA 3 (.sl .sh (l.map encM)) (.int .i64 ↑i)=some (.ref (encM x).cells)from idx_row hd (by rfl))<|.load (rfl:loadA false 1 (rowH Heap.nil acc) (.ref [.str x.key])=some (.str x.key))<|.idx (show idxA 3 (.sl .sh (l.map encM)) (.int .i64 ↑i)=some (.ref (encM x).cells)from idx_row hd (by rfl))<|.load (rfl:loadA false 1 (rowH Heap.nil acc) (.ref [.str x.val])=some (.str x.val))<|.append (show appendA (3:Nat) (40:Nat) (rowH Heap.nil acc) (rowS Heap.nil acc) (.sl .full [.agg [.int .i64 x.op,.str x.key,.str x.val]])=some ((rowS Heap.nil (acc++[AV.agg [.int .i64 x.op,.str x.key,.str x.val]]),rowH Heap.nil (acc++[AV.agg [.int .i64 x.op,.str x.key,.str x.val]])))from row_append (by omega) hl (by rfl) (by rfl))<|.bin (show binA .add (.int .i64 ↑i) (.int .i64 1)=some (.int .i64 (↑(i+1)))from inc_i (by omega))<|.cutQ k72_0 [(0,.sl .sh (l.map encM)),(3,rowS Heap.nil (acc++[AV.agg [.int .i64 x.op,.str x.key,.str x.val]])),(4,.int .i64 (↑(i+1)))] (rowH Heap.nil (acc++[AV.agg [.int .i64 x.op,.str x.key,.str x.val]])) (fun T hT=>(ih (i+(1:Nat)) (acc++[AV.agg [.int .i64 x.op,.str x.key,.str x.val]]) hnx (by simp;omega) (by exact lenOk_snoc (by assumption) rfl) T hT).to (by simp[encM,Term.cells]))) (by kernel_rfl)
theorem ofP_any(l:List Pair)(hn:l.length≤20):Gives cfg 71 [.sl .sh (l.map encP)] (rowS Heap.nil (l.map encP)):=by
 refine Gives.run (l71 _ _) ?_
 have h:=ofP_loop l hn l 0 [] rfl rfl rfl
 exact goG 60 [] trivial (.cutQ k71_0 [(0,.sl .sh (l.map encP)),(3,.sl .full []),(4,.int .i64 0)] ({boxes:=[],toks:=[],loops:=[]:Heap}) (fun T hT=>(h T hT))) (by kernel_rfl)
theorem ofM_any(l:List Term)(hn:l.length≤20):Gives cfg 72 [.sl .sh (l.map encM)] (rowS Heap.nil (l.map encM)):=by
 refine Gives.run (l72 _ _) ?_
 have h:=ofM_loop l hn l 0 [] rfl rfl rfl
 exact goG 60 [] trivial (.cutQ k72_0 [(0,.sl .sh (l.map encM)),(3,.sl .full []),(4,.int .i64 0)] ({boxes:=[],toks:=[],loops:=[]:Heap}) (fun T hT=>(h T hT))) (by kernel_rfl)
def ordB(s:List Pair)(i:Nat)(x:Pair):Bool:=match i with
 |0=>false
 |j+1=>match s[j]? with
  |some p=>Op.bytesLess x.key p.key||x.key==p.key
  |none=>false
def ckSl(s:List Pair):Nat→List Pair→Int
 |_,[]=>0
 |i,x::post=>if isName x.key&&isName x.val then(if ordB s i x then 13 else ckSl s (i+1) post)else 3
def ckS(s:List Pair):Int:=if s.length≤8 then ckSl s 0 s else 4
theorem dec_i{i:Nat}(h:i<9223372036854775807):binA .sub (.int .i64 ((i+1:Nat):Int)) (.int .i64 1)=some (.int .i64 (i:Int)):=by
 rw[subI (by omega) (by omega)];congr 2;omega
theorem ckS_ref_loop(l:List Pair)(hn:l.length≤8):∀(post:List Pair)(i:Nat)(hd:l.drop i=post)(T:Env)(hT:Has T [(0,.sl .sh (l.map encP)),(3,.int .i64 i)]),
 Goes cfg a68 k68_0 T Heap.nil (IsRet (.int .i64 (ckSl l i post))):=by
 intro post
 induction post with
 |nil=>
  intro i hd T hT
  have hge:=drop_ge hd
  exact goG 60 _ hT (.len (show lenA false (.sl .sh (l.map encP))=some (.int .i64 (↑l.length))from len_map _)<|.no (decide_eq_false (p:=(↑i:Int)<(↑l.length:Int)) (by omega))<|.fin ((.ret (.int .i64 0),{boxes:=[],toks:=[],loops:=[]:Heap})) rfl) (by kernel_rfl)
 |cons x post ih=>
  intro i hd T hT
  have hlt:=drop_lt hd
  have hnx:=drop_next hd
  cases i with
  |zero=>exact let ζ1:Heap:={boxes:=[],toks:=[],loops:=[]:Heap};goG 60 _ hT (.len (show lenA false (.sl .sh (l.map encP))=some (.int .i64 (↑l.length))from len_map _)<|.yes (decide_eq_true (p:=(↑(0:Nat):Int)<(↑l.length:Int)) (by omega))<|.idx (show idxA 2 (.sl .sh (l.map encP)) (.int .i64 (↑(0:Nat):Int))=some (.ref (encP x).cells)from idx_row hd (by rfl))<|.callI (show Gives cfg (66:FuncId) [.str x.key] (.bool (isName x.key))from name_any _)<|.split (isName x.key=true) (fun h1=>.no (show(!isName x.key)=false from by have hh:isName x.key=true:=h1;simp[hh])<|.idx (show idxA 2 (.sl .sh (l.map encP)) (.int .i64 (↑(0:Nat):Int))=some (.ref (encP x).cells)from idx_row hd (by rfl))<|.callI (show Gives cfg (66:FuncId) [.str x.val] (.bool (isName x.val))from name_any _)<|.split (isName x.val=true) (fun h2=>.no (show(!isName x.val)=false from by have hh:isName x.val=true:=h2;simp[hh])<|.ff<|.ff<|.bin (show binA .add (.int .i64 (↑(0:Nat):Int)) (.int .i64 1)=some (.int .i64 (↑((0:Nat)+(1:Nat)):Int))from inc_i (by omega))<|.cutQ k68_0 [(0,.sl .sh (l.map encP)),(3,.int .i64 (↑((0:Nat)+(1:Nat)):Int))] (ζ1) (fun T hT=>(ih ((0:Nat)+(1:Nat)) hnx T hT).to (by grind[ckSl,ordB]))) (fun h2=>.yes (show(!isName x.val)=true from by have hh:¬(isName x.val=true):=h2;simp[hh])<|.fin ((.ret (.int .i64 3),ζ1)) (by simp only[IsRet];grind[ckSl,ordB]))) (fun h1=>.yes (show(!isName x.key)=true from by have hh:¬(isName x.key=true):=h1;simp[hh])<|.tt<|.fin ((.ret (.int .i64 3),ζ1)) (by simp only[IsRet];grind[ckSl,ordB]))) (by kernel_rfl)
  |succ j=>
   obtain⟨p,hp⟩:∃p,l[j]?=some p:=⟨l[j],List.getElem?_eq_getElem (by omega)⟩
   exact let ζ1:Heap:={boxes:=[],toks:=[],loops:=[]:Heap};goG 60 _ hT (.len (show lenA false (.sl .sh (l.map encP))=some (.int .i64 (↑l.length))from len_map _)<|.yes (decide_eq_true (p:=(↑(j+(1:Nat)):Int)<(↑l.length:Int)) (by omega))<|.idx (show idxA 2 (.sl .sh (l.map encP)) (.int .i64 (↑(j+(1:Nat)):Int))=some (.ref (encP x).cells)from idx_row hd (by rfl))<|.callI (show Gives cfg (66:FuncId) [.str x.key] (.bool (isName x.key))from name_any _)<|.split (isName x.key=true) (fun h1=>.no (show(!isName x.key)=false from by have hh:isName x.key=true:=h1;simp[hh])<|.idx (show idxA 2 (.sl .sh (l.map encP)) (.int .i64 (↑(j+(1:Nat)):Int))=some (.ref (encP x).cells)from idx_row hd (by rfl))<|.callI (show Gives cfg (66:FuncId) [.str x.val] (.bool (isName x.val))from name_any _)<|.split (isName x.val=true) (fun h2=>.no (show(!isName x.val)=false from by have hh:isName x.val=true:=h2;simp[hh])<|.yes (decide_eq_true (p:=(0:Int)<(↑(j+(1:Nat)):Int)) (by omega))<|.idx (show idxA 2 (.sl .sh (l.map encP)) (.int .i64 (↑(j+(1:Nat)):Int))=some (.ref (encP x).cells)from idx_row hd (by rfl))<|.bin (show binA .sub (.int .i64 (↑(j+(1:Nat)):Int)) (.int .i64 1)=some (.int .i64 ↑j)from dec_i (by omega))<|.idx (show idxA 2 (.sl .sh (l.map encP)) (.int .i64 ↑j)=some (.ref (encP p).cells)from idx_get hp (by rfl))<|.split ((Op.bytesLess x.key p.key||x.key==p.key)=true) (fun h3=>.yes (show(Op.bytesLess x.key p.key||x.key==p.key)=true from h3)<|.fin ((.ret (.int .i64 13),ζ1)) (by simp only[IsRet];grind[ckSl,ordB])) (fun h3=>.no (show(Op.bytesLess x.key p.key||x.key==p.key)=false from Bool.eq_false_iff.2 h3)<|.bin (show binA .add (.int .i64 (↑(j+(1:Nat)):Int)) (.int .i64 1)=some (.int .i64 (↑(j+(1:Nat)+(1:Nat)):Int))from inc_i (by omega))<|.cutQ k68_0 [(0,.sl .sh (l.map encP)),(3,.int .i64 (↑(j+(1:Nat)+(1:Nat)):Int))] (ζ1) (fun T hT=>(ih (j+(1:Nat)+(1:Nat)) hnx T hT).to (by grind[ckSl,ordB])))) (fun h2=>.yes (show(!isName x.val)=true from by have hh:¬(isName x.val=true):=h2;simp[hh])<|.fin ((.ret (.int .i64 3),ζ1)) (by simp only[IsRet];grind[ckSl,ordB]))) (fun h1=>.yes (show(!isName x.key)=true from by have hh:¬(isName x.key=true):=h1;simp[hh])<|.tt<|.fin ((.ret (.int .i64 3),ζ1)) (by simp only[IsRet];grind[ckSl,ordB]))) (by kernel_rfl)
theorem ckS_ref(l:List Pair):Gives cfg 68 [.sl .sh (l.map encP)] (.int .i64 (ckS l)):=by
 refine Gives.run (l68 _ _) ?_
 have h:=fun hn=>ckS_ref_loop l hn l 0 rfl
 exact let ζ1:Heap:={boxes:=[],toks:=[],loops:=[]:Heap};goG 60 [] trivial (.len (show lenA false (.sl .sh (l.map encP))=some (.int .i64 (↑l.length))from len_map _)<|.split ((8:Int)<(↑l.length:Int)) (fun h1=>.yes (decide_eq_true (p:=(8:Int)<(↑l.length:Int)) h1)<|.fin ((.ret (.int .i64 4),ζ1)) (by simp only[IsRet];grind[ckS])) (fun h1=>.no (decide_eq_false (p:=(8:Int)<(↑l.length:Int)) h1)<|.cutQ k68_0 [(0,.sl .sh (l.map encP)),(3,.int .i64 0)] (ζ1) (fun T hT=>(h (by omega) T hT).to (by grind[ckS])))) (by kernel_rfl)
theorem ckS_loop(l:List Pair)(hn:l.length≤8):∀(post:List Pair)(i:Nat)(bs:List (List AV))(hd:l.drop i=post)(T:Env)(hT:Has T [(0,.sl .sh (l.map encP)),(8,.sl .sh (l.map encP)),(9,.int .i64 l.length),(10,.int .i64 i)]),
 Goes cfg a140 k140_0 T ⟨bs,[],[]⟩ (IsRet (.int .i64 (ckSl l i post))):=by
 intro post
 induction post with
 |nil=>
  intro i bs hd T hT
  have hge:=drop_ge hd
  exact goG 60 _ hT (.no (decide_eq_false (p:=(↑i:Int)<(↑l.length:Int)) (by omega))<|.fin ((.ret (.int .i64 0),{boxes:=bs,toks:=[],loops:=[]:Heap})) rfl) (by kernel_rfl)
 |cons x post ih=>
  intro i bs hd T hT
  have hlt:=drop_lt hd
  have hnx:=drop_next hd
  cases i with
  |zero=>exact let ζ1:Heap:={boxes:=bs++[[AV.str x.key,.str x.val]],toks:=[],loops:=[]:Heap};goG 60 _ hT (.yes (decide_eq_true (p:=(↑(0:Nat):Int)<(↑l.length:Int)) (by omega))<|.idx (show idxA 2 (.sl .sh (l.map encP)) (.int .i64 (↑(0:Nat):Int))=some (.ref (encP x).cells)from idx_row hd (by rfl))<|.load (rfl:loadA true 2 {boxes:=bs,toks:=[],loops:=[]:Heap} (.ref [.str x.key,.str x.val])=some (.agg [.str x.key,.str x.val]))<|.store (show storeA 2 {boxes:=bs++[[AV.str [],.str []]],toks:=[],loops:=[]:Heap} (.ptr bs.length (0:Nat)) (.agg [.str x.key,.str x.val])=some (ζ1)from store_box2 (cs:=[.str [],.str []]) (cs':=[.str x.key,.str x.val]) (by simp+zetaDelta) rfl (by simp+zetaDelta [List.set_append]))<|.load (show loadA false 1 ζ1 (.ptr bs.length (0:Nat))=some (.str x.key)from load_box (cs:=[.str x.key,.str x.val]) (by simp+zetaDelta) rfl)<|.callI (show Gives cfg (196:FuncId) [.str x.key] (.bool (isName x.key))from res_name _)<|.split (isName x.key=true) (fun h1=>.no (show(!isName x.key)=false from by have hh:isName x.key=true:=h1;simp[hh])<|.load (show loadA false 1 ζ1 (.ptr bs.length (1:Nat))=some (.str x.val)from load_box (cs:=[.str x.key,.str x.val]) (by simp+zetaDelta) rfl)<|.callI (show Gives cfg (196:FuncId) [.str x.val] (.bool (isName x.val))from res_name _)<|.split (isName x.val=true) (fun h2=>.no (show(!isName x.val)=false from by have hh:isName x.val=true:=h2;simp[hh])<|.ff<|.ff<|.bin (show binA .add (.int .i64 (↑(0:Nat):Int)) (.int .i64 1)=some (.int .i64 (↑((0:Nat)+(1:Nat)):Int))from inc_i (by omega))<|.cutQ k140_0 [(0,.sl .sh (l.map encP)),(8,.sl .sh (l.map encP)),(9,.int .i64 (↑l.length)),(10,.int .i64 (↑((0:Nat)+(1:Nat)):Int))] (ζ1) (fun T hT=>(ih ((0:Nat)+(1:Nat)) (bs++[[AV.str x.key,.str x.val]]) hnx T hT).to (by grind[ckSl,ordB]))) (fun h2=>.yes (show(!isName x.val)=true from by have hh:¬(isName x.val=true):=h2;simp[hh])<|.fin ((.ret (.int .i64 3),ζ1)) (by simp only[IsRet];grind[ckSl,ordB]))) (fun h1=>.yes (show(!isName x.key)=true from by have hh:¬(isName x.key=true):=h1;simp[hh])<|.tt<|.fin ((.ret (.int .i64 3),ζ1)) (by simp only[IsRet];grind[ckSl,ordB]))) (by kernel_rfl)
  |succ j=>
   obtain⟨p,hp⟩:∃p,l[j]?=some p:=⟨l[j],List.getElem?_eq_getElem (by omega)⟩
   exact let ζ1:Heap:={boxes:=bs++[[AV.str x.key,.str x.val]],toks:=[],loops:=[]:Heap};goG 60 _ hT (.yes (decide_eq_true (p:=(↑(j+(1:Nat)):Int)<(↑l.length:Int)) (by omega))<|.idx (show idxA 2 (.sl .sh (l.map encP)) (.int .i64 (↑(j+(1:Nat)):Int))=some (.ref (encP x).cells)from idx_row hd (by rfl))<|.load (rfl:loadA true 2 {boxes:=bs,toks:=[],loops:=[]:Heap} (.ref [.str x.key,.str x.val])=some (.agg [.str x.key,.str x.val]))<|.store (show storeA 2 {boxes:=bs++[[AV.str [],.str []]],toks:=[],loops:=[]:Heap} (.ptr bs.length (0:Nat)) (.agg [.str x.key,.str x.val])=some (ζ1)from store_box2 (cs:=[.str [],.str []]) (cs':=[.str x.key,.str x.val]) (by simp+zetaDelta) rfl (by simp+zetaDelta [List.set_append]))<|.load (show loadA false 1 ζ1 (.ptr bs.length (0:Nat))=some (.str x.key)from load_box (cs:=[.str x.key,.str x.val]) (by simp+zetaDelta) rfl)<|.callI (show Gives cfg (196:FuncId) [.str x.key] (.bool (isName x.key))from res_name _)<|.split (isName x.key=true) (fun h1=>.no (show(!isName x.key)=false from by have hh:isName x.key=true:=h1;simp[hh])<|.load (show loadA false 1 ζ1 (.ptr bs.length (1:Nat))=some (.str x.val)from load_box (cs:=[.str x.key,.str x.val]) (by simp+zetaDelta) rfl)<|.callI (show Gives cfg (196:FuncId) [.str x.val] (.bool (isName x.val))from res_name _)<|.split (isName x.val=true) (fun h2=>.no (show(!isName x.val)=false from by have hh:isName x.val=true:=h2;simp[hh])<|.yes (decide_eq_true (p:=(0:Int)<(↑(j+(1:Nat)):Int)) (by omega))<|.load (show loadA false 1 ζ1 (.ptr bs.length (0:Nat))=some (.str x.key)from load_box (cs:=[.str x.key,.str x.val]) (by simp+zetaDelta) rfl)<|.bin (show binA .sub (.int .i64 (↑(j+(1:Nat)):Int)) (.int .i64 1)=some (.int .i64 ↑j)from dec_i (by omega))<|.idx (show idxA 2 (.sl .sh (l.map encP)) (.int .i64 ↑j)=some (.ref (encP p).cells)from idx_get hp (by rfl))<|.load (rfl:loadA false 1 ζ1 (.ref [.str p.key])=some (.str p.key))<|.split ((Op.bytesLess x.key p.key||x.key==p.key)=true) (fun h3=>.yes (show(Op.bytesLess x.key p.key||x.key==p.key)=true from h3)<|.fin ((.ret (.int .i64 13),ζ1)) (by simp only[IsRet];grind[ckSl,ordB])) (fun h3=>.no (show(Op.bytesLess x.key p.key||x.key==p.key)=false from Bool.eq_false_iff.2 h3)<|.bin (show binA .add (.int .i64 (↑(j+(1:Nat)):Int)) (.int .i64 1)=some (.int .i64 (↑(j+(1:Nat)+(1:Nat)):Int))from inc_i (by omega))<|.cutQ k140_0 [(0,.sl .sh (l.map encP)),(8,.sl .sh (l.map encP)),(9,.int .i64 (↑l.length)),(10,.int .i64 (↑(j+(1:Nat)+(1:Nat)):Int))] (ζ1) (fun T hT=>(ih (j+(1:Nat)+(1:Nat)) (bs++[[AV.str x.key,.str x.val]]) hnx T hT).to (by grind[ckSl,ordB])))) (fun h2=>.yes (show(!isName x.val)=true from by have hh:¬(isName x.val=true):=h2;simp[hh])<|.fin ((.ret (.int .i64 3),ζ1)) (by simp only[IsRet];grind[ckSl,ordB]))) (fun h1=>.yes (show(!isName x.key)=true from by have hh:¬(isName x.key=true):=h1;simp[hh])<|.tt<|.fin ((.ret (.int .i64 3),ζ1)) (by simp only[IsRet];grind[ckSl,ordB]))) (by kernel_rfl)
theorem ckS_any(l:List Pair):Gives cfg 140 [.sl .sh (l.map encP)] (.int .i64 (ckS l)):=by
 refine Gives.run (l140 _ _) ?_
 have h:=fun hn=>ckS_loop l hn l 0 [] rfl
 exact let ζ1:Heap:={boxes:=[],toks:=[],loops:=[]:Heap};goG 60 [] trivial (.len (show lenA false (.sl .sh (l.map encP))=some (.int .i64 (↑l.length))from len_map _)<|.split ((8:Int)<(↑l.length:Int)) (fun h1=>.yes (decide_eq_true (p:=(8:Int)<(↑l.length:Int)) h1)<|.fin ((.ret (.int .i64 4),ζ1)) (by simp only[IsRet];grind[ckS])) (fun h1=>.no (decide_eq_false (p:=(8:Int)<(↑l.length:Int)) h1)<|.len (show lenA false (.sl .sh (l.map encP))=some (.int .i64 (↑l.length))from len_map _)<|.cutQ k140_0 [(0,.sl .sh (l.map encP)),(8,.sl .sh (l.map encP)),(9,.int .i64 (↑l.length)),(10,.int .i64 0)] (ζ1) (fun T hT=>(h (by omega) T hT).to (by grind[ckS])))) (by kernel_rfl)
def valOk(x:Term):Bool:=if x.op≤2 then isName x.val else decide (x.val=[])
def ckMl:List Term→Int
 |[]=>0
 |x::post=>if 1≤x.op∧x.op≤4 then(if isName x.key&&valOk x then ckMl post else 3)else 1
def ckM(l:List Term):Int:=if l.length≤8 then ckMl l else 4
theorem ckM_ref_loop(l:List Term)(hn:l.length≤8):∀(post:List Term)(i:Nat)(bs:List (List AV))(hd:l.drop i=post)(T:Env)(hT:Has T [(0,.sl .sh (l.map encM)),(3,.int .i64 i)]),
 Goes cfg a69 k69_0 T ⟨bs,[],[]⟩ (IsRet (.int .i64 (ckMl post))):=by
 intro post
 induction post with
 |nil=>
  intro i bs hd T hT
  have hge:=drop_ge hd
  exact goG 60 _ hT (.len (show lenA false (.sl .sh (l.map encM))=some (.int .i64 (↑l.length))from len_map _)<|.no (decide_eq_false (p:=(↑i:Int)<(↑l.length:Int)) (by omega))<|.fin ((.ret (.int .i64 0),{boxes:=bs,toks:=[],loops:=[]:Heap})) rfl) (by kernel_rfl)
 |cons x post ih=>
  intro i bs hd T hT
  have hlt:=drop_lt hd
  have hnx:=drop_next hd
  exact let ζ2:List AV:=[.int .i64 x.op,.str x.key,.str x.val];let ζ1:Heap:={boxes:=bs++[ζ2],toks:=[],loops:=[]:Heap};goG 60 _ hT (.len (show lenA false (.sl .sh (l.map encM))=some (.int .i64 (↑l.length))from len_map _)<|.yes (decide_eq_true (p:=(↑i:Int)<(↑l.length:Int)) (by omega))<|.idx (show idxA 3 (.sl .sh (l.map encM)) (.int .i64 ↑i)=some (.ref (encM x).cells)from idx_row hd (by rfl))<|.load (rfl:loadA true 3 {boxes:=bs,toks:=[],loops:=[]:Heap} (.ref ζ2)=some (.agg ζ2))<|.store (show storeA 3 {boxes:=bs++[[AV.int .i64 0,.str [],.str []]],toks:=[],loops:=[]:Heap} (.ptr bs.length (0:Nat)) (.agg ζ2)=some (ζ1)from store_box2 (cs:=[.int .i64 0,.str [],.str []]) (cs':=ζ2) (by simp+zetaDelta) rfl (by simp+zetaDelta [List.set_append]))<|.load (show loadA false 1 ζ1 (.ptr bs.length (0:Nat))=some (.int .i64 x.op)from load_box (cs:=ζ2) (by simp+zetaDelta) rfl)<|.split (x.op<(1:Int)) (fun h1=>.yes (decide_eq_true (p:=x.op<(1:Int)) h1)<|.tt<|.fin ((.ret (.int .i64 1),ζ1)) (by simp only[IsRet];grind[ckMl,valOk])) (fun h1=>.no (decide_eq_false (p:=x.op<(1:Int)) h1)<|.load (show loadA false 1 ζ1 (.ptr bs.length (0:Nat))=some (.int .i64 x.op)from load_box (cs:=ζ2) (by simp+zetaDelta) rfl)<|.split ((4:Int)<x.op) (fun h2=>.yes (decide_eq_true (p:=(4:Int)<x.op) h2)<|.fin ((.ret (.int .i64 1),ζ1)) (by simp only[IsRet];grind[ckMl,valOk])) (fun h2=>.no (decide_eq_false (p:=(4:Int)<x.op) h2)<|.load (show loadA false 1 ζ1 (.ptr bs.length (1:Nat))=some (.str x.key)from load_box (cs:=ζ2) (by simp+zetaDelta) rfl)<|.callI (show Gives cfg (66:FuncId) [.str x.key] (.bool (isName x.key))from name_any _)<|.split (isName x.key=true) (fun h3=>.no (show(!isName x.key)=false from by have hh:isName x.key=true:=h3;simp[hh])<|.load (show loadA false 1 ζ1 (.ptr bs.length (0:Nat))=some (.int .i64 x.op)from load_box (cs:=ζ2) (by simp+zetaDelta) rfl)<|.split (x.op≤(2:Int)) (fun h4=>.yes (decide_eq_true (p:=x.op≤(2:Int)) h4)<|.load (show loadA false 1 ζ1 (.ptr bs.length (2:Nat))=some (.str x.val)from load_box (cs:=ζ2) (by simp+zetaDelta) rfl)<|.callI (show Gives cfg (66:FuncId) [.str x.val] (.bool (isName x.val))from name_any _)<|.split (isName x.val=true) (fun h5=>.no (show(!isName x.val)=false from by have hh:isName x.val=true:=h5;simp[hh])<|.load (show loadA false 1 ζ1 (.ptr bs.length (0:Nat))=some (.int .i64 x.op)from load_box (cs:=ζ2) (by simp+zetaDelta) rfl)<|.no (decide_eq_false (p:=(3:Int)≤x.op) (by omega))<|.ff<|.bin (show binA .add (.int .i64 ↑i) (.int .i64 1)=some (.int .i64 (↑(i+1)))from inc_i (by omega))<|.cutQ k69_0 [(0,.sl .sh (l.map encM)),(3,.int .i64 (↑(i+1)))] (ζ1) (fun T hT=>(ih (i+(1:Nat)) (bs++[ζ2]) hnx T hT).to (by grind[ckMl,valOk]))) (fun h5=>.yes (show(!isName x.val)=true from by have hh:¬(isName x.val=true):=h5;simp[hh])<|.tt<|.fin ((.ret (.int .i64 3),ζ1)) (by simp only[IsRet];grind[ckMl,valOk]))) (fun h4=>.no (decide_eq_false (p:=x.op≤(2:Int)) h4)<|.ff<|.load (show loadA false 1 ζ1 (.ptr bs.length (0:Nat))=some (.int .i64 x.op)from load_box (cs:=ζ2) (by simp+zetaDelta) rfl)<|.yes (decide_eq_true (p:=(3:Int)≤x.op) (by omega))<|.load (show loadA false 1 ζ1 (.ptr bs.length (2:Nat))=some (.str x.val)from load_box (cs:=ζ2) (by simp+zetaDelta) rfl)<|.split ((x.val==[])=true) (fun h5=>.no (show(!x.val==[])=false from by have hh:(x.val==[])=true:=h5;simp[hh])<|.bin (show binA .add (.int .i64 ↑i) (.int .i64 1)=some (.int .i64 (↑(i+1)))from inc_i (by omega))<|.cutQ k69_0 [(0,.sl .sh (l.map encM)),(3,.int .i64 (↑(i+1)))] (ζ1) (fun T hT=>(ih (i+(1:Nat)) (bs++[ζ2]) hnx T hT).to (by grind[ckMl,valOk]))) (fun h5=>.yes (show(!x.val==[])=true from by have hh:¬((x.val==[])=true):=h5;simp[hh])<|.fin ((.ret (.int .i64 3),ζ1)) (by simp only[IsRet];grind[ckMl,valOk])))) (fun h3=>.yes (show(!isName x.key)=true from by have hh:¬(isName x.key=true):=h3;simp[hh])<|.tt<|.tt<|.fin ((.ret (.int .i64 3),ζ1)) (by simp only[IsRet];grind[ckMl,valOk]))))) (by kernel_rfl)
theorem ckM_ref(l:List Term):Gives cfg 69 [.sl .sh (l.map encM)] (.int .i64 (ckM l)):=by
 refine Gives.run (l69 _ _) ?_
 have h:=fun hn=>ckM_ref_loop l hn l 0 [] rfl
 exact let ζ1:Heap:={boxes:=[],toks:=[],loops:=[]:Heap};goG 60 [] trivial (.len (show lenA false (.sl .sh (l.map encM))=some (.int .i64 (↑l.length))from len_map _)<|.split ((8:Int)<(↑l.length:Int)) (fun h1=>.yes (decide_eq_true (p:=(8:Int)<(↑l.length:Int)) h1)<|.fin ((.ret (.int .i64 4),ζ1)) (by simp only[IsRet];grind[ckM])) (fun h1=>.no (decide_eq_false (p:=(8:Int)<(↑l.length:Int)) h1)<|.cutQ k69_0 [(0,.sl .sh (l.map encM)),(3,.int .i64 0)] (ζ1) (fun T hT=>(h (by omega) T hT).to (by grind[ckM])))) (by kernel_rfl)
theorem ckM_loop(l:List Term)(hn:l.length≤8):∀(post:List Term)(i:Nat)(bs:List (List AV))(hd:l.drop i=post)(T:Env)(hT:Has T [(9,.sl .sh (l.map encM)),(10,.int .i64 l.length),(11,.int .i64 i)]),
 Goes cfg a141 k141_0 T ⟨bs,[],[]⟩ (IsRet (.int .i64 (ckMl post))):=by
 intro post
 induction post with
 |nil=>
  intro i bs hd T hT
  have hge:=drop_ge hd
  exact goG 60 _ hT (.no (decide_eq_false (p:=(↑i:Int)<(↑l.length:Int)) (by omega))<|.fin ((.ret (.int .i64 0),{boxes:=bs,toks:=[],loops:=[]:Heap})) rfl) (by kernel_rfl)
 |cons x post ih=>
  intro i bs hd T hT
  have hlt:=drop_lt hd
  have hnx:=drop_next hd
  exact let ζ2:List AV:=[.int .i64 x.op,.str x.key,.str x.val];let ζ1:Heap:={boxes:=bs++[ζ2],toks:=[],loops:=[]:Heap};goG 60 _ hT (.yes (decide_eq_true (p:=(↑i:Int)<(↑l.length:Int)) (by omega))<|.idx (show idxA 3 (.sl .sh (l.map encM)) (.int .i64 ↑i)=some (.ref (encM x).cells)from idx_row hd (by rfl))<|.load (rfl:loadA true 3 {boxes:=bs,toks:=[],loops:=[]:Heap} (.ref ζ2)=some (.agg ζ2))<|.store (show storeA 3 {boxes:=bs++[[AV.int .i64 0,.str [],.str []]],toks:=[],loops:=[]:Heap} (.ptr bs.length (0:Nat)) (.agg ζ2)=some (ζ1)from store_box2 (cs:=[.int .i64 0,.str [],.str []]) (cs':=ζ2) (by simp+zetaDelta) rfl (by simp+zetaDelta [List.set_append]))<|.load (show loadA false 1 ζ1 (.ptr bs.length (2:Nat))=some (.str x.val)from load_box (cs:=ζ2) (by simp+zetaDelta) rfl)<|.load (show loadA false 1 ζ1 (.ptr bs.length (0:Nat))=some (.int .i64 x.op)from load_box (cs:=ζ2) (by simp+zetaDelta) rfl)<|.split ((x.op==(1:Int))=true) (fun h1=>.yes (show(x.op==(1:Int))=true from h1)<|.yes (show(x.op==(1:Int))=true from(by omega))<|.load (show loadA false 1 ζ1 (.ptr bs.length (2:Nat))=some (.str x.val)from load_box (cs:=ζ2) (by simp+zetaDelta) rfl)<|.callI (show Gives cfg (196:FuncId) [.str x.val] (.bool (isName x.val))from res_name _)<|.load (show loadA false 1 ζ1 (.ptr bs.length (1:Nat))=some (.str x.key)from load_box (cs:=ζ2) (by simp+zetaDelta) rfl)<|.callI (show Gives cfg (196:FuncId) [.str x.key] (.bool (isName x.key))from res_name _)<|.split (isName x.key=true) (fun h2=>.no (show(!isName x.key)=false from by have hh:isName x.key=true:=h2;simp[hh])<|.split (isName x.val=true) (fun h3=>.no (show(!isName x.val)=false from by have hh:isName x.val=true:=h3;simp[hh])<|.bin (show binA .add (.int .i64 ↑i) (.int .i64 1)=some (.int .i64 (↑(i+1)))from inc_i (by omega))<|.cutQ k141_0 [(9,.sl .sh (l.map encM)),(10,.int .i64 (↑l.length)),(11,.int .i64 (↑(i+1)))] (ζ1) (fun T hT=>(ih (i+(1:Nat)) (bs++[ζ2]) hnx T hT).to (by grind[ckMl,valOk]))) (fun h3=>.yes (show(!isName x.val)=true from by have hh:¬(isName x.val=true):=h3;simp[hh])<|.fin ((.ret (.int .i64 3),ζ1)) (by simp only[IsRet];grind[ckMl,valOk]))) (fun h2=>.yes (show(!isName x.key)=true from by have hh:¬(isName x.key=true):=h2;simp[hh])<|.tt<|.fin ((.ret (.int .i64 3),ζ1)) (by simp only[IsRet];grind[ckMl,valOk]))) (fun h1=>.no (show(x.op==(1:Int))=false from Bool.eq_false_iff.2 h1)<|.split ((x.op==(2:Int))=true) (fun h2=>.yes (show(x.op==(2:Int))=true from h2)<|.load (show loadA false 1 ζ1 (.ptr bs.length (2:Nat))=some (.str x.val)from load_box (cs:=ζ2) (by simp+zetaDelta) rfl)<|.callI (show Gives cfg (196:FuncId) [.str x.val] (.bool (isName x.val))from res_name _)<|.load (show loadA false 1 ζ1 (.ptr bs.length (1:Nat))=some (.str x.key)from load_box (cs:=ζ2) (by simp+zetaDelta) rfl)<|.callI (show Gives cfg (196:FuncId) [.str x.key] (.bool (isName x.key))from res_name _)<|.split (isName x.key=true) (fun h3=>.no (show(!isName x.key)=false from by have hh:isName x.key=true:=h3;simp[hh])<|.split (isName x.val=true) (fun h4=>.no (show(!isName x.val)=false from by have hh:isName x.val=true:=h4;simp[hh])<|.bin (show binA .add (.int .i64 ↑i) (.int .i64 1)=some (.int .i64 (↑(i+1)))from inc_i (by omega))<|.cutQ k141_0 [(9,.sl .sh (l.map encM)),(10,.int .i64 (↑l.length)),(11,.int .i64 (↑(i+1)))] (ζ1) (fun T hT=>(ih (i+(1:Nat)) (bs++[ζ2]) hnx T hT).to (by grind[ckMl,valOk]))) (fun h4=>.yes (show(!isName x.val)=true from by have hh:¬(isName x.val=true):=h4;simp[hh])<|.fin ((.ret (.int .i64 3),ζ1)) (by simp only[IsRet];grind[ckMl,valOk]))) (fun h3=>.yes (show(!isName x.key)=true from by have hh:¬(isName x.key=true):=h3;simp[hh])<|.tt<|.fin ((.ret (.int .i64 3),ζ1)) (by simp only[IsRet];grind[ckMl,valOk]))) (fun h2=>.no (show(x.op==(2:Int))=false from Bool.eq_false_iff.2 h2)<|.split ((x.op==(3:Int))=true) (fun h3=>.yes (show(x.op==(3:Int))=true from h3)<|.yes (show(x.op==(3:Int))=true from(by omega))<|.load (show loadA false 1 ζ1 (.ptr bs.length (1:Nat))=some (.str x.key)from load_box (cs:=ζ2) (by simp+zetaDelta) rfl)<|.callI (show Gives cfg (196:FuncId) [.str x.key] (.bool (isName x.key))from res_name _)<|.split (isName x.key=true) (fun h4=>.no (show(!isName x.key)=false from by have hh:isName x.key=true:=h4;simp[hh])<|.split ((x.val==[])=true) (fun h5=>.no (show(!x.val==[])=false from by have hh:(x.val==[])=true:=h5;simp[hh])<|.bin (show binA .add (.int .i64 ↑i) (.int .i64 1)=some (.int .i64 (↑(i+1)))from inc_i (by omega))<|.cutQ k141_0 [(9,.sl .sh (l.map encM)),(10,.int .i64 (↑l.length)),(11,.int .i64 (↑(i+1)))] (ζ1) (fun T hT=>(ih (i+(1:Nat)) (bs++[ζ2]) hnx T hT).to (by grind[ckMl,valOk]))) (fun h5=>.yes (show(!x.val==[])=true from by have hh:¬((x.val==[])=true):=h5;simp[hh])<|.fin ((.ret (.int .i64 3),ζ1)) (by simp only[IsRet];grind[ckMl,valOk]))) (fun h4=>.yes (show(!isName x.key)=true from by have hh:¬(isName x.key=true):=h4;simp[hh])<|.tt<|.fin ((.ret (.int .i64 3),ζ1)) (by simp only[IsRet];grind[ckMl,valOk]))) (fun h3=>.no (show(x.op==(3:Int))=false from Bool.eq_false_iff.2 h3)<|.split ((x.op==(4:Int))=true) (fun h4=>.yes (show(x.op==(4:Int))=true from h4)<|.load (show loadA false 1 ζ1 (.ptr bs.length (1:Nat))=some (.str x.key)from load_box (cs:=ζ2) (by simp+zetaDelta) rfl)<|.callI (show Gives cfg (196:FuncId) [.str x.key] (.bool (isName x.key))from res_name _)<|.split (isName x.key=true) (fun h5=>.no (show(!isName x.key)=false from by have hh:isName x.key=true:=h5;simp[hh])<|.split ((x.val==[])=true) (fun h6=>.no (show(!x.val==[])=false from by have hh:(x.val==[])=true:=h6;simp[hh])<|.bin (show binA .add (.int .i64 ↑i) (.int .i64 1)=some (.int .i64 (↑(i+1)))from inc_i (by omega))<|.cutQ k141_0 [(9,.sl .sh (l.map encM)),(10,.int .i64 (↑l.length)),(11,.int .i64 (↑(i+1)))] (ζ1) (fun T hT=>(ih (i+(1:Nat)) (bs++[ζ2]) hnx T hT).to (by grind[ckMl,valOk]))) (fun h6=>.yes (show(!x.val==[])=true from by have hh:¬((x.val==[])=true):=h6;simp[hh])<|.fin ((.ret (.int .i64 3),ζ1)) (by simp only[IsRet];grind[ckMl,valOk]))) (fun h5=>.yes (show(!isName x.key)=true from by have hh:¬(isName x.key=true):=h5;simp[hh])<|.tt<|.fin ((.ret (.int .i64 3),ζ1)) (by simp only[IsRet];grind[ckMl,valOk]))) (fun h4=>.no (show(x.op==(4:Int))=false from Bool.eq_false_iff.2 h4)<|.fin ((.ret (.int .i64 1),ζ1)) (by simp only[IsRet];grind[ckMl,valOk])))))) (by kernel_rfl)
theorem ckM_any(l:List Term):Gives cfg 141 [.sl .sh (l.map encM)] (.int .i64 (ckM l)):=by
 refine Gives.run (l141 _ _) ?_
 have h:=fun hn=>ckM_loop l hn l 0 [] rfl
 exact let ζ1:Heap:={boxes:=[],toks:=[],loops:=[]:Heap};goG 60 [] trivial (.len (show lenA false (.sl .sh (l.map encM))=some (.int .i64 (↑l.length))from len_map _)<|.split ((8:Int)<(↑l.length:Int)) (fun h1=>.yes (decide_eq_true (p:=(8:Int)<(↑l.length:Int)) h1)<|.fin ((.ret (.int .i64 4),ζ1)) (by simp only[IsRet];grind[ckM])) (fun h1=>.no (decide_eq_false (p:=(8:Int)<(↑l.length:Int)) h1)<|.len (show lenA false (.sl .sh (l.map encM))=some (.int .i64 (↑l.length))from len_map _)<|.cutQ k141_0 [(9,.sl .sh (l.map encM)),(10,.int .i64 (↑l.length)),(11,.int .i64 0)] (ζ1) (fun T hT=>(h (by omega) T hT).to (by grind[ckM])))) (by kernel_rfl)
end Go.Aa.T
set_option linter.unusedVariables false
set_option linter.unusedSimpArgs false
set_option maxRecDepth 100000
namespace Go.Aa.T
open Go.Aa Go.Proofs
def fidxB{α:Type}(p:α→Bool):List α→Nat→Int
 |[],_=> -1
 |x::l,i=>if p x then i else fidxB p l (i+1)
theorem fidxB_ge{α:Type}(p:α→Bool):∀(l:List α)(i:Nat),decide (0≤fidxB p l i)=l.any p
 |[],i=>rfl
 |x::l,i=>by
  unfold fidxB
  by_cases h:p x=true
  ·simp[h]
  ·have:=fidxB_ge p l (i+1);simp[h,this]
end Go.Aa.T
set_option linter.unusedVariables false
set_option linter.unusedSimpArgs false
set_option maxRecDepth 100000
namespace Go.Aa.T
open Go.Aa Go.Proofs
theorem cellT(x:Taint):cellsN 3 (encT x)=true:=rfl
theorem fewT_len{l:List Taint}(h:fewT l=true):l.length≤20:=by
 simp only[fewT,Bool.and_eq_true,decide_eq_true_eq]at h;exact h.1
theorem fewL_len{l:List Tol}(h:fewL l=true):l.length≤20:=by
 simp only[fewL,Bool.and_eq_true,decide_eq_true_eq]at h;exact h.1
theorem in0_data{nb nt:Nat}:∀{x:AV},data0 x=true→in0 nb nt x=true
 |.undef,h=>by cases h
 |.bool _,_=>rfl
 |.int ..,_=>rfl
 |.flt _,_=>rfl
 |.nan,_=>rfl
 |.str _,_=>rfl
 |.sl .sh _,_=>rfl
 |.sl .full _,_=>rfl
 |.sl .nil _,h=>by cases h
 |.sl (.own _) _,h=>by cases h
 |.agg _,h=>by cases h
 |.tuple _,h=>by cases h
 |.ptr ..,h=>by cases h
 |.ref _,_=>rfl
 |.nilptr,_=>rfl
 |.func ..,h=>by cases h
 |.nilFunc,_=>rfl
 |.iface ..,h=>by cases h
 |.nilIface,_=>rfl
 |.msl ..,h=>by cases h
 |.yield _,h=>by cases h
theorem in2_data0{nb nt:Nat}{x:AV}(h:data0 x=true):in2 nb nt x=true:=by
 have:=in0_data (nb:=nb) (nt:=nt) h
 cases x<;>first|exact this|cases h
theorem trunc_plain{bs ex:List (List AV)}{ts:List Nat}{b:Bool}(hb:bs.all (·.all data0)=true):trunc bs.length ts.length (.bool b) ⟨bs++ex,ts,[]⟩=⟨bs,ts,[]⟩:=by
 have hin:∀nb nt,bs.all (·.all (in2 nb nt))=true:=fun nb nt=>by
  rw[List.all_eq_true]at hb⊢
  intro l hl
  have:=hb l hl
  rw[List.all_eq_true]at this⊢
  exact fun x hx=>in2_data0 (this x hx)
 unfold trunc
 simp only[List.take_left',hin,List.all_nil,Bool.true_and,Bool.and_true]
 simp[within,in2,in1,in0]
section
variable{H:Heap}{k:Nat}{p:Taint→Bool}
theorem idxT_loop(hd:∀y:Taint,Does cfg (.call (.c (.func 220 [.ptr k 0])) [.c (encT y)]) H (.bool (p y)) H)(l:List Taint)(hn:l.length<9223372036854775807):∀(post:List Taint)(i:Nat)(hdr:l.drop i=post)(T:Env)
 (hT:Has T [(0,.sl .sh (l.map encT)),(1,.func 220 [.ptr k 0]),(7,.int .i64 l.length),(8,.int .i64 i)]),
 Goes cfg a240 k240_0 T H (fun r=>r=(.ret (.int .i64 (fidxB p post i)),H)):=by
 intro post
 induction post with
 |nil=>
  intro i hdr T hT
  have hge:=drop_ge hdr
  exact goG 60 _ hT (.no (decide_eq_false (p:=(↑i:Int)<(↑l.length:Int)) (by omega))<|.fin ((.ret (.int .i64 (-1:Int)),H)) rfl) (by kernel_rfl)
 |cons x post ih=>
  intro i hdr T hT
  have hlt:=drop_lt hdr
  have hnx:=drop_next hdr
  have hdx:=hd x
  cases hp:p x with
  |true=>
   rw[hp]at hdx
   have e:fidxB p (x::post) i=i:=by simp[fidxB,hp]
   rw[e]
   exact let ζ1:List AV:=[.str x.key,.str x.val,.bool x.hard];goG 60 _ hT (.yes (decide_eq_true (p:=(↑i:Int)<(↑l.length:Int)) (by omega))<|.idx (show idxA 3 (.sl .sh (l.map encT)) (.int .i64 ↑i)=some (.ref (encT x).cells)from idx_row hdr (by rfl))<|.load (rfl:loadA true 3 H (.ref ζ1)=some (.agg ζ1))<|.effY (show Does cfg (.call (.c (.func (220:FuncId) [.ptr k (0:Nat)])) [.c (encT x)]) H (.bool true) H from hdx)<|.tt<|.fin ((.ret (.int .i64 ↑i),H)) rfl) (by kernel_rfl)
  |false=>
   rw[hp]at hdx
   have e:fidxB p (x::post) i=fidxB p post (i+1):=by simp[fidxB,hp]
   rw[e]
   exact let ζ1:List AV:=[.str x.key,.str x.val,.bool x.hard];goG 60 _ hT (.yes (decide_eq_true (p:=(↑i:Int)<(↑l.length:Int)) (by omega))<|.idx (show idxA 3 (.sl .sh (l.map encT)) (.int .i64 ↑i)=some (.ref (encT x).cells)from idx_row hdr (by rfl))<|.load (rfl:loadA true 3 H (.ref ζ1)=some (.agg ζ1))<|.effY (show Does cfg (.call (.c (.func (220:FuncId) [.ptr k (0:Nat)])) [.c (encT x)]) H (.bool false) H from hdx)<|.ff<|.bin (show binA .add (.int .i64 ↑i) (.int .i64 1)=some (.int .i64 (↑(i+1)))from inc_i (by omega))<|.cutQ k240_0 [(0,.sl .sh (l.map encT)),(1,.func (220:Nat) [.ptr k (0:Nat)]),(7,.int .i64 (↑l.length)),(8,.int .i64 (↑(i+1)))] (H) (fun T hT=>(ih (i+(1:Nat)) hnx T hT))) (by kernel_rfl)
theorem idxT(hd:∀y:Taint,Does cfg (.call (.c (.func 220 [.ptr k 0])) [.c (encT y)]) H (.bool (p y)) H)(l:List Taint)(hn:l.length<9223372036854775807):
 lim cfg (.fn 240) [.sl .sh (l.map encT),.func 220 [.ptr k 0]] H=some (.ret (.int .i64 (fidxB p l 0)),H):=by
 rw[l240]
 have h:=idxT_loop hd l hn l 0 rfl
 have key:Goes cfg a240 [.c c240] (initEnv [.sl .sh (l.map encT),.func 220 [.ptr k 0]]) H (fun r=>r=(.ret (.int .i64 (fidxB p l 0)),H)):=by
  exact goG 60 [] trivial (.len (show lenA false (.sl .sh (l.map encT))=some (.int .i64 (↑l.length))from len_map _)<|.cutQ k240_0 [(0,.sl .sh (l.map encT)),(1,.func (220:Nat) [.ptr k (0:Nat)]),(7,.int .i64 (↑l.length)),(8,.int .i64 0)] (H) (fun T hT=>(h T hT))) (by kernel_rfl)
 obtain⟨r,h,rfl⟩:=key
 exact h
theorem hasT(hd:∀y:Taint,Does cfg (.call (.c (.func 220 [.ptr k 0])) [.c (encT y)]) H (.bool (p y)) H)(l:List Taint)(hn:l.length<9223372036854775807)(htr:trunc H.boxes.length H.toks.length (.int .i64 (fidxB p l 0)) H=H):
 lim cfg (.fn 219) [.sl .sh (l.map encT),.func 220 [.ptr k 0]] H=some (.ret (.bool (l.any p)),H):=by
 rw[l219]
 have h0:=does_callE (xs:=[.sl .sh (l.map encT),.func 220 [.ptr k 0]]) (caps:=[]) (idxT hd l hn) rfl rfl
 rw[show shutA (.int .i64 (fidxB p l 0))=.int .i64 (fidxB p l 0)from rfl,htr]at h0
 have hf:=fidxB_ge p l 0
 have key:Goes cfg a219 [.c c219] (initEnv [.sl .sh (l.map encT),.func 220 [.ptr k 0]]) H (fun r=>r=(.ret (.bool (l.any p)),H)):=by
  exact goG 60 [] trivial (.effY (show Does cfg (.call (.c (.func (240:FuncId) [])) (List.map .c [.sl .sh (l.map encT),.func (220:FuncId) [.ptr k (0:Nat)]])) H (.int .i64 (fidxB p l (0:Nat))) H from h0)<|.fin ((.ret (.bool (decide ((0:Int)≤fidxB p l (0:Nat)))),H)) (by simp[←hf])) (by kernel_rfl)
 obtain⟨r,h,rfl⟩:=key
 exact h
end
theorem one64(x y:Taint)(bs:List (List AV))(hb:bs.all (·.all data0)=true):Does cfg (.call (.c (.func 220 [.ptr bs.length 0])) [.c (encT y)]) ⟨bs++[x.cells],[],[]⟩ (.bool (same x y)) ⟨bs++[x.cells],[],[]⟩:=by
 have key:Goes cfg a220 [.c c220] (initEnv [encT y,.ptr bs.length 0]) ⟨bs++[x.cells],[],[]⟩ (fun r=>r=(.ret (.bool (same x y)),⟨(bs++[x.cells])++[y.cells],[],[]⟩)):=by
  exact let ζ2:List AV:=[.str x.key,.str x.val,.bool x.hard];let ζ3:List AV:=[.str y.key,.str y.val,.bool y.hard];let ζ1:Heap:={boxes:=bs++[ζ2]++[ζ3],toks:=[],loops:=[]:Heap};goG 60 [] trivial (.load (show loadA false 1 ζ1 (.ptr (bs++[ζ2]).length (0:Nat))=some (.str y.key)from load_box (cs:=ζ3) (by simp+zetaDelta) rfl)<|.load (show loadA false 1 ζ1 (.ptr bs.length (0:Nat))=some (.str x.key)from load_box (cs:=ζ2) (by simp+zetaDelta) rfl)<|.split ((y.key==x.key)=true) (fun h1=>.yes (show(y.key==x.key)=true from h1)<|.load (show loadA false 1 ζ1 (.ptr (bs++[ζ2]).length (1:Nat))=some (.str y.val)from load_box (cs:=ζ3) (by simp+zetaDelta) rfl)<|.load (show loadA false 1 ζ1 (.ptr bs.length (1:Nat))=some (.str x.val)from load_box (cs:=ζ2) (by simp+zetaDelta) rfl)<|.fin ((.ret (.bool (y.val==x.val)),ζ1)) (by grind[same,Taint.cells])) (fun h1=>.no (show(y.key==x.key)=false from Bool.eq_false_iff.2 h1)<|.fin ((.ret (.bool false),ζ1)) (by simp_all+zetaDelta [same,Taint.cells]))) (by kernel_rfl)
 obtain⟨r,h,rfl⟩:=key
 have h2:lim cfg (.fn 220) ([encT y]++[.ptr bs.length 0]) ⟨bs++[x.cells],[],[]⟩=some (.ret (.bool (same x y)),⟨(bs++[x.cells])++[y.cells],[],[]⟩):=by
  rw[l220];exact h
 have hd:=does_callE h2 rfl rfl
 rwa [show shutA (.bool (same x y))=.bool (same x y)from rfl,trunc_plain (bs:=bs++[x.cells]) (ex:=[y.cells]) (ts:=[]) (by simp only[List.all_append,hb];rfl)]at hd
theorem trunc_plainI{bs:List (List AV)}{ts:List Nat}{n:Int}(hb:bs.all (·.all data0)=true):trunc bs.length ts.length (.int .i64 n) ⟨bs,ts,[]⟩=⟨bs,ts,[]⟩:=by
 have h:=trunc_plain (ex:=[]) (ts:=ts) (b:=true) hb
 rw[List.append_nil]at h
 exact h
theorem has63(x:Taint)(l:List Taint)(hn:l.length<9223372036854775807)(bs:List (List AV))(hb:bs.all (·.all data0)=true):
 Does cfg (.call (.c (.func 219 [])) [.c (.sl .sh (l.map encT)),.c (.func 220 [.ptr bs.length 0])]) ⟨bs++[x.cells],[],[]⟩ (.bool (l.any (same x))) ⟨bs++[x.cells],[],[]⟩:=by
 have hb2:(bs++[x.cells]).all (·.all data0)=true:=by simp only[List.all_append,hb];rfl
 have h:=hasT (H:=⟨bs++[x.cells],[],[]⟩) (k:=bs.length) (p:=same x) (fun y=>one64 x y bs hb) l hn (trunc_plainI hb2)
 have hd:=does_callE (xs:=[.sl .sh (l.map encT),.func 220 [.ptr bs.length 0]]) (caps:=[]) h rfl rfl
 have e:=trunc_plain (bs:=bs++[x.cells]) (ex:=[]) (ts:=[]) (b:=l.any (same x)) hb2
 rw[List.append_nil]at e
 rwa [show shutA (.bool (l.any (same x)))=.bool (l.any (same x))from rfl,e]at hd
theorem ckT2_loop(l:List Taint)(hn:l.length≤8):∀(post:List Taint)(i:Nat)(bs:List (List AV))(hb:bs.all (·.all data0)=true)(hd:l.drop i=post)(T:Env)(hT:Has T [(0,.sl .sh (l.map encT)),(8,.sl .sh (l.map encT)),(9,.int .i64 l.length),(10,.int .i64 i)]),
 Goes cfg a212 k212_0 T ⟨bs,[],[]⟩ (IsRet (.int .i64 (ckTl l i post))):=by
 intro post
 induction post with
 |nil=>
  intro i bs hb hd T hT
  have hge:=drop_ge hd
  exact goG 60 _ hT (.no (decide_eq_false (p:=(↑i:Int)<(↑l.length:Int)) (by omega))<|.fin ((.ret (.int .i64 0),{boxes:=bs,toks:=[],loops:=[]:Heap})) rfl) (by kernel_rfl)
 |cons x post ih=>
  intro i bs hb hd T hT
  have hlt:=drop_lt hd
  have hnx:=drop_next hd
  have hc:=has63 x (l.take i) (by simp;omega) bs hb
  have hb2:(bs++[x.cells]).all (·.all data0)=true:=by simp only[List.all_append,hb];rfl
  have ih2:=ih (i+1) (bs++[[.str x.key,.str x.val,.bool x.hard]]) hb2 hnx
  exact let ζ2:List AV:=[.str x.key,.str x.val,.bool x.hard];let ζ1:Heap:={boxes:=bs++[ζ2],toks:=[],loops:=[]:Heap};let ζ3:Heap:={boxes:=bs++[x.cells],toks:=[],loops:=[]:Heap};goG 90 _ hT (.yes (decide_eq_true (p:=(↑i:Int)<(↑l.length:Int)) (by omega))<|.idx (show idxA 3 (.sl .sh (l.map encT)) (.int .i64 ↑i)=some (.ref (encT x).cells)from idx_row hd (by rfl))<|.load (rfl:loadA true 3 {boxes:=bs,toks:=[],loops:=[]:Heap} (.ref ζ2)=some (.agg ζ2))<|.store (show storeA 3 {boxes:=bs++[[AV.str [],.str [],.bool false]],toks:=[],loops:=[]:Heap} (.ptr bs.length (0:Nat)) (.agg ζ2)=some (ζ1)from store_box2 (cs:=[.str [],.str [],.bool false]) (cs':=ζ2) (by simp+zetaDelta) rfl (by simp+zetaDelta [List.set_append]))<|.load (show loadA false 1 ζ1 (.ptr bs.length (0:Nat))=some (.str x.key)from load_box (cs:=ζ2) (by simp+zetaDelta) rfl)<|.callI (show Gives cfg (196:FuncId) [.str x.key] (.bool (isName x.key))from res_name _)<|.split (isName x.key=true) (fun h1=>.no (show(!isName x.key)=false from by have hh:isName x.key=true:=h1;simp[hh])<|.load (show loadA false 1 ζ1 (.ptr bs.length (1:Nat))=some (.str x.val)from load_box (cs:=ζ2) (by simp+zetaDelta) rfl)<|.callI (show Gives cfg (196:FuncId) [.str x.val] (.bool (isName x.val))from res_name _)<|.split (isName x.val=true) (fun h2=>.no (show(!isName x.val)=false from by have hh:isName x.val=true:=h2;simp[hh])<|.slice (show sliceA (3:Nat) (.sl .sh (l.map encT)) none (some (.int .i64 ↑i)) none=some (.sl .sh (List.map encT (List.take i l)))from slice_to (by omega) (by rfl) (by exact cellT))<|.effY (show Does cfg (.call (.c (.func (219:FuncId) [])) [.c (.sl .sh (List.map encT (List.take i l))),.c (.func (220:FuncId) [.ptr bs.length (0:Nat)])]) ζ3 (.bool ((List.take i l).any (same x))) ζ3 from hc)<|.split ((List.take i l).any (same x)=true) (fun h3=>.yes (show((List.take i l).any (same x))=true from h3)<|.fin ((.ret (.int .i64 6),ζ1)) (by simp only[IsRet];grind[ckTl])) (fun h3=>.no (show((List.take i l).any (same x))=false from Bool.eq_false_iff.2 h3)<|.bin (show binA .add (.int .i64 ↑i) (.int .i64 1)=some (.int .i64 (↑(i+1)))from inc_i (by omega))<|.cutQ k212_0 [(0,.sl .sh (l.map encT)),(8,.sl .sh (l.map encT)),(9,.int .i64 (↑l.length)),(10,.int .i64 (↑(i+1)))] (ζ1) (fun T hT=>(ih2 T hT).to (by grind[ckTl])))) (fun h2=>.yes (show(!isName x.val)=true from by have hh:¬(isName x.val=true):=h2;simp[hh])<|.fin ((.ret (.int .i64 3),ζ1)) (by simp only[IsRet];grind[ckTl]))) (fun h1=>.yes (show(!isName x.key)=true from by have hh:¬(isName x.key=true):=h1;simp[hh])<|.tt<|.fin ((.ret (.int .i64 3),ζ1)) (by simp only[IsRet];grind[ckTl]))) (by kernel_rfl)
theorem ckT2(l:List Taint):Gives cfg 212 [.sl .sh (l.map encT)] (.int .i64 (ckT l)):=by
 refine Gives.run (l212 _ _) ?_
 have h:=fun hn=>ckT2_loop l hn l 0 [] rfl rfl
 exact let ζ1:Heap:={boxes:=[],toks:=[],loops:=[]:Heap};goG 60 [] trivial (.len (show lenA false (.sl .sh (l.map encT))=some (.int .i64 (↑l.length))from len_map _)<|.split ((8:Int)<(↑l.length:Int)) (fun h1=>.yes (decide_eq_true (p:=(8:Int)<(↑l.length:Int)) h1)<|.fin ((.ret (.int .i64 4),ζ1)) (by simp only[IsRet];grind[ckT])) (fun h1=>.no (decide_eq_false (p:=(8:Int)<(↑l.length:Int)) h1)<|.len (show lenA false (.sl .sh (l.map encT))=some (.int .i64 (↑l.length))from len_map _)<|.cutQ k212_0 [(0,.sl .sh (l.map encT)),(8,.sl .sh (l.map encT)),(9,.int .i64 (↑l.length)),(10,.int .i64 0)] (ζ1) (fun T hT=>(h (by omega) T hT).to (by grind[ckT])))) (by kernel_rfl)
theorem ckL2_loop(l:List Tol)(hn:l.length≤8):∀(post:List Tol)(i:Nat)(bs:List (List AV))(hd:l.drop i=post)(T:Env)(hT:Has T [(8,.sl .sh (l.map encL)),(9,.int .i64 l.length),(10,.int .i64 i)]),
 Goes cfg a142 k142_0 T ⟨bs,[],[]⟩ (IsRet (.int .i64 (if post.all okL then 0 else 3))):=by
 intro post
 induction post with
 |nil=>
  intro i bs hd T hT
  have hge:=drop_ge hd
  exact goG 60 _ hT (.no (decide_eq_false (p:=(↑i:Int)<(↑l.length:Int)) (by omega))<|.fin ((.ret (.int .i64 0),{boxes:=bs,toks:=[],loops:=[]:Heap})) rfl) (by kernel_rfl)
 |cons x post ih=>
  intro i bs hd T hT
  have hlt:=drop_lt hd
  have hnx:=drop_next hd
  have hv:isName []=false:=rfl
  exact let ζ2:List AV:=[.str x.key,.str x.val,.bool x.any];let ζ1:Heap:={boxes:=bs++[ζ2],toks:=[],loops:=[]:Heap};goG 60 _ hT (.yes (decide_eq_true (p:=(↑i:Int)<(↑l.length:Int)) (by omega))<|.idx (show idxA 3 (.sl .sh (l.map encL)) (.int .i64 ↑i)=some (.ref (encL x).cells)from idx_row hd (by rfl))<|.load (rfl:loadA true 3 {boxes:=bs,toks:=[],loops:=[]:Heap} (.ref ζ2)=some (.agg ζ2))<|.store (show storeA 3 {boxes:=bs++[[AV.str [],.str [],.bool false]],toks:=[],loops:=[]:Heap} (.ptr bs.length (0:Nat)) (.agg ζ2)=some (ζ1)from store_box2 (cs:=[.str [],.str [],.bool false]) (cs':=ζ2) (by simp+zetaDelta) rfl (by simp+zetaDelta [List.set_append]))<|.load (show loadA false 1 ζ1 (.ptr bs.length (0:Nat))=some (.str x.key)from load_box (cs:=ζ2) (by simp+zetaDelta) rfl)<|.split ((x.key==[])=true) (fun h1=>.no (show(!x.key==[])=false from by have hh:(x.key==[])=true:=h1;simp[hh])<|.ff<|.load (show loadA false 1 ζ1 (.ptr bs.length (2:Nat))=some (.bool x.any)from load_box (cs:=ζ2) (by simp+zetaDelta) rfl)<|.load (show loadA false 1 ζ1 (.ptr bs.length (1:Nat))=some (.str x.val)from load_box (cs:=ζ2) (by simp+zetaDelta) rfl)<|.split ((if true=true then !x.any==(x.val==[])else x.any==(x.val==[]))=true) (fun h2=>.yes (show(if true=true then !x.any==(x.val==[])else x.any==(x.val==[]))=true from h2)<|.tt<|.fin ((.ret (.int .i64 3),ζ1)) (by simp only[IsRet];grind[okL])) (fun h2=>.no (show(if true=true then !x.any==(x.val==[])else x.any==(x.val==[]))=false from Bool.eq_false_iff.2 h2)<|.load (show loadA false 1 ζ1 (.ptr bs.length (2:Nat))=some (.bool x.any)from load_box (cs:=ζ2) (by simp+zetaDelta) rfl)<|.split (x.any=true) (fun h3=>.no (show(!x.any)=false from by have hh:x.any=true:=h3;simp[hh])<|.ff<|.bin (show binA .add (.int .i64 ↑i) (.int .i64 1)=some (.int .i64 (↑(i+1)))from inc_i (by omega))<|.cutQ k142_0 [(8,.sl .sh (l.map encL)),(9,.int .i64 (↑l.length)),(10,.int .i64 (↑(i+1)))] (ζ1) (fun T hT=>(ih (i+(1:Nat)) (bs++[ζ2]) hnx T hT).to (by grind[okL]))) (fun h3=>.yes (show(!x.any)=true from by have hh:¬(x.any=true):=h3;simp[hh])<|.load (show loadA false 1 ζ1 (.ptr bs.length (1:Nat))=some (.str x.val)from load_box (cs:=ζ2) (by simp+zetaDelta) rfl)<|.callI (show Gives cfg (196:FuncId) [.str x.val] (.bool (isName x.val))from res_name _)<|.split (isName x.val=true) (fun h4=>.no (show(!isName x.val)=false from by have hh:isName x.val=true:=h4;simp[hh])<|.bin (show binA .add (.int .i64 ↑i) (.int .i64 1)=some (.int .i64 (↑(i+1)))from inc_i (by omega))<|.cutQ k142_0 [(8,.sl .sh (l.map encL)),(9,.int .i64 (↑l.length)),(10,.int .i64 (↑(i+1)))] (ζ1) (fun T hT=>(ih (i+(1:Nat)) (bs++[ζ2]) hnx T hT).to (by grind[okL]))) (fun h4=>.yes (show(!isName x.val)=true from by have hh:¬(isName x.val=true):=h4;simp[hh])<|.fin ((.ret (.int .i64 3),ζ1)) (by simp only[IsRet];grind[okL]))))) (fun h1=>.yes (show(!x.key==[])=true from by have hh:¬((x.key==[])=true):=h1;simp[hh])<|.load (show loadA false 1 ζ1 (.ptr bs.length (0:Nat))=some (.str x.key)from load_box (cs:=ζ2) (by simp+zetaDelta) rfl)<|.callI (show Gives cfg (196:FuncId) [.str x.key] (.bool (isName x.key))from res_name _)<|.split (isName x.key=true) (fun h2=>.no (show(!isName x.key)=false from by have hh:isName x.key=true:=h2;simp[hh])<|.load (show loadA false 1 ζ1 (.ptr bs.length (2:Nat))=some (.bool x.any)from load_box (cs:=ζ2) (by simp+zetaDelta) rfl)<|.load (show loadA false 1 ζ1 (.ptr bs.length (1:Nat))=some (.str x.val)from load_box (cs:=ζ2) (by simp+zetaDelta) rfl)<|.split ((if true=true then !x.any==(x.val==[])else x.any==(x.val==[]))=true) (fun h3=>.yes (show(if true=true then !x.any==(x.val==[])else x.any==(x.val==[]))=true from h3)<|.tt<|.fin ((.ret (.int .i64 3),ζ1)) (by simp only[IsRet];grind[okL])) (fun h3=>.no (show(if true=true then !x.any==(x.val==[])else x.any==(x.val==[]))=false from Bool.eq_false_iff.2 h3)<|.load (show loadA false 1 ζ1 (.ptr bs.length (2:Nat))=some (.bool x.any)from load_box (cs:=ζ2) (by simp+zetaDelta) rfl)<|.split (x.any=true) (fun h4=>.no (show(!x.any)=false from by have hh:x.any=true:=h4;simp[hh])<|.ff<|.bin (show binA .add (.int .i64 ↑i) (.int .i64 1)=some (.int .i64 (↑(i+1)))from inc_i (by omega))<|.cutQ k142_0 [(8,.sl .sh (l.map encL)),(9,.int .i64 (↑l.length)),(10,.int .i64 (↑(i+1)))] (ζ1) (fun T hT=>(ih (i+(1:Nat)) (bs++[ζ2]) hnx T hT).to (by grind[okL]))) (fun h4=>.yes (show(!x.any)=true from by have hh:¬(x.any=true):=h4;simp[hh])<|.load (show loadA false 1 ζ1 (.ptr bs.length (1:Nat))=some (.str x.val)from load_box (cs:=ζ2) (by simp+zetaDelta) rfl)<|.callI (show Gives cfg (196:FuncId) [.str x.val] (.bool (isName x.val))from res_name _)<|.split (isName x.val=true) (fun h5=>.no (show(!isName x.val)=false from by have hh:isName x.val=true:=h5;simp[hh])<|.bin (show binA .add (.int .i64 ↑i) (.int .i64 1)=some (.int .i64 (↑(i+1)))from inc_i (by omega))<|.cutQ k142_0 [(8,.sl .sh (l.map encL)),(9,.int .i64 (↑l.length)),(10,.int .i64 (↑(i+1)))] (ζ1) (fun T hT=>(ih (i+(1:Nat)) (bs++[ζ2]) hnx T hT).to (by grind[okL]))) (fun h5=>.yes (show(!isName x.val)=true from by have hh:¬(isName x.val=true):=h5;simp[hh])<|.fin ((.ret (.int .i64 3),ζ1)) (by simp only[IsRet];grind[okL]))))) (fun h2=>.yes (show(!isName x.key)=true from by have hh:¬(isName x.key=true):=h2;simp[hh])<|.tt<|.tt<|.fin ((.ret (.int .i64 3),ζ1)) (by simp only[IsRet];grind[okL])))) (by kernel_rfl)
theorem ckL2(l:List Tol):Gives cfg 142 [.sl .sh (l.map encL)] (.int .i64 (ckL l)):=by
 refine Gives.run (l142 _ _) ?_
 have h:=fun hn=>ckL2_loop l hn l 0 [] rfl
 exact let ζ1:Heap:={boxes:=[],toks:=[],loops:=[]:Heap};goG 60 [] trivial (.len (show lenA false (.sl .sh (l.map encL))=some (.int .i64 (↑l.length))from len_map _)<|.split ((8:Int)<(↑l.length:Int)) (fun h1=>.yes (decide_eq_true (p:=(8:Int)<(↑l.length:Int)) h1)<|.fin ((.ret (.int .i64 4),ζ1)) (by simp only[IsRet];grind[ckL])) (fun h1=>.no (decide_eq_false (p:=(8:Int)<(↑l.length:Int)) h1)<|.len (show lenA false (.sl .sh (l.map encL))=some (.int .i64 (↑l.length))from len_map _)<|.cutQ k142_0 [(8,.sl .sh (l.map encL)),(9,.int .i64 (↑l.length)),(10,.int .i64 0)] (ζ1) (fun T hT=>(h (by omega) T hT).to (by grind[ckL])))) (by kernel_rfl)
end Go.Aa.T
set_option linter.unusedVariables false
set_option linter.unusedSimpArgs false
set_option maxRecDepth 100000
namespace Go.Aa.T
open Go.Aa Go.Proofs
end Go.Aa.T
set_option linter.unusedVariables false
set_option linter.unusedSimpArgs false
set_option maxRecDepth 100000
namespace Go.Aa.T
open Go.Aa Go.Proofs
structure Amount where
 name:List UInt8
 n:Int
def encA(x:Amount):AV:=.agg [.str x.name,.int .i64 x.n]
instance(x:Amount):Dat (encA x):=⟨rfl,rfl⟩
theorem lenA2{l:List Amount}:lenOk 2 (l.map encA)=true:=lenOk_map fun _=>rfl
def ordV(s:List Amount)(i:Nat)(x:Amount):Bool:=match i with
 |0=>false
 |j+1=>match s[j]? with
  |some p=>Op.bytesLess x.name p.name||x.name==p.name
  |none=>false
def ckVl(s:List Amount):Nat→List Amount→Int
 |_,[]=>0
 |i,x::post=>if isName x.name then(if x.n≤0 then 1 else if ordV s i x then 13 else ckVl s (i+1) post)else 3
def ckV(s:List Amount):Int:=if s.length≤8 then ckVl s 0 s else 4
theorem ckV_ref_loop(l:List Amount)(hn:l.length≤8):∀(post:List Amount)(i:Nat)(hd:l.drop i=post)(T:Env)(hT:Has T [(0,.sl .sh (l.map encA)),(3,.int .i64 i)]),
 Goes cfg a67 k67_0 T Heap.nil (IsRet (.int .i64 (ckVl l i post))):=by
 intro post
 induction post with
 |nil=>
  intro i hd T hT
  have hge:=drop_ge hd
  exact goG 60 _ hT (.len (show lenA false (.sl .sh (l.map encA))=some (.int .i64 (↑l.length))from len_map _)<|.no (decide_eq_false (p:=(↑i:Int)<(↑l.length:Int)) (by omega))<|.fin ((.ret (.int .i64 0),{boxes:=[],toks:=[],loops:=[]:Heap})) rfl) (by kernel_rfl)
 |cons x post ih=>
  intro i hd T hT
  have hlt:=drop_lt hd
  have hnx:=drop_next hd
  cases i with
  |zero=>exact let ζ1:Heap:={boxes:=[],toks:=[],loops:=[]:Heap};goG 60 _ hT (.len (show lenA false (.sl .sh (l.map encA))=some (.int .i64 (↑l.length))from len_map _)<|.yes (decide_eq_true (p:=(↑(0:Nat):Int)<(↑l.length:Int)) (by omega))<|.idx (show idxA 2 (.sl .sh (l.map encA)) (.int .i64 (↑(0:Nat):Int))=some (.ref (encA x).cells)from idx_row hd (by rfl))<|.callI (show Gives cfg (66:FuncId) [.str x.name] (.bool (isName x.name))from name_any _)<|.split (isName x.name=true) (fun h1=>.no (show(!isName x.name)=false from by have hh:isName x.name=true:=h1;simp[hh])<|.idx (show idxA 2 (.sl .sh (l.map encA)) (.int .i64 (↑(0:Nat):Int))=some (.ref (encA x).cells)from idx_row hd (by rfl))<|.split (x.n≤(0:Int)) (fun h2=>.yes (decide_eq_true (p:=x.n≤(0:Int)) h2)<|.fin ((.ret (.int .i64 1),ζ1)) (by simp only[IsRet];grind[ckVl,ordV])) (fun h2=>.no (decide_eq_false (p:=x.n≤(0:Int)) h2)<|.ff<|.ff<|.bin (show binA .add (.int .i64 (↑(0:Nat):Int)) (.int .i64 1)=some (.int .i64 (↑((0:Nat)+(1:Nat)):Int))from inc_i (by omega))<|.cutQ k67_0 [(0,.sl .sh (l.map encA)),(3,.int .i64 (↑((0:Nat)+(1:Nat)):Int))] (ζ1) (fun T hT=>(ih ((0:Nat)+(1:Nat)) hnx T hT).to (by grind[ckVl,ordV])))) (fun h1=>.yes (show(!isName x.name)=true from by have hh:¬(isName x.name=true):=h1;simp[hh])<|.fin ((.ret (.int .i64 3),ζ1)) (by simp only[IsRet];grind[ckVl,ordV]))) (by kernel_rfl)
  |succ j=>
   obtain⟨p,hp⟩:∃p,l[j]?=some p:=⟨l[j],List.getElem?_eq_getElem (by omega)⟩
   exact let ζ1:Heap:={boxes:=[],toks:=[],loops:=[]:Heap};goG 60 _ hT (.len (show lenA false (.sl .sh (l.map encA))=some (.int .i64 (↑l.length))from len_map _)<|.yes (decide_eq_true (p:=(↑(j+(1:Nat)):Int)<(↑l.length:Int)) (by omega))<|.idx (show idxA 2 (.sl .sh (l.map encA)) (.int .i64 (↑(j+(1:Nat)):Int))=some (.ref (encA x).cells)from idx_row hd (by rfl))<|.callI (show Gives cfg (66:FuncId) [.str x.name] (.bool (isName x.name))from name_any _)<|.split (isName x.name=true) (fun h1=>.no (show(!isName x.name)=false from by have hh:isName x.name=true:=h1;simp[hh])<|.idx (show idxA 2 (.sl .sh (l.map encA)) (.int .i64 (↑(j+(1:Nat)):Int))=some (.ref (encA x).cells)from idx_row hd (by rfl))<|.split (x.n≤(0:Int)) (fun h2=>.yes (decide_eq_true (p:=x.n≤(0:Int)) h2)<|.fin ((.ret (.int .i64 1),ζ1)) (by simp only[IsRet];grind[ckVl,ordV])) (fun h2=>.no (decide_eq_false (p:=x.n≤(0:Int)) h2)<|.yes (decide_eq_true (p:=(0:Int)<(↑(j+(1:Nat)):Int)) (by omega))<|.idx (show idxA 2 (.sl .sh (l.map encA)) (.int .i64 (↑(j+(1:Nat)):Int))=some (.ref (encA x).cells)from idx_row hd (by rfl))<|.bin (show binA .sub (.int .i64 (↑(j+(1:Nat)):Int)) (.int .i64 1)=some (.int .i64 ↑j)from dec_i (by omega))<|.idx (show idxA 2 (.sl .sh (l.map encA)) (.int .i64 ↑j)=some (.ref (encA p).cells)from idx_get hp (by rfl))<|.split ((Op.bytesLess x.name p.name||x.name==p.name)=true) (fun h3=>.yes (show(Op.bytesLess x.name p.name||x.name==p.name)=true from h3)<|.fin ((.ret (.int .i64 13),ζ1)) (by simp only[IsRet];grind[ckVl,ordV])) (fun h3=>.no (show(Op.bytesLess x.name p.name||x.name==p.name)=false from Bool.eq_false_iff.2 h3)<|.bin (show binA .add (.int .i64 (↑(j+(1:Nat)):Int)) (.int .i64 1)=some (.int .i64 (↑(j+(1:Nat)+(1:Nat)):Int))from inc_i (by omega))<|.cutQ k67_0 [(0,.sl .sh (l.map encA)),(3,.int .i64 (↑(j+(1:Nat)+(1:Nat)):Int))] (ζ1) (fun T hT=>(ih (j+(1:Nat)+(1:Nat)) hnx T hT).to (by grind[ckVl,ordV]))))) (fun h1=>.yes (show(!isName x.name)=true from by have hh:¬(isName x.name=true):=h1;simp[hh])<|.fin ((.ret (.int .i64 3),ζ1)) (by simp only[IsRet];grind[ckVl,ordV]))) (by kernel_rfl)
theorem ckV_ref(l:List Amount):Gives cfg 67 [.sl .sh (l.map encA)] (.int .i64 (ckV l)):=by
 refine Gives.run (l67 _ _) ?_
 have h:=fun hn=>ckV_ref_loop l hn l 0 rfl
 exact let ζ1:Heap:={boxes:=[],toks:=[],loops:=[]:Heap};goG 60 [] trivial (.len (show lenA false (.sl .sh (l.map encA))=some (.int .i64 (↑l.length))from len_map _)<|.split ((8:Int)<(↑l.length:Int)) (fun h1=>.yes (decide_eq_true (p:=(8:Int)<(↑l.length:Int)) h1)<|.fin ((.ret (.int .i64 4),ζ1)) (by simp only[IsRet];grind[ckV])) (fun h1=>.no (decide_eq_false (p:=(8:Int)<(↑l.length:Int)) h1)<|.cutQ k67_0 [(0,.sl .sh (l.map encA)),(3,.int .i64 0)] (ζ1) (fun T hT=>(h (by omega) T hT).to (by grind[ckV])))) (by kernel_rfl)
theorem ckV_loop(l:List Amount)(hn:l.length≤8):∀(post:List Amount)(i:Nat)(bs:List (List AV))(hd:l.drop i=post)(T:Env)(hT:Has T [(0,.sl .sh (l.map encA)),(8,.sl .sh (l.map encA)),(9,.int .i64 l.length),(10,.int .i64 i)]),
 Goes cfg a139 k139_0 T ⟨bs,[],[]⟩ (IsRet (.int .i64 (ckVl l i post))):=by
 intro post
 induction post with
 |nil=>
  intro i bs hd T hT
  have hge:=drop_ge hd
  exact goG 60 _ hT (.no (decide_eq_false (p:=(↑i:Int)<(↑l.length:Int)) (by omega))<|.fin ((.ret (.int .i64 0),{boxes:=bs,toks:=[],loops:=[]:Heap})) rfl) (by kernel_rfl)
 |cons x post ih=>
  intro i bs hd T hT
  have hlt:=drop_lt hd
  have hnx:=drop_next hd
  cases i with
  |zero=>exact let ζ1:Heap:={boxes:=bs++[[AV.str x.name,.int .i64 x.n]],toks:=[],loops:=[]:Heap};goG 60 _ hT (.yes (decide_eq_true (p:=(↑(0:Nat):Int)<(↑l.length:Int)) (by omega))<|.idx (show idxA 2 (.sl .sh (l.map encA)) (.int .i64 (↑(0:Nat):Int))=some (.ref (encA x).cells)from idx_row hd (by rfl))<|.load (rfl:loadA true 2 {boxes:=bs,toks:=[],loops:=[]:Heap} (.ref [.str x.name,.int .i64 x.n])=some (.agg [.str x.name,.int .i64 x.n]))<|.store (show storeA 2 {boxes:=bs++[[AV.str [],.int .i64 0]],toks:=[],loops:=[]:Heap} (.ptr bs.length (0:Nat)) (.agg [.str x.name,.int .i64 x.n])=some (ζ1)from store_box2 (cs:=[.str [],.int .i64 0]) (cs':=[.str x.name,.int .i64 x.n]) (by simp+zetaDelta) rfl (by simp+zetaDelta [List.set_append]))<|.load (show loadA false 1 ζ1 (.ptr bs.length (0:Nat))=some (.str x.name)from load_box (cs:=[.str x.name,.int .i64 x.n]) (by simp+zetaDelta) rfl)<|.callI (show Gives cfg (196:FuncId) [.str x.name] (.bool (isName x.name))from res_name _)<|.split (isName x.name=true) (fun h1=>.no (show(!isName x.name)=false from by have hh:isName x.name=true:=h1;simp[hh])<|.load (show loadA false 1 ζ1 (.ptr bs.length (1:Nat))=some (.int .i64 x.n)from load_box (cs:=[.str x.name,.int .i64 x.n]) (by simp+zetaDelta) rfl)<|.split (x.n≤(0:Int)) (fun h2=>.yes (decide_eq_true (p:=x.n≤(0:Int)) h2)<|.fin ((.ret (.int .i64 1),ζ1)) (by simp only[IsRet];grind[ckVl,ordV])) (fun h2=>.no (decide_eq_false (p:=x.n≤(0:Int)) h2)<|.ff<|.ff<|.bin (show binA .add (.int .i64 (↑(0:Nat):Int)) (.int .i64 1)=some (.int .i64 (↑((0:Nat)+(1:Nat)):Int))from inc_i (by omega))<|.cutQ k139_0 [(0,.sl .sh (l.map encA)),(8,.sl .sh (l.map encA)),(9,.int .i64 (↑l.length)),(10,.int .i64 (↑((0:Nat)+(1:Nat)):Int))] (ζ1) (fun T hT=>(ih ((0:Nat)+(1:Nat)) (bs++[[AV.str x.name,.int .i64 x.n]]) hnx T hT).to (by grind[ckVl,ordV])))) (fun h1=>.yes (show(!isName x.name)=true from by have hh:¬(isName x.name=true):=h1;simp[hh])<|.fin ((.ret (.int .i64 3),ζ1)) (by simp only[IsRet];grind[ckVl,ordV]))) (by kernel_rfl)
  |succ j=>
   obtain⟨p,hp⟩:∃p,l[j]?=some p:=⟨l[j],List.getElem?_eq_getElem (by omega)⟩
   exact let ζ1:Heap:={boxes:=bs++[[AV.str x.name,.int .i64 x.n]],toks:=[],loops:=[]:Heap};goG 60 _ hT (.yes (decide_eq_true (p:=(↑(j+(1:Nat)):Int)<(↑l.length:Int)) (by omega))<|.idx (show idxA 2 (.sl .sh (l.map encA)) (.int .i64 (↑(j+(1:Nat)):Int))=some (.ref (encA x).cells)from idx_row hd (by rfl))<|.load (rfl:loadA true 2 {boxes:=bs,toks:=[],loops:=[]:Heap} (.ref [.str x.name,.int .i64 x.n])=some (.agg [.str x.name,.int .i64 x.n]))<|.store (show storeA 2 {boxes:=bs++[[AV.str [],.int .i64 0]],toks:=[],loops:=[]:Heap} (.ptr bs.length (0:Nat)) (.agg [.str x.name,.int .i64 x.n])=some (ζ1)from store_box2 (cs:=[.str [],.int .i64 0]) (cs':=[.str x.name,.int .i64 x.n]) (by simp+zetaDelta) rfl (by simp+zetaDelta [List.set_append]))<|.load (show loadA false 1 ζ1 (.ptr bs.length (0:Nat))=some (.str x.name)from load_box (cs:=[.str x.name,.int .i64 x.n]) (by simp+zetaDelta) rfl)<|.callI (show Gives cfg (196:FuncId) [.str x.name] (.bool (isName x.name))from res_name _)<|.split (isName x.name=true) (fun h1=>.no (show(!isName x.name)=false from by have hh:isName x.name=true:=h1;simp[hh])<|.load (show loadA false 1 ζ1 (.ptr bs.length (1:Nat))=some (.int .i64 x.n)from load_box (cs:=[.str x.name,.int .i64 x.n]) (by simp+zetaDelta) rfl)<|.split (x.n≤(0:Int)) (fun h2=>.yes (decide_eq_true (p:=x.n≤(0:Int)) h2)<|.fin ((.ret (.int .i64 1),ζ1)) (by simp only[IsRet];grind[ckVl,ordV])) (fun h2=>.no (decide_eq_false (p:=x.n≤(0:Int)) h2)<|.yes (decide_eq_true (p:=(0:Int)<(↑(j+(1:Nat)):Int)) (by omega))<|.load (show loadA false 1 ζ1 (.ptr bs.length (0:Nat))=some (.str x.name)from load_box (cs:=[.str x.name,.int .i64 x.n]) (by simp+zetaDelta) rfl)<|.bin (show binA .sub (.int .i64 (↑(j+(1:Nat)):Int)) (.int .i64 1)=some (.int .i64 ↑j)from dec_i (by omega))<|.idx (show idxA 2 (.sl .sh (l.map encA)) (.int .i64 ↑j)=some (.ref (encA p).cells)from idx_get hp (by rfl))<|.load (rfl:loadA false 1 ζ1 (.ref [.str p.name])=some (.str p.name))<|.split ((Op.bytesLess x.name p.name||x.name==p.name)=true) (fun h3=>.yes (show(Op.bytesLess x.name p.name||x.name==p.name)=true from h3)<|.fin ((.ret (.int .i64 13),ζ1)) (by simp only[IsRet];grind[ckVl,ordV])) (fun h3=>.no (show(Op.bytesLess x.name p.name||x.name==p.name)=false from Bool.eq_false_iff.2 h3)<|.bin (show binA .add (.int .i64 (↑(j+(1:Nat)):Int)) (.int .i64 1)=some (.int .i64 (↑(j+(1:Nat)+(1:Nat)):Int))from inc_i (by omega))<|.cutQ k139_0 [(0,.sl .sh (l.map encA)),(8,.sl .sh (l.map encA)),(9,.int .i64 (↑l.length)),(10,.int .i64 (↑(j+(1:Nat)+(1:Nat)):Int))] (ζ1) (fun T hT=>(ih (j+(1:Nat)+(1:Nat)) (bs++[[AV.str x.name,.int .i64 x.n]]) hnx T hT).to (by grind[ckVl,ordV]))))) (fun h1=>.yes (show(!isName x.name)=true from by have hh:¬(isName x.name=true):=h1;simp[hh])<|.fin ((.ret (.int .i64 3),ζ1)) (by simp only[IsRet];grind[ckVl,ordV]))) (by kernel_rfl)
theorem ckV_any(l:List Amount):Gives cfg 139 [.sl .sh (l.map encA)] (.int .i64 (ckV l)):=by
 refine Gives.run (l139 _ _) ?_
 have h:=fun hn=>ckV_loop l hn l 0 [] rfl
 exact let ζ1:Heap:={boxes:=[],toks:=[],loops:=[]:Heap};goG 60 [] trivial (.len (show lenA false (.sl .sh (l.map encA))=some (.int .i64 (↑l.length))from len_map _)<|.split ((8:Int)<(↑l.length:Int)) (fun h1=>.yes (decide_eq_true (p:=(8:Int)<(↑l.length:Int)) h1)<|.fin ((.ret (.int .i64 4),ζ1)) (by simp only[IsRet];grind[ckV])) (fun h1=>.no (decide_eq_false (p:=(8:Int)<(↑l.length:Int)) h1)<|.len (show lenA false (.sl .sh (l.map encA))=some (.int .i64 (↑l.length))from len_map _)<|.cutQ k139_0 [(0,.sl .sh (l.map encA)),(8,.sl .sh (l.map encA)),(9,.int .i64 (↑l.length)),(10,.int .i64 0)] (ζ1) (fun T hT=>(h (by omega) T hT).to (by grind[ckV])))) (by kernel_rfl)
end Go.Aa.T
set_option linter.unusedVariables false
set_option linter.unusedSimpArgs false
set_option maxRecDepth 100000
namespace Go.Aa.T
open Go.Aa Go.Proofs
def encI(x:Int):AV:=.int .i64 x
def firstE:List Int→Int
 |[]=>0
 |x::r=>if x=0 then firstE r else x
theorem first_loop(l:List Int)(hn:l.length≤100):∀(post:List Int)(i:Nat)(hd:l.drop i=post)(T:Env)(hT:Has T [(5,.sl .sh (l.map encI)),(6,.int .i64 l.length),(7,.int .i64 i)]),
 Goes cfg a135 k135_0 T Heap.nil (IsRet (.int .i64 (firstE post))):=by
 intro post
 induction post with
 |nil=>
  intro i hd T hT
  have hge:=drop_ge hd
  exact goG 60 _ hT (.no (decide_eq_false (p:=(↑i:Int)<(↑l.length:Int)) (by omega))<|.fin ((.ret (.int .i64 0),{boxes:=[],toks:=[],loops:=[]:Heap})) rfl) (by kernel_rfl)
 |cons x post ih=>
  intro i hd T hT
  have hlt:=drop_lt hd
  have hnx:=drop_next hd
  have hidx:idxA 1 (.sl .sh (l.map encI)) (.int .i64 (i:Nat))=some (.ref [.int .i64 x]):=idx_row (f:=encI) hd rfl
  by_cases h0:x=0
  ·have e:firstE (x::post)=firstE post:=by simp[firstE,h0]
   rw[e]
   have ih':=ih (i+1) hnx
   exact goG 60 _ hT (.yes (decide_eq_true (p:=(↑i:Int)<(↑l.length:Int)) (by omega))<|.idx (show idxA 1 (.sl .sh (l.map encI)) (.int .i64 ↑i)=some (.ref [.int .i64 x])from hidx)<|.no (show(x !=(0:Int))=false from Bool.eq_false_iff.2 (by simpa using h0))<|.bin (show binA .add (.int .i64 ↑i) (.int .i64 1)=some (.int .i64 (↑(i+1)))from inc_i (by omega))<|.cutQ k135_0 [(5,.sl .sh (l.map encI)),(6,.int .i64 (↑l.length)),(7,.int .i64 (↑(i+1)))] ({boxes:=[],toks:=[],loops:=[]:Heap}) (fun T hT=>(ih' T hT))) (by kernel_rfl)
  ·have e:firstE (x::post)=x:=by simp[firstE,h0]
   rw[e]
   exact goG 60 _ hT (.yes (decide_eq_true (p:=(↑i:Int)<(↑l.length:Int)) (by omega))<|.idx (show idxA 1 (.sl .sh (l.map encI)) (.int .i64 ↑i)=some (.ref [.int .i64 x])from hidx)<|.yes (show(x !=(0:Int))=true from(by simpa using h0))<|.fin ((.ret (.int .i64 x),{boxes:=[],toks:=[],loops:=[]:Heap})) rfl) (by kernel_rfl)
theorem first_any(l:List Int)(hn:l.length≤100):Gives cfg 135 [.sl .sh (l.map encI)] (.int .i64 (firstE l)):=by
 refine Gives.run (l135 _ _) ?_
 have h:=first_loop l hn l 0 rfl
 exact goG 60 [] trivial (.len (show lenA false (.sl .sh (l.map encI))=some (.int .i64 (↑l.length))from len_map _)<|.cutQ k135_0 [(5,.sl .sh (l.map encI)),(6,.int .i64 (↑l.length)),(7,.int .i64 0)] ({boxes:=[],toks:=[],loops:=[]:Heap}) (fun T hT=>(h T hT))) (by kernel_rfl)
theorem named_any(s:List UInt8):Gives cfg 136 [.str s] (.int .i64 (if isName s then 0 else 3)):=by
 refine Gives.run (l136 _ _) ?_
 exact let ζ1:Heap:={boxes:=[],toks:=[],loops:=[]:Heap};goG 60 [] trivial (.callI (show Gives cfg (196:FuncId) [.str s] (.bool (isName s))from res_name _)<|.split (isName s=true) (fun h1=>.no (show(!isName s)=false from by have hh:isName s=true:=h1;simp[hh])<|.fin ((.ret (.int .i64 0),ζ1)) (by simp only[IsRet];grind)) (fun h1=>.yes (show(!isName s)=true from by have hh:¬(isName s=true):=h1;simp[hh])<|.fin ((.ret (.int .i64 3),ζ1)) (by simp only[IsRet];grind))) (by kernel_rfl)
end Go.Aa.T
set_option linter.unusedVariables false
set_option linter.unusedSimpArgs false
set_option maxRecDepth 100000
namespace Go.Aa.T
open Go.Aa Go.Proofs
structure Node where
 name:List UInt8
 cap:List Amount
 labels:List Pair
 taints:List Taint
 cordon:Bool
def encN(n:Node):AV:=.agg [.str n.name,.sl .sh (n.cap.map encA),.sl .sh (n.labels.map encP),.sl .sh (n.taints.map encT),.bool n.cordon]
def ckN(n:Node):Int:=firstE [if isName n.name then 0 else 3,ckV n.cap,ckS n.labels,ckT n.taints]
theorem first4(a b c d:Int):Gives cfg 135 [.sl .sh [.int .i64 a,.int .i64 b,.int .i64 c,.int .i64 d]] (.int .i64 (firstE [a,b,c,d])):=first_any [a,b,c,d] (by simp)
theorem ckN_any(n:Node):Gives cfg 171 [encN n] (.int .i64 (ckN n)):=by
 refine Gives.run (l171 _ _) ?_
 exact let ζ1:List AV:=[.int .i64 (if isName n.name=true then(0:Int)else(3:Int)),.int .i64 (ckV n.cap),.int .i64 (ckS n.labels),.int .i64 (ckT n.taints)];goG 60 [] trivial (.callI (show Gives cfg (136:FuncId) [.str n.name] (.int .i64 (if isName n.name=true then(0:Int)else(3:Int)))from named_any _)<|.callI (show Gives cfg (139:FuncId) [.sl .sh (n.cap.map encA)] (.int .i64 (ckV n.cap))from ckV_any _)<|.callI (show Gives cfg (140:FuncId) [.sl .sh (n.labels.map encP)] (.int .i64 (ckS n.labels))from ckS_any _)<|.callI (show Gives cfg (212:FuncId) [.sl .sh (n.taints.map encT)] (.int .i64 (ckT n.taints))from ckT2 _)<|.callK ([.sl .full ζ1]) (.int .i64 (firstE [if isName n.name=true then(0:Int)else(3:Int),ckV n.cap,ckS n.labels,ckT n.taints])) (show Gives cfg (135:FuncId) [.sl .sh ζ1] (.int .i64 (firstE [if isName n.name=true then(0:Int)else(3:Int),ckV n.cap,ckS n.labels,ckT n.taints]))from first4 _ _ _ _)<|.fin ((.ret (.int .i64 (firstE [if isName n.name=true then(0:Int)else(3:Int),ckV n.cap,ckS n.labels,ckT n.taints])),{boxes:=[[.str n.name,.sl .sh (n.cap.map encA),.sl .sh (n.labels.map encP),.sl .sh (n.taints.map encT),.bool n.cordon]],toks:=[],loops:=[]:Heap})) rfl) (by kernel_rfl)
end Go.Aa.T
set_option linter.unusedVariables false
set_option linter.unusedSimpArgs false
set_option maxRecDepth 100000
namespace Go.Aa.T
open Go.Aa Go.Proofs
def same2{X:Type}(e:X→X→Bool):List X→List X→Bool
 |[],[]=>true
 |x::a,y::b=>e x y&&same2 e a b
 |_,_=>false
theorem same2_len{X:Type}{e:X→X→Bool}:∀{a b:List X},a.length≠b.length→same2 e a b=false
 |[],[],h=>absurd rfl h
 |[],_::_,_=>rfl
 |_::_,[],_=>rfl
 |x::a,y::b,h=>by
  simp only[List.length_cons,ne_eq,Nat.add_right_cancel_iff]at h
  simp only[same2,same2_len h,Bool.and_false]
theorem same2_iff{X:Type}{e:X→X→Bool}(he:∀x y,e x y=true↔x=y):∀{a b:List X},same2 e a b=true↔a=b
 |[],[]=>by simp[same2]
 |[],_::_=>by simp[same2]
 |_::_,[]=>by simp[same2]
 |x::a,y::b=>by simp[same2,he,same2_iff he]
theorem same2_refl{X:Type}{e:X→X→Bool}(he:∀x y,e x y=true↔x=y)(a:List X):same2 e a a=true:=(same2_iff he).2 rfl
def eqA(x y:Amount):Bool:=x.name==y.name&&x.n==y.n
def eqP(x y:Pair):Bool:=x.key==y.key&&x.val==y.val
def eqM(x y:Term):Bool:=x.op==y.op&&(x.key==y.key&&x.val==y.val)
def eqL(x y:Tol):Bool:=x.key==y.key&&(x.val==y.val&&x.any==y.any)
theorem eqA_iff(x y:Amount):eqA x y=true↔x=y:=by cases x;cases y;simp[eqA]
theorem eqP_iff(x y:Pair):eqP x y=true↔x=y:=by cases x;cases y;simp[eqP]
theorem eqM_iff(x y:Term):eqM x y=true↔x=y:=by cases x;cases y;simp[eqM]
theorem eqL_iff(x y:Tol):eqL x y=true↔x=y:=by cases x;cases y;simp[eqL]
theorem sameVR_loop(a b:List Amount)(hn:a.length<9223372036854775807)(he:a.length=b.length):∀(post q:List Amount)(i:Nat)(hd:a.drop i=post)(hq:b.drop i=q)(T:Env)(hT:Has T [(0,.sl .sh (a.map encA)),(1,.sl .sh (b.map encA)),(5,.int .i64 i)]),
 Goes cfg a35 k35_0 T Heap.nil (IsRet (.bool (same2 eqA post q))):=by
 intro post
 induction post with
 |nil=>
  intro q i hd hq T hT
  have hge:=drop_ge hd
  have e:q=[]:=by rw[←hq];exact List.drop_eq_nil_of_le (by omega)
  subst e
  exact goG 60 _ hT (.len (show lenA false (.sl .sh (a.map encA))=some (.int .i64 (↑a.length))from len_map _)<|.no (decide_eq_false (p:=(↑i:Int)<(↑a.length:Int)) (by omega))<|.fin ((.ret (.bool true),{boxes:=[],toks:=[],loops:=[]:Heap})) rfl) (by kernel_rfl)
 |cons x post ih=>
  intro q i hd hq T hT
  have hlt:=drop_lt hd
  have hnx:=drop_next hd
  cases q with
  |nil=>have:=drop_ge hq;omega
  |cons y q=>
   have hnq:=drop_next hq
   exact let ζ1:Heap:={boxes:=[],toks:=[],loops:=[]:Heap};goG 60 _ hT (.len (show lenA false (.sl .sh (a.map encA))=some (.int .i64 (↑a.length))from len_map _)<|.yes (decide_eq_true (p:=(↑i:Int)<(↑a.length:Int)) (by omega))<|.idx (show idxA 2 (.sl .sh (a.map encA)) (.int .i64 ↑i)=some (.ref (encA x).cells)from idx_row hd (by rfl))<|.idx (show idxA 2 (.sl .sh (b.map encA)) (.int .i64 ↑i)=some (.ref (encA y).cells)from idx_row hq (by rfl))<|.split ((if true=true then !(x.name==y.name&&(x.n==y.n&&true))else x.name==y.name&&(x.n==y.n&&true))=true) (fun h1=>.yes (show(if true=true then !(x.name==y.name&&(x.n==y.n&&true))else x.name==y.name&&(x.n==y.n&&true))=true from h1)<|.fin ((.ret (.bool false),ζ1)) (by simp only[IsRet];grind[same2,eqA])) (fun h1=>.no (show(if true=true then !(x.name==y.name&&(x.n==y.n&&true))else x.name==y.name&&(x.n==y.n&&true))=false from Bool.eq_false_iff.2 h1)<|.bin (show binA .add (.int .i64 ↑i) (.int .i64 1)=some (.int .i64 (↑(i+1)))from inc_i (by omega))<|.cutQ k35_0 [(0,.sl .sh (a.map encA)),(1,.sl .sh (b.map encA)),(5,.int .i64 (↑(i+1)))] (ζ1) (fun T hT=>(ih (q) (i+(1:Nat)) hnx hnq T hT).to (by grind[same2,eqA])))) (by kernel_rfl)
theorem sameVR(a b:List Amount)(hn:a.length<9223372036854775807):Gives cfg 35 [.sl .sh (a.map encA),.sl .sh (b.map encA)] (.bool (same2 eqA a b)):=by
 refine Gives.run (l35 _ _) ?_
 by_cases he:a.length=b.length
 ·have h:=sameVR_loop a b hn he a b 0 rfl rfl
  exact goG 60 [] trivial (.len (show lenA false (.sl .sh (a.map encA))=some (.int .i64 (↑a.length))from len_map _)<|.len (show lenA false (.sl .sh (b.map encA))=some (.int .i64 (↑b.length))from len_map _)<|.no (show((↑a.length:Int) !=(↑b.length:Int))=false from Bool.eq_false_iff.2 (by simp[he]))<|.cutQ k35_0 [(0,.sl .sh (a.map encA)),(1,.sl .sh (b.map encA)),(5,.int .i64 0)] ({boxes:=[],toks:=[],loops:=[]:Heap}) (fun T hT=>(h T hT))) (by kernel_rfl)
 ·rw[same2_len he]
  exact goG 60 [] trivial (.len (show lenA false (.sl .sh (a.map encA))=some (.int .i64 (↑a.length))from len_map _)<|.len (show lenA false (.sl .sh (b.map encA))=some (.int .i64 (↑b.length))from len_map _)<|.yes (show((↑a.length:Int) !=(↑b.length:Int))=true from(by simp;omega))<|.fin ((.ret (.bool false),{boxes:=[],toks:=[],loops:=[]:Heap})) rfl) (by kernel_rfl)
theorem samePR_loop(a b:List Pair)(hn:a.length<9223372036854775807)(he:a.length=b.length):∀(post q:List Pair)(i:Nat)(hd:a.drop i=post)(hq:b.drop i=q)(T:Env)(hT:Has T [(0,.sl .sh (a.map encP)),(1,.sl .sh (b.map encP)),(5,.int .i64 i)]),
 Goes cfg a113 k113_0 T Heap.nil (IsRet (.bool (same2 eqP post q))):=by
 intro post
 induction post with
 |nil=>
  intro q i hd hq T hT
  have hge:=drop_ge hd
  have e:q=[]:=by rw[←hq];exact List.drop_eq_nil_of_le (by omega)
  subst e
  exact goG 60 _ hT (.len (show lenA false (.sl .sh (a.map encP))=some (.int .i64 (↑a.length))from len_map _)<|.no (decide_eq_false (p:=(↑i:Int)<(↑a.length:Int)) (by omega))<|.fin ((.ret (.bool true),{boxes:=[],toks:=[],loops:=[]:Heap})) rfl) (by kernel_rfl)
 |cons x post ih=>
  intro q i hd hq T hT
  have hlt:=drop_lt hd
  have hnx:=drop_next hd
  cases q with
  |nil=>have:=drop_ge hq;omega
  |cons y q=>
   have hnq:=drop_next hq
   exact let ζ1:Heap:={boxes:=[],toks:=[],loops:=[]:Heap};goG 60 _ hT (.len (show lenA false (.sl .sh (a.map encP))=some (.int .i64 (↑a.length))from len_map _)<|.yes (decide_eq_true (p:=(↑i:Int)<(↑a.length:Int)) (by omega))<|.idx (show idxA 2 (.sl .sh (a.map encP)) (.int .i64 ↑i)=some (.ref (encP x).cells)from idx_row hd (by rfl))<|.idx (show idxA 2 (.sl .sh (b.map encP)) (.int .i64 ↑i)=some (.ref (encP y).cells)from idx_row hq (by rfl))<|.split ((if true=true then !(x.key==y.key&&(x.val==y.val&&true))else x.key==y.key&&(x.val==y.val&&true))=true) (fun h1=>.yes (show(if true=true then !(x.key==y.key&&(x.val==y.val&&true))else x.key==y.key&&(x.val==y.val&&true))=true from h1)<|.fin ((.ret (.bool false),ζ1)) (by simp only[IsRet];grind[same2,eqP])) (fun h1=>.no (show(if true=true then !(x.key==y.key&&(x.val==y.val&&true))else x.key==y.key&&(x.val==y.val&&true))=false from Bool.eq_false_iff.2 h1)<|.bin (show binA .add (.int .i64 ↑i) (.int .i64 1)=some (.int .i64 (↑(i+1)))from inc_i (by omega))<|.cutQ k113_0 [(0,.sl .sh (a.map encP)),(1,.sl .sh (b.map encP)),(5,.int .i64 (↑(i+1)))] (ζ1) (fun T hT=>(ih (q) (i+(1:Nat)) hnx hnq T hT).to (by grind[same2,eqP])))) (by kernel_rfl)
theorem samePR(a b:List Pair)(hn:a.length<9223372036854775807):Gives cfg 113 [.sl .sh (a.map encP),.sl .sh (b.map encP)] (.bool (same2 eqP a b)):=by
 refine Gives.run (l113 _ _) ?_
 by_cases he:a.length=b.length
 ·have h:=samePR_loop a b hn he a b 0 rfl rfl
  exact goG 60 [] trivial (.len (show lenA false (.sl .sh (a.map encP))=some (.int .i64 (↑a.length))from len_map _)<|.len (show lenA false (.sl .sh (b.map encP))=some (.int .i64 (↑b.length))from len_map _)<|.no (show((↑a.length:Int) !=(↑b.length:Int))=false from Bool.eq_false_iff.2 (by simp[he]))<|.cutQ k113_0 [(0,.sl .sh (a.map encP)),(1,.sl .sh (b.map encP)),(5,.int .i64 0)] ({boxes:=[],toks:=[],loops:=[]:Heap}) (fun T hT=>(h T hT))) (by kernel_rfl)
 ·rw[same2_len he]
  exact goG 60 [] trivial (.len (show lenA false (.sl .sh (a.map encP))=some (.int .i64 (↑a.length))from len_map _)<|.len (show lenA false (.sl .sh (b.map encP))=some (.int .i64 (↑b.length))from len_map _)<|.yes (show((↑a.length:Int) !=(↑b.length:Int))=true from(by simp;omega))<|.fin ((.ret (.bool false),{boxes:=[],toks:=[],loops:=[]:Heap})) rfl) (by kernel_rfl)
theorem sameMR_loop(a b:List Term)(hn:a.length<9223372036854775807)(he:a.length=b.length):∀(post q:List Term)(i:Nat)(hd:a.drop i=post)(hq:b.drop i=q)(T:Env)(hT:Has T [(0,.sl .sh (a.map encM)),(1,.sl .sh (b.map encM)),(5,.int .i64 i)]),
 Goes cfg a114 k114_0 T Heap.nil (IsRet (.bool (same2 eqM post q))):=by
 intro post
 induction post with
 |nil=>
  intro q i hd hq T hT
  have hge:=drop_ge hd
  have e:q=[]:=by rw[←hq];exact List.drop_eq_nil_of_le (by omega)
  subst e
  exact goG 60 _ hT (.len (show lenA false (.sl .sh (a.map encM))=some (.int .i64 (↑a.length))from len_map _)<|.no (decide_eq_false (p:=(↑i:Int)<(↑a.length:Int)) (by omega))<|.fin ((.ret (.bool true),{boxes:=[],toks:=[],loops:=[]:Heap})) rfl) (by kernel_rfl)
 |cons x post ih=>
  intro q i hd hq T hT
  have hlt:=drop_lt hd
  have hnx:=drop_next hd
  cases q with
  |nil=>have:=drop_ge hq;omega
  |cons y q=>
   have hnq:=drop_next hq
   exact let ζ1:Heap:={boxes:=[],toks:=[],loops:=[]:Heap};goG 60 _ hT (.len (show lenA false (.sl .sh (a.map encM))=some (.int .i64 (↑a.length))from len_map _)<|.yes (decide_eq_true (p:=(↑i:Int)<(↑a.length:Int)) (by omega))<|.idx (show idxA 3 (.sl .sh (a.map encM)) (.int .i64 ↑i)=some (.ref (encM x).cells)from idx_row hd (by rfl))<|.idx (show idxA 3 (.sl .sh (b.map encM)) (.int .i64 ↑i)=some (.ref (encM y).cells)from idx_row hq (by rfl))<|.split ((if true=true then !(x.op==y.op&&(x.key==y.key&&(x.val==y.val&&true)))else x.op==y.op&&(x.key==y.key&&(x.val==y.val&&true)))=true) (fun h1=>.yes (show(if true=true then !(x.op==y.op&&(x.key==y.key&&(x.val==y.val&&true)))else x.op==y.op&&(x.key==y.key&&(x.val==y.val&&true)))=true from h1)<|.fin ((.ret (.bool false),ζ1)) (by simp only[IsRet];grind[same2,eqM])) (fun h1=>.no (show(if true=true then !(x.op==y.op&&(x.key==y.key&&(x.val==y.val&&true)))else x.op==y.op&&(x.key==y.key&&(x.val==y.val&&true)))=false from Bool.eq_false_iff.2 h1)<|.bin (show binA .add (.int .i64 ↑i) (.int .i64 1)=some (.int .i64 (↑(i+1)))from inc_i (by omega))<|.cutQ k114_0 [(0,.sl .sh (a.map encM)),(1,.sl .sh (b.map encM)),(5,.int .i64 (↑(i+1)))] (ζ1) (fun T hT=>(ih (q) (i+(1:Nat)) hnx hnq T hT).to (by grind[same2,eqM])))) (by kernel_rfl)
theorem sameMR(a b:List Term)(hn:a.length<9223372036854775807):Gives cfg 114 [.sl .sh (a.map encM),.sl .sh (b.map encM)] (.bool (same2 eqM a b)):=by
 refine Gives.run (l114 _ _) ?_
 by_cases he:a.length=b.length
 ·have h:=sameMR_loop a b hn he a b 0 rfl rfl
  exact goG 60 [] trivial (.len (show lenA false (.sl .sh (a.map encM))=some (.int .i64 (↑a.length))from len_map _)<|.len (show lenA false (.sl .sh (b.map encM))=some (.int .i64 (↑b.length))from len_map _)<|.no (show((↑a.length:Int) !=(↑b.length:Int))=false from Bool.eq_false_iff.2 (by simp[he]))<|.cutQ k114_0 [(0,.sl .sh (a.map encM)),(1,.sl .sh (b.map encM)),(5,.int .i64 0)] ({boxes:=[],toks:=[],loops:=[]:Heap}) (fun T hT=>(h T hT))) (by kernel_rfl)
 ·rw[same2_len he]
  exact goG 60 [] trivial (.len (show lenA false (.sl .sh (a.map encM))=some (.int .i64 (↑a.length))from len_map _)<|.len (show lenA false (.sl .sh (b.map encM))=some (.int .i64 (↑b.length))from len_map _)<|.yes (show((↑a.length:Int) !=(↑b.length:Int))=true from(by simp;omega))<|.fin ((.ret (.bool false),{boxes:=[],toks:=[],loops:=[]:Heap})) rfl) (by kernel_rfl)
theorem sameLR_loop(a b:List Tol)(hn:a.length<9223372036854775807)(he:a.length=b.length):∀(post q:List Tol)(i:Nat)(hd:a.drop i=post)(hq:b.drop i=q)(T:Env)(hT:Has T [(0,.sl .sh (a.map encL)),(1,.sl .sh (b.map encL)),(5,.int .i64 i)]),
 Goes cfg a115 k115_0 T Heap.nil (IsRet (.bool (same2 eqL post q))):=by
 intro post
 induction post with
 |nil=>
  intro q i hd hq T hT
  have hge:=drop_ge hd
  have e:q=[]:=by rw[←hq];exact List.drop_eq_nil_of_le (by omega)
  subst e
  exact goG 60 _ hT (.len (show lenA false (.sl .sh (a.map encL))=some (.int .i64 (↑a.length))from len_map _)<|.no (decide_eq_false (p:=(↑i:Int)<(↑a.length:Int)) (by omega))<|.fin ((.ret (.bool true),{boxes:=[],toks:=[],loops:=[]:Heap})) rfl) (by kernel_rfl)
 |cons x post ih=>
  intro q i hd hq T hT
  have hlt:=drop_lt hd
  have hnx:=drop_next hd
  cases q with
  |nil=>have:=drop_ge hq;omega
  |cons y q=>
   have hnq:=drop_next hq
   exact let ζ1:Heap:={boxes:=[],toks:=[],loops:=[]:Heap};goG 60 _ hT (.len (show lenA false (.sl .sh (a.map encL))=some (.int .i64 (↑a.length))from len_map _)<|.yes (decide_eq_true (p:=(↑i:Int)<(↑a.length:Int)) (by omega))<|.idx (show idxA 3 (.sl .sh (a.map encL)) (.int .i64 ↑i)=some (.ref (encL x).cells)from idx_row hd (by rfl))<|.idx (show idxA 3 (.sl .sh (b.map encL)) (.int .i64 ↑i)=some (.ref (encL y).cells)from idx_row hq (by rfl))<|.split ((if true=true then !(x.key==y.key&&(x.val==y.val&&(x.any==y.any&&true)))else x.key==y.key&&(x.val==y.val&&(x.any==y.any&&true)))=true) (fun h1=>.yes (show(if true=true then !(x.key==y.key&&(x.val==y.val&&(x.any==y.any&&true)))else x.key==y.key&&(x.val==y.val&&(x.any==y.any&&true)))=true from h1)<|.fin ((.ret (.bool false),ζ1)) (by simp only[IsRet];grind[same2,eqL])) (fun h1=>.no (show(if true=true then !(x.key==y.key&&(x.val==y.val&&(x.any==y.any&&true)))else x.key==y.key&&(x.val==y.val&&(x.any==y.any&&true)))=false from Bool.eq_false_iff.2 h1)<|.bin (show binA .add (.int .i64 ↑i) (.int .i64 1)=some (.int .i64 (↑(i+1)))from inc_i (by omega))<|.cutQ k115_0 [(0,.sl .sh (a.map encL)),(1,.sl .sh (b.map encL)),(5,.int .i64 (↑(i+1)))] (ζ1) (fun T hT=>(ih (q) (i+(1:Nat)) hnx hnq T hT).to (by grind[same2,eqL])))) (by kernel_rfl)
theorem sameLR(a b:List Tol)(hn:a.length<9223372036854775807):Gives cfg 115 [.sl .sh (a.map encL),.sl .sh (b.map encL)] (.bool (same2 eqL a b)):=by
 refine Gives.run (l115 _ _) ?_
 by_cases he:a.length=b.length
 ·have h:=sameLR_loop a b hn he a b 0 rfl rfl
  exact goG 60 [] trivial (.len (show lenA false (.sl .sh (a.map encL))=some (.int .i64 (↑a.length))from len_map _)<|.len (show lenA false (.sl .sh (b.map encL))=some (.int .i64 (↑b.length))from len_map _)<|.no (show((↑a.length:Int) !=(↑b.length:Int))=false from Bool.eq_false_iff.2 (by simp[he]))<|.cutQ k115_0 [(0,.sl .sh (a.map encL)),(1,.sl .sh (b.map encL)),(5,.int .i64 0)] ({boxes:=[],toks:=[],loops:=[]:Heap}) (fun T hT=>(h T hT))) (by kernel_rfl)
 ·rw[same2_len he]
  exact goG 60 [] trivial (.len (show lenA false (.sl .sh (a.map encL))=some (.int .i64 (↑a.length))from len_map _)<|.len (show lenA false (.sl .sh (b.map encL))=some (.int .i64 (↑b.length))from len_map _)<|.yes (show((↑a.length:Int) !=(↑b.length:Int))=true from(by simp;omega))<|.fin ((.ret (.bool false),{boxes:=[],toks:=[],loops:=[]:Heap})) rfl) (by kernel_rfl)
end Go.Aa.T
