/-
  WHAT THE LAW LEANS ON, part 7 of 11: a machine of values and its soundness; the functions of the law upon it; what they come to.
-/
import Derived.Test.YtjoblbpgpmknmaaGreatDoorXchgf
set_option linter.unusedVariables false
set_option linter.unusedSimpArgs false
set_option maxRecDepth 100000
namespace Go.Aa.T
open Go.Aa Go.Proofs
def few{α:Type}(f:α→List UInt8×List UInt8)(l:List α):Bool:=l.all fun x=>decide ((f x).1.length≤50)&&decide ((f x).2.length≤50)
def fewT(l:List Taint):Bool:=decide (l.length≤20)&&few (fun t=>(t.key,t.val)) l
def fewL(l:List Tol):Bool:=decide (l.length≤20)&&few (fun t=>(t.key,t.val)) l
theorem fewT_loop(l:List Taint)(hn:l.length≤20):∀(post:List Taint)(i:Nat)(hd:l.drop i=post)(T:Env)(hT:Has T [(0,.sl .sh (l.map encT)),(3,.int .i64 i)]),
 Goes cfg a166 k166_0 T Heap.nil (IsRet (.bool (few (fun t=>(t.key,t.val)) post))):=by
 intro post
 induction post with
 |nil=>
  intro i hd T hT
  have hge:=drop_ge hd
  exact goG 60 _ hT (.len (show lenA false (.sl .sh (l.map encT))=some (.int .i64 (↑l.length))from len_map _)<|.no (decide_eq_false (p:=(↑i:Int)<(↑l.length:Int)) (by omega))<|.fin ((.ret (.bool true),{boxes:=[],toks:=[],loops:=[]:Heap})) rfl) (by kernel_rfl)
 |cons x post ih=>
  intro i hd T hT
  have hlt:=drop_lt hd
  have hnx:=drop_next hd
  exact let ζ1:Heap:={boxes:=[],toks:=[],loops:=[]:Heap};goG 60 _ hT (.len (show lenA false (.sl .sh (l.map encT))=some (.int .i64 (↑l.length))from len_map _)<|.yes (decide_eq_true (p:=(↑i:Int)<(↑l.length:Int)) (by omega))<|.idx (show idxA 3 (.sl .sh (l.map encT)) (.int .i64 ↑i)=some (.ref (encT x).cells)from idx_row hd (by rfl))<|.len (show lenA true (.str x.key)=some (.int .i64 (↑x.key.length))from len_str _)<|.split ((50:Int)<(↑x.key.length:Int)) (fun h1=>.yes (decide_eq_true (p:=(50:Int)<(↑x.key.length:Int)) h1)<|.tt<|.fin ((.ret (.bool false),ζ1)) (by simp only[IsRet];grind[few])) (fun h1=>.no (decide_eq_false (p:=(50:Int)<(↑x.key.length:Int)) h1)<|.idx (show idxA 3 (.sl .sh (l.map encT)) (.int .i64 ↑i)=some (.ref (encT x).cells)from idx_row hd (by rfl))<|.len (show lenA true (.str x.val)=some (.int .i64 (↑x.val.length))from len_str _)<|.split ((50:Int)<(↑x.val.length:Int)) (fun h2=>.yes (decide_eq_true (p:=(50:Int)<(↑x.val.length:Int)) h2)<|.fin ((.ret (.bool false),ζ1)) (by simp only[IsRet];grind[few])) (fun h2=>.no (decide_eq_false (p:=(50:Int)<(↑x.val.length:Int)) h2)<|.bin (show binA .add (.int .i64 ↑i) (.int .i64 1)=some (.int .i64 (↑(i+1)))from inc_i (by omega))<|.cutQ k166_0 [(0,.sl .sh (l.map encT)),(3,.int .i64 (↑(i+1)))] (ζ1) (fun T hT=>(ih (i+(1:Nat)) hnx T hT).to (by grind[few]))))) (by kernel_rfl)
theorem fewL_loop(l:List Tol)(hn:l.length≤20):∀(post:List Tol)(i:Nat)(hd:l.drop i=post)(T:Env)(hT:Has T [(0,.sl .sh (l.map encL)),(3,.int .i64 i)]),
 Goes cfg a65 k65_0 T Heap.nil (IsRet (.bool (few (fun t=>(t.key,t.val)) post))):=by
 intro post
 induction post with
 |nil=>
  intro i hd T hT
  have hge:=drop_ge hd
  exact goG 60 _ hT (.len (show lenA false (.sl .sh (l.map encL))=some (.int .i64 (↑l.length))from len_map _)<|.no (decide_eq_false (p:=(↑i:Int)<(↑l.length:Int)) (by omega))<|.fin ((.ret (.bool true),{boxes:=[],toks:=[],loops:=[]:Heap})) rfl) (by kernel_rfl)
 |cons x post ih=>
  intro i hd T hT
  have hlt:=drop_lt hd
  have hnx:=drop_next hd
  exact let ζ1:Heap:={boxes:=[],toks:=[],loops:=[]:Heap};goG 60 _ hT (.len (show lenA false (.sl .sh (l.map encL))=some (.int .i64 (↑l.length))from len_map _)<|.yes (decide_eq_true (p:=(↑i:Int)<(↑l.length:Int)) (by omega))<|.idx (show idxA 3 (.sl .sh (l.map encL)) (.int .i64 ↑i)=some (.ref (encL x).cells)from idx_row hd (by rfl))<|.len (show lenA true (.str x.key)=some (.int .i64 (↑x.key.length))from len_str _)<|.split ((50:Int)<(↑x.key.length:Int)) (fun h1=>.yes (decide_eq_true (p:=(50:Int)<(↑x.key.length:Int)) h1)<|.tt<|.fin ((.ret (.bool false),ζ1)) (by simp only[IsRet];grind[few])) (fun h1=>.no (decide_eq_false (p:=(50:Int)<(↑x.key.length:Int)) h1)<|.idx (show idxA 3 (.sl .sh (l.map encL)) (.int .i64 ↑i)=some (.ref (encL x).cells)from idx_row hd (by rfl))<|.len (show lenA true (.str x.val)=some (.int .i64 (↑x.val.length))from len_str _)<|.split ((50:Int)<(↑x.val.length:Int)) (fun h2=>.yes (decide_eq_true (p:=(50:Int)<(↑x.val.length:Int)) h2)<|.fin ((.ret (.bool false),ζ1)) (by simp only[IsRet];grind[few])) (fun h2=>.no (decide_eq_false (p:=(50:Int)<(↑x.val.length:Int)) h2)<|.bin (show binA .add (.int .i64 ↑i) (.int .i64 1)=some (.int .i64 (↑(i+1)))from inc_i (by omega))<|.cutQ k65_0 [(0,.sl .sh (l.map encL)),(3,.int .i64 (↑(i+1)))] (ζ1) (fun T hT=>(ih (i+(1:Nat)) hnx T hT).to (by grind[few]))))) (by kernel_rfl)
theorem fewT_any(l:List Taint):Gives cfg 166 [.sl .sh (l.map encT)] (.bool (fewT l)):=by
 refine Gives.run (l166 _ _) ?_
 have h:=fun hn=>fewT_loop l hn l 0 rfl
 exact let ζ1:Heap:={boxes:=[],toks:=[],loops:=[]:Heap};goG 60 [] trivial (.len (show lenA false (.sl .sh (l.map encT))=some (.int .i64 (↑l.length))from len_map _)<|.split ((20:Int)<(↑l.length:Int)) (fun h1=>.yes (decide_eq_true (p:=(20:Int)<(↑l.length:Int)) h1)<|.fin ((.ret (.bool false),ζ1)) (by simp only[IsRet];grind[fewT])) (fun h1=>.no (decide_eq_false (p:=(20:Int)<(↑l.length:Int)) h1)<|.cutQ k166_0 [(0,.sl .sh (l.map encT)),(3,.int .i64 0)] (ζ1) (fun T hT=>(h (by omega) T hT).to (by grind[fewT])))) (by kernel_rfl)
theorem fewL_any(l:List Tol):Gives cfg 65 [.sl .sh (l.map encL)] (.bool (fewL l)):=by
 refine Gives.run (l65 _ _) ?_
 have h:=fun hn=>fewL_loop l hn l 0 rfl
 exact let ζ1:Heap:={boxes:=[],toks:=[],loops:=[]:Heap};goG 60 [] trivial (.len (show lenA false (.sl .sh (l.map encL))=some (.int .i64 (↑l.length))from len_map _)<|.split ((20:Int)<(↑l.length:Int)) (fun h1=>.yes (decide_eq_true (p:=(20:Int)<(↑l.length:Int)) h1)<|.fin ((.ret (.bool false),ζ1)) (by simp only[IsRet];grind[fewL])) (fun h1=>.no (decide_eq_false (p:=(20:Int)<(↑l.length:Int)) h1)<|.cutQ k65_0 [(0,.sl .sh (l.map encL)),(3,.int .i64 0)] (ζ1) (fun T hT=>(h (by omega) T hT).to (by grind[fewL])))) (by kernel_rfl)
theorem ofT_loop(l:List Taint)(hn:l.length≤20):∀(post:List Taint)(i:Nat)(acc:List AV)(hd:l.drop i=post)(ha:acc.length=i)(hl:lenOk 3 acc=true)(T:Env)(hT:Has T [(0,.sl .sh (l.map encT)),(3,rowS Heap.nil acc),(4,.int .i64 i)]),
 Goes cfg a198 k198_0 T (rowH Heap.nil acc) (IsRet (rowS Heap.nil (acc++post.map encT))):=by
 intro post
 induction post with
 |nil=>
  intro i acc hd ha hl T hT
  have hge:=drop_ge hd
  exact goG 60 _ hT (.len (show lenA false (.sl .sh (l.map encT))=some (.int .i64 (↑l.length))from len_map _)<|.no (decide_eq_false (p:=(↑i:Int)<(↑l.length:Int)) (by omega))<|.fin ((.ret (setD (setD (setD (setD (setD (setD (updL T [((0:Nat),.sl .sh (l.map encT)),((3:Nat),rowS Heap.nil acc),((4:Nat),.int .i64 ↑i)]) (some 5) (ev (updL T [((0:Nat),.sl .sh (l.map encT)),((3:Nat),rowS Heap.nil acc),((4:Nat),.int .i64 ↑i)]) (.t 4))) (some 6) (ev (setD (updL T [((0:Nat),.sl .sh (l.map encT)),((3:Nat),rowS Heap.nil acc),((4:Nat),.int .i64 ↑i)]) (some 5) (ev (updL T [((0:Nat),.sl .sh (l.map encT)),((3:Nat),rowS Heap.nil acc),((4:Nat),.int .i64 ↑i)]) (.t 4))) (.t 0))) (some 7) (.int .i64 (↑l.length))) (some 8) (.bool (decide ((↑i:Int)<(↑l.length:Int))))) (some 30) (ev (setD (setD (setD (setD (updL T [((0:Nat),.sl .sh (l.map encT)),((3:Nat),rowS Heap.nil acc),((4:Nat),.int .i64 ↑i)]) (some 5) (ev (updL T [((0:Nat),.sl .sh (l.map encT)),((3:Nat),rowS Heap.nil acc),((4:Nat),.int .i64 ↑i)]) (.t 4))) (some 6) (ev (setD (updL T [((0:Nat),.sl .sh (l.map encT)),((3:Nat),rowS Heap.nil acc),((4:Nat),.int .i64 ↑i)]) (some 5) (ev (updL T [((0:Nat),.sl .sh (l.map encT)),((3:Nat),rowS Heap.nil acc),((4:Nat),.int .i64 ↑i)]) (.t 4))) (.t 0))) (some 7) (.int .i64 (↑l.length))) (some 8) (.bool (decide ((↑i:Int)<(↑l.length:Int))))) (.t 3))) (some 2) (ev (setD (setD (setD (setD (setD (updL T [((0:Nat),.sl .sh (l.map encT)),((3:Nat),rowS Heap.nil acc),((4:Nat),.int .i64 ↑i)]) (some 5) (ev (updL T [((0:Nat),.sl .sh (l.map encT)),((3:Nat),rowS Heap.nil acc),((4:Nat),.int .i64 ↑i)]) (.t 4))) (some 6) (ev (setD (updL T [((0:Nat),.sl .sh (l.map encT)),((3:Nat),rowS Heap.nil acc),((4:Nat),.int .i64 ↑i)]) (some 5) (ev (updL T [((0:Nat),.sl .sh (l.map encT)),((3:Nat),rowS Heap.nil acc),((4:Nat),.int .i64 ↑i)]) (.t 4))) (.t 0))) (some 7) (.int .i64 (↑l.length))) (some 8) (.bool (decide ((↑i:Int)<(↑l.length:Int))))) (some 30) (ev (setD (setD (setD (setD (updL T [((0:Nat),.sl .sh (l.map encT)),((3:Nat),rowS Heap.nil acc),((4:Nat),.int .i64 ↑i)]) (some 5) (ev (updL T [((0:Nat),.sl .sh (l.map encT)),((3:Nat),rowS Heap.nil acc),((4:Nat),.int .i64 ↑i)]) (.t 4))) (some 6) (ev (setD (updL T [((0:Nat),.sl .sh (l.map encT)),((3:Nat),rowS Heap.nil acc),((4:Nat),.int .i64 ↑i)]) (some 5) (ev (updL T [((0:Nat),.sl .sh (l.map encT)),((3:Nat),rowS Heap.nil acc),((4:Nat),.int .i64 ↑i)]) (.t 4))) (.t 0))) (some 7) (.int .i64 (↑l.length))) (some 8) (.bool (decide ((↑i:Int)<(↑l.length:Int))))) (.t 3))) (.t 30)) (2:Nat)),rowH Heap.nil acc)) (by simp only[IsRet,List.map_nil,List.append_nil];rfl)) (by kernel_rfl)
 |cons x post ih=>
  intro i acc hd ha hl T hT
  have hlt:=drop_lt hd
  have hnx:=drop_next hd
  exact goG 60 _ hT (.len (show lenA false (.sl .sh (l.map encT))=some (.int .i64 (↑l.length))from len_map _)<|.yes (decide_eq_true (p:=(↑i:Int)<(↑l.length:Int)) (by simp;omega))<|.idx (show idxA 3 (.sl .sh (l.map encT)) (.int .i64 ↑i)=some (.ref (encT x).cells)from idx_row hd (by rfl))<|.load (rfl:loadA false 1 (rowH Heap.nil acc) (.ref [.str x.key])=some (.str x.key))<|.idx (show idxA 3 (.sl .sh (l.map encT)) (.int .i64 ↑i)=some (.ref (encT x).cells)from idx_row hd (by rfl))<|.load (rfl:loadA false 1 (rowH Heap.nil acc) (.ref [.str x.val])=some (.str x.val))<|.idx (show idxA 3 (.sl .sh (l.map encT)) (.int .i64 ↑i)=some (.ref (encT x).cells)from idx_row hd (by rfl))<|.load (rfl:loadA false 1 (rowH Heap.nil acc) (.ref [.bool x.hard])=some (.bool x.hard))<|.append (show appendA (3:Nat) (40:Nat) (rowH Heap.nil acc) (rowS Heap.nil acc) (.sl .full [.agg [.str x.key,.str x.val,.bool x.hard]])=some ((rowS Heap.nil (acc++[AV.agg [.str x.key,.str x.val,.bool x.hard]]),rowH Heap.nil (acc++[AV.agg [.str x.key,.str x.val,.bool x.hard]])))from row_append (by omega) hl (by rfl) (by rfl))<|.bin (show binA .add (.int .i64 ↑i) (.int .i64 1)=some (.int .i64 (↑(i+1)))from inc_i (by omega))<|.cutQ k198_0 [(0,.sl .sh (l.map encT)),(3,rowS Heap.nil (acc++[AV.agg [.str x.key,.str x.val,.bool x.hard]])),(4,.int .i64 (↑(i+1)))] (rowH Heap.nil (acc++[AV.agg [.str x.key,.str x.val,.bool x.hard]])) (fun T hT=>(ih (i+(1:Nat)) (acc++[AV.agg [.str x.key,.str x.val,.bool x.hard]]) hnx (by simp;omega) (by exact lenOk_snoc (by assumption) rfl) T hT).to (by simp[encT,Taint.cells]))) (by kernel_rfl)
theorem ofL_loop(l:List Tol)(hn:l.length≤20):∀(post:List Tol)(i:Nat)(acc:List AV)(hd:l.drop i=post)(ha:acc.length=i)(hl:lenOk 3 acc=true)(T:Env)(hT:Has T [(0,.sl .sh (l.map encL)),(3,rowS Heap.nil acc),(4,.int .i64 i)]),
 Goes cfg a73 k73_0 T (rowH Heap.nil acc) (IsRet (rowS Heap.nil (acc++post.map encL))):=by
 intro post
 induction post with
 |nil=>
  intro i acc hd ha hl T hT
  have hge:=drop_ge hd
  exact goG 60 _ hT (.len (show lenA false (.sl .sh (l.map encL))=some (.int .i64 (↑l.length))from len_map _)<|.no (decide_eq_false (p:=(↑i:Int)<(↑l.length:Int)) (by omega))<|.fin ((.ret (setD (setD (setD (setD (setD (setD (updL T [((0:Nat),.sl .sh (l.map encL)),((3:Nat),rowS Heap.nil acc),((4:Nat),.int .i64 ↑i)]) (some 5) (ev (updL T [((0:Nat),.sl .sh (l.map encL)),((3:Nat),rowS Heap.nil acc),((4:Nat),.int .i64 ↑i)]) (.t 4))) (some 6) (ev (setD (updL T [((0:Nat),.sl .sh (l.map encL)),((3:Nat),rowS Heap.nil acc),((4:Nat),.int .i64 ↑i)]) (some 5) (ev (updL T [((0:Nat),.sl .sh (l.map encL)),((3:Nat),rowS Heap.nil acc),((4:Nat),.int .i64 ↑i)]) (.t 4))) (.t 0))) (some 7) (.int .i64 (↑l.length))) (some 8) (.bool (decide ((↑i:Int)<(↑l.length:Int))))) (some 30) (ev (setD (setD (setD (setD (updL T [((0:Nat),.sl .sh (l.map encL)),((3:Nat),rowS Heap.nil acc),((4:Nat),.int .i64 ↑i)]) (some 5) (ev (updL T [((0:Nat),.sl .sh (l.map encL)),((3:Nat),rowS Heap.nil acc),((4:Nat),.int .i64 ↑i)]) (.t 4))) (some 6) (ev (setD (updL T [((0:Nat),.sl .sh (l.map encL)),((3:Nat),rowS Heap.nil acc),((4:Nat),.int .i64 ↑i)]) (some 5) (ev (updL T [((0:Nat),.sl .sh (l.map encL)),((3:Nat),rowS Heap.nil acc),((4:Nat),.int .i64 ↑i)]) (.t 4))) (.t 0))) (some 7) (.int .i64 (↑l.length))) (some 8) (.bool (decide ((↑i:Int)<(↑l.length:Int))))) (.t 3))) (some 2) (ev (setD (setD (setD (setD (setD (updL T [((0:Nat),.sl .sh (l.map encL)),((3:Nat),rowS Heap.nil acc),((4:Nat),.int .i64 ↑i)]) (some 5) (ev (updL T [((0:Nat),.sl .sh (l.map encL)),((3:Nat),rowS Heap.nil acc),((4:Nat),.int .i64 ↑i)]) (.t 4))) (some 6) (ev (setD (updL T [((0:Nat),.sl .sh (l.map encL)),((3:Nat),rowS Heap.nil acc),((4:Nat),.int .i64 ↑i)]) (some 5) (ev (updL T [((0:Nat),.sl .sh (l.map encL)),((3:Nat),rowS Heap.nil acc),((4:Nat),.int .i64 ↑i)]) (.t 4))) (.t 0))) (some 7) (.int .i64 (↑l.length))) (some 8) (.bool (decide ((↑i:Int)<(↑l.length:Int))))) (some 30) (ev (setD (setD (setD (setD (updL T [((0:Nat),.sl .sh (l.map encL)),((3:Nat),rowS Heap.nil acc),((4:Nat),.int .i64 ↑i)]) (some 5) (ev (updL T [((0:Nat),.sl .sh (l.map encL)),((3:Nat),rowS Heap.nil acc),((4:Nat),.int .i64 ↑i)]) (.t 4))) (some 6) (ev (setD (updL T [((0:Nat),.sl .sh (l.map encL)),((3:Nat),rowS Heap.nil acc),((4:Nat),.int .i64 ↑i)]) (some 5) (ev (updL T [((0:Nat),.sl .sh (l.map encL)),((3:Nat),rowS Heap.nil acc),((4:Nat),.int .i64 ↑i)]) (.t 4))) (.t 0))) (some 7) (.int .i64 (↑l.length))) (some 8) (.bool (decide ((↑i:Int)<(↑l.length:Int))))) (.t 3))) (.t 30)) (2:Nat)),rowH Heap.nil acc)) (by simp only[IsRet,List.map_nil,List.append_nil];rfl)) (by kernel_rfl)
 |cons x post ih=>
  intro i acc hd ha hl T hT
  have hlt:=drop_lt hd
  have hnx:=drop_next hd
  exact goG 60 _ hT (.len (show lenA false (.sl .sh (l.map encL))=some (.int .i64 (↑l.length))from len_map _)<|.yes (decide_eq_true (p:=(↑i:Int)<(↑l.length:Int)) (by simp;omega))<|.idx (show idxA 3 (.sl .sh (l.map encL)) (.int .i64 ↑i)=some (.ref (encL x).cells)from idx_row hd (by rfl))<|.load (rfl:loadA false 1 (rowH Heap.nil acc) (.ref [.str x.key])=some (.str x.key))<|.idx (show idxA 3 (.sl .sh (l.map encL)) (.int .i64 ↑i)=some (.ref (encL x).cells)from idx_row hd (by rfl))<|.load (rfl:loadA false 1 (rowH Heap.nil acc) (.ref [.str x.val])=some (.str x.val))<|.idx (show idxA 3 (.sl .sh (l.map encL)) (.int .i64 ↑i)=some (.ref (encL x).cells)from idx_row hd (by rfl))<|.load (rfl:loadA false 1 (rowH Heap.nil acc) (.ref [.bool x.any])=some (.bool x.any))<|.append (show appendA (3:Nat) (40:Nat) (rowH Heap.nil acc) (rowS Heap.nil acc) (.sl .full [.agg [.str x.key,.str x.val,.bool x.any]])=some ((rowS Heap.nil (acc++[AV.agg [.str x.key,.str x.val,.bool x.any]]),rowH Heap.nil (acc++[AV.agg [.str x.key,.str x.val,.bool x.any]])))from row_append (by omega) hl (by rfl) (by rfl))<|.bin (show binA .add (.int .i64 ↑i) (.int .i64 1)=some (.int .i64 (↑(i+1)))from inc_i (by omega))<|.cutQ k73_0 [(0,.sl .sh (l.map encL)),(3,rowS Heap.nil (acc++[AV.agg [.str x.key,.str x.val,.bool x.any]])),(4,.int .i64 (↑(i+1)))] (rowH Heap.nil (acc++[AV.agg [.str x.key,.str x.val,.bool x.any]])) (fun T hT=>(ih (i+(1:Nat)) (acc++[AV.agg [.str x.key,.str x.val,.bool x.any]]) hnx (by simp;omega) (by exact lenOk_snoc (by assumption) rfl) T hT).to (by simp[encL,Tol.cells]))) (by kernel_rfl)
theorem ofT_any(l:List Taint)(hn:l.length≤20):Gives cfg 198 [.sl .sh (l.map encT)] (rowS Heap.nil (l.map encT)):=by
 refine Gives.run (l198 _ _) ?_
 have h:=ofT_loop l hn l 0 [] rfl rfl rfl
 exact goG 60 [] trivial (.cutQ k198_0 [(0,.sl .sh (l.map encT)),(3,.sl .full []),(4,.int .i64 0)] ({boxes:=[],toks:=[],loops:=[]:Heap}) (fun T hT=>(h T hT))) (by kernel_rfl)
theorem ofL_any(l:List Tol)(hn:l.length≤20):Gives cfg 73 [.sl .sh (l.map encL)] (rowS Heap.nil (l.map encL)):=by
 refine Gives.run (l73 _ _) ?_
 have h:=ofL_loop l hn l 0 [] rfl rfl rfl
 exact goG 60 [] trivial (.cutQ k73_0 [(0,.sl .sh (l.map encL)),(3,.sl .full []),(4,.int .i64 0)] ({boxes:=[],toks:=[],loops:=[]:Heap}) (fun T hT=>(h T hT))) (by kernel_rfl)
def nameCh(c:UInt8):Bool:=(decide (97≤c.toNat)&&decide (c.toNat≤122))||(decide (48≤c.toNat)&&decide (c.toNat≤57))
def isName(s:List UInt8):Bool:=decide (1≤s.length)&&decide (s.length≤12)&&s.all nameCh
theorem name_loop(s:List UInt8)(hn:s.length≤12):∀(post:List UInt8)(i:Nat)(hd:s.drop i=post)(T:Env)(hT:Has T [(0,.str s),(3,.int .i64 i)]),
 Goes cfg a66 k66_0 T Heap.nil (IsRet (.bool (post.all nameCh))):=by
 intro post
 induction post with
 |nil=>
  intro i hd T hT
  have hge:=drop_ge hd
  exact goG 60 _ hT (.len (show lenA true (.str s)=some (.int .i64 (↑s.length))from len_str _)<|.no (decide_eq_false (p:=(↑i:Int)<(↑s.length:Int)) (by omega))<|.fin ((.ret (.bool true),{boxes:=[],toks:=[],loops:=[]:Heap})) rfl) (by kernel_rfl)
 |cons x post ih=>
  intro i hd T hT
  have hlt:=drop_lt hd
  have hnx:=drop_next hd
  exact let ζ1:Heap:={boxes:=[],toks:=[],loops:=[]:Heap};goG 60 _ hT (.len (show lenA true (.str s)=some (.int .i64 (↑s.length))from len_str _)<|.yes (decide_eq_true (p:=(↑i:Int)<(↑s.length:Int)) (by omega))<|.idxs (show idxsA (.str s) (.int .i64 ↑i)=some (.int .u8 (↑x.toNat))from idx_str hd)<|.split ((↑x.toNat:Int)<(97:Int)) (fun h1=>.yes (decide_eq_true (p:=(↑x.toNat:Int)<(97:Int)) h1)<|.tt<|.idxs (show idxsA (.str s) (.int .i64 ↑i)=some (.int .u8 (↑x.toNat))from idx_str hd)<|.split ((↑x.toNat:Int)<(48:Int)) (fun h2=>.yes (decide_eq_true (p:=(↑x.toNat:Int)<(48:Int)) h2)<|.tt<|.fin ((.ret (.bool false),ζ1)) (by simp only[IsRet];grind[nameCh])) (fun h2=>.no (decide_eq_false (p:=(↑x.toNat:Int)<(48:Int)) h2)<|.idxs (show idxsA (.str s) (.int .i64 ↑i)=some (.int .u8 (↑x.toNat))from idx_str hd)<|.split ((57:Int)<(↑x.toNat:Int)) (fun h3=>.yes (decide_eq_true (p:=(57:Int)<(↑x.toNat:Int)) h3)<|.fin ((.ret (.bool false),ζ1)) (by simp only[IsRet];grind[nameCh])) (fun h3=>.no (decide_eq_false (p:=(57:Int)<(↑x.toNat:Int)) h3)<|.bin (show binA .add (.int .i64 ↑i) (.int .i64 1)=some (.int .i64 (↑(i+1)))from inc_i (by omega))<|.cutQ k66_0 [(0,.str s),(3,.int .i64 (↑(i+1)))] (ζ1) (fun T hT=>(ih (i+(1:Nat)) hnx T hT).to (by grind[nameCh]))))) (fun h1=>.no (decide_eq_false (p:=(↑x.toNat:Int)<(97:Int)) h1)<|.idxs (show idxsA (.str s) (.int .i64 ↑i)=some (.int .u8 (↑x.toNat))from idx_str hd)<|.split ((122:Int)<(↑x.toNat:Int)) (fun h2=>.yes (decide_eq_true (p:=(122:Int)<(↑x.toNat:Int)) h2)<|.idxs (show idxsA (.str s) (.int .i64 ↑i)=some (.int .u8 (↑x.toNat))from idx_str hd)<|.no (decide_eq_false (p:=(↑x.toNat:Int)<(48:Int)) (by omega))<|.idxs (show idxsA (.str s) (.int .i64 ↑i)=some (.int .u8 (↑x.toNat))from idx_str hd)<|.yes (decide_eq_true (p:=(57:Int)<(↑x.toNat:Int)) (by omega))<|.fin ((.ret (.bool false),ζ1)) (by simp only[IsRet];grind[nameCh])) (fun h2=>.no (decide_eq_false (p:=(122:Int)<(↑x.toNat:Int)) h2)<|.ff<|.bin (show binA .add (.int .i64 ↑i) (.int .i64 1)=some (.int .i64 (↑(i+1)))from inc_i (by omega))<|.cutQ k66_0 [(0,.str s),(3,.int .i64 (↑(i+1)))] (ζ1) (fun T hT=>(ih (i+(1:Nat)) hnx T hT).to (by grind[nameCh]))))) (by kernel_rfl)
theorem name_any(s:List UInt8):Gives cfg 66 [.str s] (.bool (isName s)):=by
 refine Gives.run (l66 _ _) ?_
 have h:=fun hn=>name_loop s hn s 0 rfl
 exact let ζ1:Heap:={boxes:=[],toks:=[],loops:=[]:Heap};goG 60 [] trivial (.len (show lenA true (.str s)=some (.int .i64 (↑s.length))from len_str _)<|.split ((↑s.length:Int)<(1:Int)) (fun h1=>.yes (decide_eq_true (p:=(↑s.length:Int)<(1:Int)) h1)<|.tt<|.fin ((.ret (.bool false),ζ1)) (by simp only[IsRet];grind[isName])) (fun h1=>.no (decide_eq_false (p:=(↑s.length:Int)<(1:Int)) h1)<|.len (show lenA true (.str s)=some (.int .i64 (↑s.length))from len_str _)<|.split ((12:Int)<(↑s.length:Int)) (fun h2=>.yes (decide_eq_true (p:=(12:Int)<(↑s.length:Int)) h2)<|.fin ((.ret (.bool false),ζ1)) (by simp only[IsRet];grind[isName])) (fun h2=>.no (decide_eq_false (p:=(12:Int)<(↑s.length:Int)) h2)<|.cutQ k66_0 [(0,.str s),(3,.int .i64 0)] (ζ1) (fun T hT=>(h (by omega) T hT).to (by grind[isName]))))) (by kernel_rfl)
end Go.Aa.T
set_option linter.unusedVariables false
set_option linter.unusedSimpArgs false
set_option maxRecDepth 100000
namespace Go.Aa.T
open Go.Aa Go.Proofs
def _root_.Go.Aa.ScrQ.callI{cfg:Cfg}{A:AFunc}{R:ARes×Heap→Prop}{ys:List AV}{g:FuncId}{v:AV}(h:Gives cfg g ys v)(s:ScrQ cfg A R)(hx:ys.map shut2=ys∧ys.all data2=true:=by exact⟨rfl,rfl⟩)(hv:shutA v=v∧isData v=true:=by exact⟨rfl,rfl⟩):ScrQ cfg A R:=.callG ys v h hx hv s
def _root_.Go.Aa.ScrQ.callK{cfg:Cfg}{A:AFunc}{R:ARes×Heap→Prop}(xs:List AV){ys:List AV}{g:FuncId}{v:AV}(w:AV)(h:Gives cfg g ys v)(s:ScrQ cfg A R)(hx:xs.map shut2=ys∧ys.all data2=true:=by exact⟨rfl,rfl⟩)(hv:shutA v=w∧isData w=true:=by exact⟨rfl,rfl⟩):ScrQ cfg A R:=.callG xs w h hx hv s
def _root_.Go.Aa.ScrQ.callH{cfg:Cfg}{A:AFunc}{R:ARes×Heap→Prop}{ys:List AV}{g:FuncId}{v:AV}(h:Gives cfg g ys v)(hx:ys.map shut2=ys∧ys.all data2=true)(hv:shutA v=v∧isData v=true)(s:ScrQ cfg A R):ScrQ cfg A R:=.callG ys v h hx hv s
def same(x y:Taint):Bool:=decide (y.key=x.key)&&decide (y.val=x.val)
def ckTl(l:List Taint):Nat→List Taint→Int
 |_,[]=>0
 |i,x::post=>if isName x.key&&isName x.val then(if(l.take i).any (same x)then 6 else ckTl l (i+1) post)else 3
def ckT(l:List Taint):Int:=if l.length≤8 then ckTl l 0 l else 4
theorem ckT_loop(l:List Taint)(hn:l.length≤8):∀(post:List Taint)(i:Nat)(hd:l.drop i=post)(T:Env)(hT:Has T [(0,.sl .sh (l.map encT)),(3,.int .i64 i)]),
 Goes cfg a211 k211_0 T Heap.nil (IsRet (.int .i64 (ckTl l i post))):=by
 intro post
 induction post with
 |nil=>
  intro i hd T hT
  have hge:=drop_ge hd
  exact goG 60 _ hT (.len (show lenA false (.sl .sh (l.map encT))=some (.int .i64 (↑l.length))from len_map _)<|.no (decide_eq_false (p:=(↑i:Int)<(↑l.length:Int)) (by omega))<|.fin ((.ret (.int .i64 0),{boxes:=[],toks:=[],loops:=[]:Heap})) rfl) (by kernel_rfl)
 |cons x post ih=>
  intro i hd T hT
  have hlt:=drop_lt hd
  have hnx:=drop_next hd
  have hx:=drop_at hd
  have inner:∀(q:List Taint)(k:Nat)(hk:(l.take i).drop k=q)(T:Env)(hT:Has T [(0,.sl .sh (l.map encT)),(3,.int .i64 i),(4,.int .i64 k)]),
   Goes cfg a211 k211_1 T Heap.nil (IsRet (.int .i64 (if q.any (same x)then 6 else ckTl l (i+1) post))):=by
   intro q
   induction q with
   |nil=>
    intro k hk T hT
    have hge:i≤k:=by have:=drop_ge hk;simp at this;omega
    exact goG 60 _ hT (.no (decide_eq_false (p:=(↑k:Int)<(↑i:Int)) (by omega))<|.bin (show binA .add (.int .i64 ↑i) (.int .i64 1)=some (.int .i64 (↑(i+1)))from inc_i (by omega))<|.cutQ k211_0 [(0,.sl .sh (l.map encT)),(3,.int .i64 (↑(i+1)))] ({boxes:=[],toks:=[],loops:=[]:Heap}) (fun T hT=>(ih (i+(1:Nat)) hnx T hT))) (by kernel_rfl)
   |cons y q ih2=>
    intro k hk T hT
    have hlt2:k<i:=by have:=drop_lt hk;simp at this;omega
    have hnx2:=drop_next hk
    have hy:l[k]?=some y:=by have:=drop_at hk;rw[List.getElem?_take]at this;simpa[hlt2]using this
    exact let ζ1:Heap:={boxes:=[],toks:=[],loops:=[]:Heap};goG 60 _ hT (.yes (decide_eq_true (p:=(↑k:Int)<(↑i:Int)) (by omega))<|.idx (show idxA 3 (.sl .sh (l.map encT)) (.int .i64 ↑k)=some (.ref (encT y).cells)from idx_get hy (by rfl))<|.idx (show idxA 3 (.sl .sh (l.map encT)) (.int .i64 ↑i)=some (.ref (encT x).cells)from idx_row hd (by rfl))<|.split ((y.key==x.key)=true) (fun h1=>.yes (show(y.key==x.key)=true from h1)<|.idx (show idxA 3 (.sl .sh (l.map encT)) (.int .i64 ↑k)=some (.ref (encT y).cells)from idx_get hy (by rfl))<|.idx (show idxA 3 (.sl .sh (l.map encT)) (.int .i64 ↑i)=some (.ref (encT x).cells)from idx_row hd (by rfl))<|.split ((y.val==x.val)=true) (fun h2=>.yes (show(y.val==x.val)=true from h2)<|.fin ((.ret (.int .i64 6),ζ1)) (by simp only[IsRet];grind[same])) (fun h2=>.no (show(y.val==x.val)=false from Bool.eq_false_iff.2 h2)<|.bin (show binA .add (.int .i64 ↑k) (.int .i64 1)=some (.int .i64 (↑(k+(1:Nat)):Int))from inc_i (by omega))<|.cutQ k211_1 [(0,.sl .sh (l.map encT)),(3,.int .i64 ↑i),(4,.int .i64 (↑(k+(1:Nat)):Int))] (ζ1) (fun T hT=>(ih2 (k+(1:Nat)) hnx2 T hT).to (by grind[same])))) (fun h1=>.no (show(y.key==x.key)=false from Bool.eq_false_iff.2 h1)<|.ff<|.bin (show binA .add (.int .i64 ↑k) (.int .i64 1)=some (.int .i64 (↑(k+(1:Nat)):Int))from inc_i (by omega))<|.cutQ k211_1 [(0,.sl .sh (l.map encT)),(3,.int .i64 ↑i),(4,.int .i64 (↑(k+(1:Nat)):Int))] (ζ1) (fun T hT=>(ih2 (k+(1:Nat)) hnx2 T hT).to (by grind[same])))) (by kernel_rfl)
  have inner0:=inner (l.take i) 0 rfl
  exact let ζ1:Heap:={boxes:=[],toks:=[],loops:=[]:Heap};goG 60 _ hT (.len (show lenA false (.sl .sh (l.map encT))=some (.int .i64 (↑l.length))from len_map _)<|.yes (decide_eq_true (p:=(↑i:Int)<(↑l.length:Int)) (by omega))<|.idx (show idxA 3 (.sl .sh (l.map encT)) (.int .i64 ↑i)=some (.ref (encT x).cells)from idx_row hd (by rfl))<|.callI (show Gives cfg (66:FuncId) [.str x.key] (.bool (isName x.key))from name_any _)<|.split (isName x.key=true) (fun h1=>.no (show(!isName x.key)=false from by have hh:isName x.key=true:=h1;simp[hh])<|.idx (show idxA 3 (.sl .sh (l.map encT)) (.int .i64 ↑i)=some (.ref (encT x).cells)from idx_row hd (by rfl))<|.callI (show Gives cfg (66:FuncId) [.str x.val] (.bool (isName x.val))from name_any _)<|.split (isName x.val=true) (fun h2=>.no (show(!isName x.val)=false from by have hh:isName x.val=true:=h2;simp[hh])<|.cutQ k211_1 [(0,.sl .sh (l.map encT)),(3,.int .i64 ↑i),(4,.int .i64 0)] (ζ1) (fun T hT=>(inner0 T hT).to (by grind[ckTl]))) (fun h2=>.yes (show(!isName x.val)=true from by have hh:¬(isName x.val=true):=h2;simp[hh])<|.fin ((.ret (.int .i64 3),ζ1)) (by simp only[IsRet];grind[ckTl]))) (fun h1=>.yes (show(!isName x.key)=true from by have hh:¬(isName x.key=true):=h1;simp[hh])<|.tt<|.fin ((.ret (.int .i64 3),ζ1)) (by simp only[IsRet];grind[ckTl]))) (by kernel_rfl)
theorem ckT_any(l:List Taint):Gives cfg 211 [.sl .sh (l.map encT)] (.int .i64 (ckT l)):=by
 refine Gives.run (l211 _ _) ?_
 have h:=fun hn=>ckT_loop l hn l 0 rfl
 exact let ζ1:Heap:={boxes:=[],toks:=[],loops:=[]:Heap};goG 60 [] trivial (.len (show lenA false (.sl .sh (l.map encT))=some (.int .i64 (↑l.length))from len_map _)<|.split ((8:Int)<(↑l.length:Int)) (fun h1=>.yes (decide_eq_true (p:=(8:Int)<(↑l.length:Int)) h1)<|.fin ((.ret (.int .i64 4),ζ1)) (by simp only[IsRet];grind[ckT])) (fun h1=>.no (decide_eq_false (p:=(8:Int)<(↑l.length:Int)) h1)<|.cutQ k211_0 [(0,.sl .sh (l.map encT)),(3,.int .i64 0)] (ζ1) (fun T hT=>(h (by omega) T hT).to (by grind[ckT])))) (by kernel_rfl)
def okL(x:Tol):Bool:=(decide (x.key=[])||isName x.key)&&(if x.any then decide (x.val=[])else isName x.val)
def ckL(l:List Tol):Int:=if l.length≤8 then(if l.all okL then 0 else 3)else 4
theorem ckL_loop(l:List Tol)(hn:l.length≤8):∀(post:List Tol)(i:Nat)(bs:List (List AV))(hd:l.drop i=post)(T:Env)(hT:Has T [(0,.sl .sh (l.map encL)),(3,.int .i64 i)]),
 Goes cfg a70 k70_0 T ⟨bs,[],[]⟩ (IsRet (.int .i64 (if post.all okL then 0 else 3))):=by
 intro post
 induction post with
 |nil=>
  intro i bs hd T hT
  have hge:=drop_ge hd
  exact goG 60 _ hT (.len (show lenA false (.sl .sh (l.map encL))=some (.int .i64 (↑l.length))from len_map _)<|.no (decide_eq_false (p:=(↑i:Int)<(↑l.length:Int)) (by omega))<|.fin ((.ret (.int .i64 0),{boxes:=bs,toks:=[],loops:=[]:Heap})) rfl) (by kernel_rfl)
 |cons x post ih=>
  intro i bs hd T hT
  have hlt:=drop_lt hd
  have hnx:=drop_next hd
  exact let ζ2:List AV:=[.str x.key,.str x.val,.bool x.any];let ζ1:Heap:={boxes:=bs++[ζ2],toks:=[],loops:=[]:Heap};goG 60 _ hT (.len (show lenA false (.sl .sh (l.map encL))=some (.int .i64 (↑l.length))from len_map _)<|.yes (decide_eq_true (p:=(↑i:Int)<(↑l.length:Int)) (by omega))<|.idx (show idxA 3 (.sl .sh (l.map encL)) (.int .i64 ↑i)=some (.ref (encL x).cells)from idx_row hd (by rfl))<|.load (rfl:loadA true 3 {boxes:=bs,toks:=[],loops:=[]:Heap} (.ref ζ2)=some (.agg ζ2))<|.store (show storeA 3 {boxes:=bs++[[AV.str [],.str [],.bool false]],toks:=[],loops:=[]:Heap} (.ptr bs.length (0:Nat)) (.agg ζ2)=some (ζ1)from store_box2 (cs:=[.str [],.str [],.bool false]) (cs':=ζ2) (by simp+zetaDelta) rfl (by simp+zetaDelta [List.set_append]))<|.load (show loadA false 1 ζ1 (.ptr bs.length (0:Nat))=some (.str x.key)from load_box (cs:=ζ2) (by simp+zetaDelta) rfl)<|.split ((x.key==[])=true) (fun h1=>.no (show(!x.key==[])=false from by have hh:(x.key==[])=true:=h1;simp[hh])<|.ff<|.load (show loadA false 1 ζ1 (.ptr bs.length (2:Nat))=some (.bool x.any)from load_box (cs:=ζ2) (by simp+zetaDelta) rfl)<|.split (x.any=true) (fun h2=>.yes (show(x.any)=true from h2)<|.load (show loadA false 1 ζ1 (.ptr bs.length (1:Nat))=some (.str x.val)from load_box (cs:=ζ2) (by simp+zetaDelta) rfl)<|.split ((x.val==[])=true) (fun h3=>.no (show(!x.val==[])=false from by have hh:(x.val==[])=true:=h3;simp[hh])<|.load (show loadA false 1 ζ1 (.ptr bs.length (2:Nat))=some (.bool x.any)from load_box (cs:=ζ2) (by simp+zetaDelta) rfl)<|.no (show(!x.any)=false from by have hh:x.any=true:=(by omega);simp[hh])<|.ff<|.bin (show binA .add (.int .i64 ↑i) (.int .i64 1)=some (.int .i64 (↑(i+1)))from inc_i (by omega))<|.cutQ k70_0 [(0,.sl .sh (l.map encL)),(3,.int .i64 (↑(i+1)))] (ζ1) (fun T hT=>(ih (i+(1:Nat)) (bs++[ζ2]) hnx T hT).to (by grind[okL]))) (fun h3=>.yes (show(!x.val==[])=true from by have hh:¬((x.val==[])=true):=h3;simp[hh])<|.tt<|.fin ((.ret (.int .i64 3),ζ1)) (by simp only[IsRet];grind[okL]))) (fun h2=>.no (show(x.any)=false from Bool.eq_false_iff.2 h2)<|.ff<|.load (show loadA false 1 ζ1 (.ptr bs.length (2:Nat))=some (.bool x.any)from load_box (cs:=ζ2) (by simp+zetaDelta) rfl)<|.yes (show(!x.any)=true from by have hh:¬(x.any=true):=(by omega);simp[hh])<|.load (show loadA false 1 ζ1 (.ptr bs.length (1:Nat))=some (.str x.val)from load_box (cs:=ζ2) (by simp+zetaDelta) rfl)<|.callI (show Gives cfg (66:FuncId) [.str x.val] (.bool (isName x.val))from name_any _)<|.split (isName x.val=true) (fun h3=>.no (show(!isName x.val)=false from by have hh:isName x.val=true:=h3;simp[hh])<|.bin (show binA .add (.int .i64 ↑i) (.int .i64 1)=some (.int .i64 (↑(i+1)))from inc_i (by omega))<|.cutQ k70_0 [(0,.sl .sh (l.map encL)),(3,.int .i64 (↑(i+1)))] (ζ1) (fun T hT=>(ih (i+(1:Nat)) (bs++[ζ2]) hnx T hT).to (by grind[okL]))) (fun h3=>.yes (show(!isName x.val)=true from by have hh:¬(isName x.val=true):=h3;simp[hh])<|.fin ((.ret (.int .i64 3),ζ1)) (by simp only[IsRet];grind[okL])))) (fun h1=>.yes (show(!x.key==[])=true from by have hh:¬((x.key==[])=true):=h1;simp[hh])<|.load (show loadA false 1 ζ1 (.ptr bs.length (0:Nat))=some (.str x.key)from load_box (cs:=ζ2) (by simp+zetaDelta) rfl)<|.callI (show Gives cfg (66:FuncId) [.str x.key] (.bool (isName x.key))from name_any _)<|.split (isName x.key=true) (fun h2=>.no (show(!isName x.key)=false from by have hh:isName x.key=true:=h2;simp[hh])<|.load (show loadA false 1 ζ1 (.ptr bs.length (2:Nat))=some (.bool x.any)from load_box (cs:=ζ2) (by simp+zetaDelta) rfl)<|.split (x.any=true) (fun h3=>.yes (show(x.any)=true from h3)<|.load (show loadA false 1 ζ1 (.ptr bs.length (1:Nat))=some (.str x.val)from load_box (cs:=ζ2) (by simp+zetaDelta) rfl)<|.split ((x.val==[])=true) (fun h4=>.no (show(!x.val==[])=false from by have hh:(x.val==[])=true:=h4;simp[hh])<|.load (show loadA false 1 ζ1 (.ptr bs.length (2:Nat))=some (.bool x.any)from load_box (cs:=ζ2) (by simp+zetaDelta) rfl)<|.no (show(!x.any)=false from by have hh:x.any=true:=(by omega);simp[hh])<|.ff<|.bin (show binA .add (.int .i64 ↑i) (.int .i64 1)=some (.int .i64 (↑(i+1)))from inc_i (by omega))<|.cutQ k70_0 [(0,.sl .sh (l.map encL)),(3,.int .i64 (↑(i+1)))] (ζ1) (fun T hT=>(ih (i+(1:Nat)) (bs++[ζ2]) hnx T hT).to (by grind[okL]))) (fun h4=>.yes (show(!x.val==[])=true from by have hh:¬((x.val==[])=true):=h4;simp[hh])<|.tt<|.fin ((.ret (.int .i64 3),ζ1)) (by simp only[IsRet];grind[okL]))) (fun h3=>.no (show(x.any)=false from Bool.eq_false_iff.2 h3)<|.ff<|.load (show loadA false 1 ζ1 (.ptr bs.length (2:Nat))=some (.bool x.any)from load_box (cs:=ζ2) (by simp+zetaDelta) rfl)<|.yes (show(!x.any)=true from by have hh:¬(x.any=true):=(by omega);simp[hh])<|.load (show loadA false 1 ζ1 (.ptr bs.length (1:Nat))=some (.str x.val)from load_box (cs:=ζ2) (by simp+zetaDelta) rfl)<|.callI (show Gives cfg (66:FuncId) [.str x.val] (.bool (isName x.val))from name_any _)<|.split (isName x.val=true) (fun h4=>.no (show(!isName x.val)=false from by have hh:isName x.val=true:=h4;simp[hh])<|.bin (show binA .add (.int .i64 ↑i) (.int .i64 1)=some (.int .i64 (↑(i+1)))from inc_i (by omega))<|.cutQ k70_0 [(0,.sl .sh (l.map encL)),(3,.int .i64 (↑(i+1)))] (ζ1) (fun T hT=>(ih (i+(1:Nat)) (bs++[ζ2]) hnx T hT).to (by grind[okL]))) (fun h4=>.yes (show(!isName x.val)=true from by have hh:¬(isName x.val=true):=h4;simp[hh])<|.fin ((.ret (.int .i64 3),ζ1)) (by simp only[IsRet];grind[okL])))) (fun h2=>.yes (show(!isName x.key)=true from by have hh:¬(isName x.key=true):=h2;simp[hh])<|.tt<|.tt<|.fin ((.ret (.int .i64 3),ζ1)) (by simp only[IsRet];grind[okL])))) (by kernel_rfl)
theorem ckL_any(l:List Tol):Gives cfg 70 [.sl .sh (l.map encL)] (.int .i64 (ckL l)):=by
 refine Gives.run (l70 _ _) ?_
 have h:=fun hn=>ckL_loop l hn l 0 [] rfl
 exact let ζ1:Heap:={boxes:=[],toks:=[],loops:=[]:Heap};goG 60 [] trivial (.len (show lenA false (.sl .sh (l.map encL))=some (.int .i64 (↑l.length))from len_map _)<|.split ((8:Int)<(↑l.length:Int)) (fun h1=>.yes (decide_eq_true (p:=(8:Int)<(↑l.length:Int)) h1)<|.fin ((.ret (.int .i64 4),ζ1)) (by simp only[IsRet];grind[ckL])) (fun h1=>.no (decide_eq_false (p:=(8:Int)<(↑l.length:Int)) h1)<|.cutQ k70_0 [(0,.sl .sh (l.map encL)),(3,.int .i64 0)] (ζ1) (fun T hT=>(h (by omega) T hT).to (by grind[ckL])))) (by kernel_rfl)
end Go.Aa.T
set_option linter.unusedVariables false
set_option linter.unusedSimpArgs false
set_option maxRecDepth 100000
namespace Go.Aa.T
open Go.Aa Go.Proofs
end Go.Aa.T
set_option linter.unusedVariables false
set_option linter.unusedSimpArgs false
set_option maxRecDepth 100000
namespace Go.Aa.T
open Go.Aa Go.Proofs
structure Pair where
 key:List UInt8
 val:List UInt8
structure Term where
 op:Int
 key:List UInt8
 val:List UInt8
def Pair.cells(t:Pair):List AV:=[.str t.key,.str t.val]
def Term.cells(t:Term):List AV:=[.int .i64 t.op,.str t.key,.str t.val]
def encP(t:Pair):AV:=.agg t.cells
def encM(t:Term):AV:=.agg t.cells
def fewP(l:List Pair):Bool:=decide (l.length≤20)&&few (fun t=>(t.key,t.val)) l
def fewM(l:List Term):Bool:=decide (l.length≤20)&&few (fun t=>(t.key,t.val)) l
theorem fewP_len{l:List Pair}(h:fewP l=true):l.length≤20:=by
 simp only[fewP,Bool.and_eq_true,decide_eq_true_eq]at h;exact h.1
theorem fewM_len{l:List Term}(h:fewM l=true):l.length≤20:=by
 simp only[fewM,Bool.and_eq_true,decide_eq_true_eq]at h;exact h.1
theorem fewP_loop(l:List Pair)(hn:l.length≤20):∀(post:List Pair)(i:Nat)(hd:l.drop i=post)(T:Env)(hT:Has T [(0,.sl .sh (l.map encP)),(3,.int .i64 i)]),
 Goes cfg a63 k63_0 T Heap.nil (IsRet (.bool (few (fun t=>(t.key,t.val)) post))):=by
 intro post
 induction post with
 |nil=>
  intro i hd T hT
  have hge:=drop_ge hd
  exact goG 60 _ hT (.len (show lenA false (.sl .sh (l.map encP))=some (.int .i64 (↑l.length))from len_map _)<|.no (decide_eq_false (p:=(↑i:Int)<(↑l.length:Int)) (by omega))<|.fin ((.ret (.bool true),{boxes:=[],toks:=[],loops:=[]:Heap})) rfl) (by kernel_rfl)
 |cons x post ih=>
  intro i hd T hT
  have hlt:=drop_lt hd
  have hnx:=drop_next hd
  exact let ζ1:Heap:={boxes:=[],toks:=[],loops:=[]:Heap};goG 60 _ hT (.len (show lenA false (.sl .sh (l.map encP))=some (.int .i64 (↑l.length))from len_map _)<|.yes (decide_eq_true (p:=(↑i:Int)<(↑l.length:Int)) (by omega))<|.idx (show idxA 2 (.sl .sh (l.map encP)) (.int .i64 ↑i)=some (.ref (encP x).cells)from idx_row hd (by rfl))<|.len (show lenA true (.str x.key)=some (.int .i64 (↑x.key.length))from len_str _)<|.split ((50:Int)<(↑x.key.length:Int)) (fun h1=>.yes (decide_eq_true (p:=(50:Int)<(↑x.key.length:Int)) h1)<|.tt<|.fin ((.ret (.bool false),ζ1)) (by simp only[IsRet];grind[few])) (fun h1=>.no (decide_eq_false (p:=(50:Int)<(↑x.key.length:Int)) h1)<|.idx (show idxA 2 (.sl .sh (l.map encP)) (.int .i64 ↑i)=some (.ref (encP x).cells)from idx_row hd (by rfl))<|.len (show lenA true (.str x.val)=some (.int .i64 (↑x.val.length))from len_str _)<|.split ((50:Int)<(↑x.val.length:Int)) (fun h2=>.yes (decide_eq_true (p:=(50:Int)<(↑x.val.length:Int)) h2)<|.fin ((.ret (.bool false),ζ1)) (by simp only[IsRet];grind[few])) (fun h2=>.no (decide_eq_false (p:=(50:Int)<(↑x.val.length:Int)) h2)<|.bin (show binA .add (.int .i64 ↑i) (.int .i64 1)=some (.int .i64 (↑(i+1)))from inc_i (by omega))<|.cutQ k63_0 [(0,.sl .sh (l.map encP)),(3,.int .i64 (↑(i+1)))] (ζ1) (fun T hT=>(ih (i+(1:Nat)) hnx T hT).to (by grind[few]))))) (by kernel_rfl)
theorem fewM_loop(l:List Term)(hn:l.length≤20):∀(post:List Term)(i:Nat)(hd:l.drop i=post)(T:Env)(hT:Has T [(0,.sl .sh (l.map encM)),(3,.int .i64 i)]),
 Goes cfg a64 k64_0 T Heap.nil (IsRet (.bool (few (fun t=>(t.key,t.val)) post))):=by
 intro post
 induction post with
 |nil=>
  intro i hd T hT
  have hge:=drop_ge hd
  exact goG 60 _ hT (.len (show lenA false (.sl .sh (l.map encM))=some (.int .i64 (↑l.length))from len_map _)<|.no (decide_eq_false (p:=(↑i:Int)<(↑l.length:Int)) (by omega))<|.fin ((.ret (.bool true),{boxes:=[],toks:=[],loops:=[]:Heap})) rfl) (by kernel_rfl)
 |cons x post ih=>
  intro i hd T hT
  have hlt:=drop_lt hd
  have hnx:=drop_next hd
  exact let ζ1:Heap:={boxes:=[],toks:=[],loops:=[]:Heap};goG 60 _ hT (.len (show lenA false (.sl .sh (l.map encM))=some (.int .i64 (↑l.length))from len_map _)<|.yes (decide_eq_true (p:=(↑i:Int)<(↑l.length:Int)) (by omega))<|.idx (show idxA 3 (.sl .sh (l.map encM)) (.int .i64 ↑i)=some (.ref (encM x).cells)from idx_row hd (by rfl))<|.len (show lenA true (.str x.key)=some (.int .i64 (↑x.key.length))from len_str _)<|.split ((50:Int)<(↑x.key.length:Int)) (fun h1=>.yes (decide_eq_true (p:=(50:Int)<(↑x.key.length:Int)) h1)<|.tt<|.fin ((.ret (.bool false),ζ1)) (by simp only[IsRet];grind[few])) (fun h1=>.no (decide_eq_false (p:=(50:Int)<(↑x.key.length:Int)) h1)<|.idx (show idxA 3 (.sl .sh (l.map encM)) (.int .i64 ↑i)=some (.ref (encM x).cells)from idx_row hd (by rfl))<|.len (show lenA true (.str x.val)=some (.int .i64 (↑x.val.length))from len_str _)<|.split ((50:Int)<(↑x.val.length:Int)) (fun h2=>.yes (decide_eq_true (p:=(50:Int)<(↑x.val.length:Int)) h2)<|.fin ((.ret (.bool false),ζ1)) (by simp only[IsRet];grind[few])) (fun h2=>.no (decide_eq_false (p:=(50:Int)<(↑x.val.length:Int)) h2)<|.bin (show binA .add (.int .i64 ↑i) (.int .i64 1)=some (.int .i64 (↑(i+1)))from inc_i (by omega))<|.cutQ k64_0 [(0,.sl .sh (l.map encM)),(3,.int .i64 (↑(i+1)))] (ζ1) (fun T hT=>(ih (i+(1:Nat)) hnx T hT).to (by grind[few]))))) (by kernel_rfl)
theorem fewP_any(l:List Pair):Gives cfg 63 [.sl .sh (l.map encP)] (.bool (fewP l)):=by
 refine Gives.run (l63 _ _) ?_
 have h:=fun hn=>fewP_loop l hn l 0 rfl
 exact let ζ1:Heap:={boxes:=[],toks:=[],loops:=[]:Heap};goG 60 [] trivial (.len (show lenA false (.sl .sh (l.map encP))=some (.int .i64 (↑l.length))from len_map _)<|.split ((20:Int)<(↑l.length:Int)) (fun h1=>.yes (decide_eq_true (p:=(20:Int)<(↑l.length:Int)) h1)<|.fin ((.ret (.bool false),ζ1)) (by simp only[IsRet];grind[fewP])) (fun h1=>.no (decide_eq_false (p:=(20:Int)<(↑l.length:Int)) h1)<|.cutQ k63_0 [(0,.sl .sh (l.map encP)),(3,.int .i64 0)] (ζ1) (fun T hT=>(h (by omega) T hT).to (by grind[fewP])))) (by kernel_rfl)
theorem fewM_any(l:List Term):Gives cfg 64 [.sl .sh (l.map encM)] (.bool (fewM l)):=by
 refine Gives.run (l64 _ _) ?_
 have h:=fun hn=>fewM_loop l hn l 0 rfl
 exact let ζ1:Heap:={boxes:=[],toks:=[],loops:=[]:Heap};goG 60 [] trivial (.len (show lenA false (.sl .sh (l.map encM))=some (.int .i64 (↑l.length))from len_map _)<|.split ((20:Int)<(↑l.length:Int)) (fun h1=>.yes (decide_eq_true (p:=(20:Int)<(↑l.length:Int)) h1)<|.fin ((.ret (.bool false),ζ1)) (by simp only[IsRet];grind[fewM])) (fun h1=>.no (decide_eq_false (p:=(20:Int)<(↑l.length:Int)) h1)<|.cutQ k64_0 [(0,.sl .sh (l.map encM)),(3,.int .i64 0)] (ζ1) (fun T hT=>(h (by omega) T hT).to (by grind[fewM])))) (by kernel_rfl)
theorem ofP_loop(l:List Pair)(hn:l.length≤20):∀(post:List Pair)(i:Nat)(acc:List AV)(hd:l.drop i=post)(ha:acc.length=i)(hl:lenOk 2 acc=true)(T:Env)(hT:Has T [(0,.sl .sh (l.map encP)),(3,rowS Heap.nil acc),(4,.int .i64 i)]),
 Goes cfg a71 k71_0 T (rowH Heap.nil acc) (IsRet (rowS Heap.nil (acc++post.map encP))):=by
 intro post
 induction post with
 |nil=>
  intro i acc hd ha hl T hT
  have hge:=drop_ge hd
  exact goG 60 _ hT (.len (show lenA false (.sl .sh (l.map encP))=some (.int .i64 (↑l.length))from len_map _)<|.no (decide_eq_false (p:=(↑i:Int)<(↑l.length:Int)) (by omega))<|.fin ((.ret (setD (setD (setD (setD (setD (setD (updL T [((0:Nat),.sl .sh (l.map encP)),((3:Nat),rowS Heap.nil acc),((4:Nat),.int .i64 ↑i)]) (some 5) (ev (updL T [((0:Nat),.sl .sh (l.map encP)),((3:Nat),rowS Heap.nil acc),((4:Nat),.int .i64 ↑i)]) (.t 4))) (some 6) (ev (setD (updL T [((0:Nat),.sl .sh (l.map encP)),((3:Nat),rowS Heap.nil acc),((4:Nat),.int .i64 ↑i)]) (some 5) (ev (updL T [((0:Nat),.sl .sh (l.map encP)),((3:Nat),rowS Heap.nil acc),((4:Nat),.int .i64 ↑i)]) (.t 4))) (.t 0))) (some 7) (.int .i64 (↑l.length))) (some 8) (.bool (decide ((↑i:Int)<(↑l.length:Int))))) (some 25) (ev (setD (setD (setD (setD (updL T [((0:Nat),.sl .sh (l.map encP)),((3:Nat),rowS Heap.nil acc),((4:Nat),.int .i64 ↑i)]) (some 5) (ev (updL T [((0:Nat),.sl .sh (l.map encP)),((3:Nat),rowS Heap.nil acc),((4:Nat),.int .i64 ↑i)]) (.t 4))) (some 6) (ev (setD (updL T [((0:Nat),.sl .sh (l.map encP)),((3:Nat),rowS Heap.nil acc),((4:Nat),.int .i64 ↑i)]) (some 5) (ev (updL T [((0:Nat),.sl .sh (l.map encP)),((3:Nat),rowS Heap.nil acc),((4:Nat),.int .i64 ↑i)]) (.t 4))) (.t 0))) (some 7) (.int .i64 (↑l.length))) (some 8) (.bool (decide ((↑i:Int)<(↑l.length:Int))))) (.t 3))) (some 2) (ev (setD (setD (setD (setD (setD (updL T [((0:Nat),.sl .sh (l.map encP)),((3:Nat),rowS Heap.nil acc),((4:Nat),.int .i64 ↑i)]) (some 5) (ev (updL T [((0:Nat),.sl .sh (l.map encP)),((3:Nat),rowS Heap.nil acc),((4:Nat),.int .i64 ↑i)]) (.t 4))) (some 6) (ev (setD (updL T [((0:Nat),.sl .sh (l.map encP)),((3:Nat),rowS Heap.nil acc),((4:Nat),.int .i64 ↑i)]) (some 5) (ev (updL T [((0:Nat),.sl .sh (l.map encP)),((3:Nat),rowS Heap.nil acc),((4:Nat),.int .i64 ↑i)]) (.t 4))) (.t 0))) (some 7) (.int .i64 (↑l.length))) (some 8) (.bool (decide ((↑i:Int)<(↑l.length:Int))))) (some 25) (ev (setD (setD (setD (setD (updL T [((0:Nat),.sl .sh (l.map encP)),((3:Nat),rowS Heap.nil acc),((4:Nat),.int .i64 ↑i)]) (some 5) (ev (updL T [((0:Nat),.sl .sh (l.map encP)),((3:Nat),rowS Heap.nil acc),((4:Nat),.int .i64 ↑i)]) (.t 4))) (some 6) (ev (setD (updL T [((0:Nat),.sl .sh (l.map encP)),((3:Nat),rowS Heap.nil acc),((4:Nat),.int .i64 ↑i)]) (some 5) (ev (updL T [((0:Nat),.sl .sh (l.map encP)),((3:Nat),rowS Heap.nil acc),((4:Nat),.int .i64 ↑i)]) (.t 4))) (.t 0))) (some 7) (.int .i64 (↑l.length))) (some 8) (.bool (decide ((↑i:Int)<(↑l.length:Int))))) (.t 3))) (.t 25)) (2:Nat)),rowH Heap.nil acc)) (by simp only[IsRet,List.map_nil,List.append_nil];rfl)) (by kernel_rfl)
 |cons x post ih=>
  intro i acc hd ha hl T hT
  have hlt:=drop_lt hd
  have hnx:=drop_next hd
  exact goG 60 _ hT (.len (show lenA false (.sl .sh (l.map encP))=some (.int .i64 (↑l.length))from len_map _)<|.yes (decide_eq_true (p:=(↑i:Int)<(↑l.length:Int)) (by simp;omega))<|.idx (show idxA 2 (.sl .sh (l.map encP)) (.int .i64 ↑i)=some (.ref (encP x).cells)from idx_row hd (by rfl))<|.load (rfl:loadA false 1 (rowH Heap.nil acc) (.ref [.str x.key])=some (.str x.key))<|.idx (show idxA 2 (.sl .sh (l.map encP)) (.int .i64 ↑i)=some (.ref (encP x).cells)from idx_row hd (by rfl))<|.load (rfl:loadA false 1 (rowH Heap.nil acc) (.ref [.str x.val])=some (.str x.val))<|.append (show appendA (2:Nat) (32:Nat) (rowH Heap.nil acc) (rowS Heap.nil acc) (.sl .full [.agg [.str x.key,.str x.val]])=some ((rowS Heap.nil (acc++[AV.agg [.str x.key,.str x.val]]),rowH Heap.nil (acc++[AV.agg [.str x.key,.str x.val]])))from row_append (by omega) hl (by rfl) (by rfl))<|.bin (show binA .add (.int .i64 ↑i) (.int .i64 1)=some (.int .i64 (↑(i+1)))from inc_i (by omega))<|.cutQ k71_0 [(0,.sl .sh (l.map encP)),(3,rowS Heap.nil (acc++[AV.agg [.str x.key,.str x.val]])),(4,.int .i64 (↑(i+1)))] (rowH Heap.nil (acc++[AV.agg [.str x.key,.str x.val]])) (fun T hT=>(ih (i+(1:Nat)) (acc++[AV.agg [.str x.key,.str x.val]]) hnx (by simp;omega) (by exact lenOk_snoc (by assumption) rfl) T hT).to (by simp[encP,Pair.cells]))) (by kernel_rfl)
theorem ofM_loop(l:List Term)(hn:l.length≤20):∀(post:List Term)(i:Nat)(acc:List AV)(hd:l.drop i=post)(ha:acc.length=i)(hl:lenOk 3 acc=true)(T:Env)(hT:Has T [(0,.sl .sh (l.map encM)),(3,rowS Heap.nil acc),(4,.int .i64 i)]),
 Goes cfg a72 k72_0 T (rowH Heap.nil acc) (IsRet (rowS Heap.nil (acc++post.map encM))):=by
 intro post
 induction post with
 |nil=>
  intro i acc hd ha hl T hT
  have hge:=drop_ge hd
  exact goG 60 _ hT (.len (show lenA false (.sl .sh (l.map encM))=some (.int .i64 (↑l.length))from len_map _)<|.no (decide_eq_false (p:=(↑i:Int)<(↑l.length:Int)) (by omega))<|.fin ((.ret (setD (setD (setD (setD (setD (setD (updL T [((0:Nat),.sl .sh (l.map encM)),((3:Nat),rowS Heap.nil acc),((4:Nat),.int .i64 ↑i)]) (some 5) (ev (updL T [((0:Nat),.sl .sh (l.map encM)),((3:Nat),rowS Heap.nil acc),((4:Nat),.int .i64 ↑i)]) (.t 4))) (some 6) (ev (setD (updL T [((0:Nat),.sl .sh (l.map encM)),((3:Nat),rowS Heap.nil acc),((4:Nat),.int .i64 ↑i)]) (some 5) (ev (updL T [((0:Nat),.sl .sh (l.map encM)),((3:Nat),rowS Heap.nil acc),((4:Nat),.int .i64 ↑i)]) (.t 4))) (.t 0))) (some 7) (.int .i64 (↑l.length))) (some 8) (.bool (decide ((↑i:Int)<(↑l.length:Int))))) (some 30) (ev (setD (setD (setD (setD (updL T [((0:Nat),.sl .sh (l.map encM)),((3:Nat),rowS Heap.nil acc),((4:Nat),.int .i64 ↑i)]) (some 5) (ev (updL T [((0:Nat),.sl .sh (l.map encM)),((3:Nat),rowS Heap.nil acc),((4:Nat),.int .i64 ↑i)]) (.t 4))) (some 6) (ev (setD (updL T [((0:Nat),.sl .sh (l.map encM)),((3:Nat),rowS Heap.nil acc),((4:Nat),.int .i64 ↑i)]) (some 5) (ev (updL T [((0:Nat),.sl .sh (l.map encM)),((3:Nat),rowS Heap.nil acc),((4:Nat),.int .i64 ↑i)]) (.t 4))) (.t 0))) (some 7) (.int .i64 (↑l.length))) (some 8) (.bool (decide ((↑i:Int)<(↑l.length:Int))))) (.t 3))) (some 2) (ev (setD (setD (setD (setD (setD (updL T [((0:Nat),.sl .sh (l.map encM)),((3:Nat),rowS Heap.nil acc),((4:Nat),.int .i64 ↑i)]) (some 5) (ev (updL T [((0:Nat),.sl .sh (l.map encM)),((3:Nat),rowS Heap.nil acc),((4:Nat),.int .i64 ↑i)]) (.t 4))) (some 6) (ev (setD (updL T [((0:Nat),.sl .sh (l.map encM)),((3:Nat),rowS Heap.nil acc),((4:Nat),.int .i64 ↑i)]) (some 5) (ev (updL T [((0:Nat),.sl .sh (l.map encM)),((3:Nat),rowS Heap.nil acc),((4:Nat),.int .i64 ↑i)]) (.t 4))) (.t 0))) (some 7) (.int .i64 (↑l.length))) (some 8) (.bool (decide ((↑i:Int)<(↑l.length:Int))))) (some 30) (ev (setD (setD (setD (setD (updL T [((0:Nat),.sl .sh (l.map encM)),((3:Nat),rowS Heap.nil acc),((4:Nat),.int .i64 ↑i)]) (some 5) (ev (updL T [((0:Nat),.sl .sh (l.map encM)),((3:Nat),rowS Heap.nil acc),((4:Nat),.int .i64 ↑i)]) (.t 4))) (some 6) (ev (setD (updL T [((0:Nat),.sl .sh (l.map encM)),((3:Nat),rowS Heap.nil acc),((4:Nat),.int .i64 ↑i)]) (some 5) (ev (updL T [((0:Nat),.sl .sh (l.map encM)),((3:Nat),rowS Heap.nil acc),((4:Nat),.int .i64 ↑i)]) (.t 4))) (.t 0))) (some 7) (.int .i64 (↑l.length))) (some 8) (.bool (decide ((↑i:Int)<(↑l.length:Int))))) (.t 3))) (.t 30)) (2:Nat)),rowH Heap.nil acc)) (by simp only[IsRet,List.map_nil,List.append_nil];rfl)) (by kernel_rfl)
 |cons x post ih=>
  intro i acc hd ha hl T hT
  have hlt:=drop_lt hd
  have hnx:=drop_next hd
  exact goG 60 _ hT (.len (show lenA false (.sl .sh (l.map encM))=some (.int .i64 (↑l.length))from len_map _)<|.yes (decide_eq_true (p:=(↑i:Int)<(↑l.length:Int)) (by simp;omega))<|.idx (show idxA 3 (.sl .sh (l.map encM)) (.int .i64 ↑i)=some (.ref (encM x).cells)from idx_row hd (by rfl))<|.load (rfl:loadA false 1 (rowH Heap.nil acc) (.ref [.int .i64 x.op])=some (.int .i64 x.op))<|.idx (show idxA 3 (.sl .sh (l.map encM)) (.int .i64 ↑i)=some (.ref (encM x).cells)from idx_row hd (by rfl))<|.load (rfl:loadA false 1 (rowH Heap.nil acc) (.ref [.str x.key])=some (.str x.key))<|.idx (show idxA 3 (.sl .sh (l.map encM)) (.int .i64 ↑i)=some (.ref (encM x).cells)from idx_row hd (by rfl))<|.load (rfl:loadA false 1 (rowH Heap.nil acc) (.ref [.str x.val])=some (.str x.val))<|.append (show appendA (3:Nat) (40:Nat) (rowH Heap.nil acc) (rowS Heap.nil acc) (.sl .full [.agg [.int .i64 x.op,.str x.key,.str x.val]])=some ((rowS Heap.nil (acc++[AV.agg [.int .i64 x.op,.str x.key,.str x.val]]),rowH Heap.nil (acc++[AV.agg [.int .i64 x.op,.str x.key,.str x.val]])))from row_append (by omega) hl (by rfl) (by rfl))<|.bin (show binA .add (.int .i64 ↑i) (.int .i64 1)=some (.int .i64 (↑(i+1)))from inc_i (by omega))<|.cutQ k72_0 [(0,.sl .sh (l.map encM)),(3,rowS Heap.nil (acc++[AV.agg [.int .i64 x.op,.str x.key,.str x.val]])),(4,.int .i64 (↑(i+1)))] (rowH Heap.nil (acc++[AV.agg [.int .i64 x.op,.str x.key,.str x.val]])) (fun T hT=>(ih (i+(1:Nat)) (acc++[AV.agg [.int .i64 x.op,.str x.key,.str x.val]]) hnx (by simp;omega) (by exact lenOk_snoc (by assumption) rfl) T hT).to (by simp[encM,Term.cells]))) (by kernel_rfl)
theorem ofP_any(l:List Pair)(hn:l.length≤20):Gives cfg 71 [.sl .sh (l.map encP)] (rowS Heap.nil (l.map encP)):=by
 refine Gives.run (l71 _ _) ?_
 have h:=ofP_loop l hn l 0 [] rfl rfl rfl
 exact goG 60 [] trivial (.cutQ k71_0 [(0,.sl .sh (l.map encP)),(3,.sl .full []),(4,.int .i64 0)] ({boxes:=[],toks:=[],loops:=[]:Heap}) (fun T hT=>(h T hT))) (by kernel_rfl)
theorem ofM_any(l:List Term)(hn:l.length≤20):Gives cfg 72 [.sl .sh (l.map encM)] (rowS Heap.nil (l.map encM)):=by
 refine Gives.run (l72 _ _) ?_
 have h:=ofM_loop l hn l 0 [] rfl rfl rfl
 exact goG 60 [] trivial (.cutQ k72_0 [(0,.sl .sh (l.map encM)),(3,.sl .full []),(4,.int .i64 0)] ({boxes:=[],toks:=[],loops:=[]:Heap}) (fun T hT=>(h T hT))) (by kernel_rfl)
def ordB(s:List Pair)(i:Nat)(x:Pair):Bool:=match i with
 |0=>false
 |j+1=>match s[j]? with
  |some p=>Op.bytesLess x.key p.key||x.key==p.key
  |none=>false
def ckSl(s:List Pair):Nat→List Pair→Int
 |_,[]=>0
 |i,x::post=>if isName x.key&&isName x.val then(if ordB s i x then 13 else ckSl s (i+1) post)else 3
def ckS(s:List Pair):Int:=if s.length≤8 then ckSl s 0 s else 4
theorem dec_i{i:Nat}(h:i<9223372036854775807):binA .sub (.int .i64 ((i+1:Nat):Int)) (.int .i64 1)=some (.int .i64 (i:Int)):=by
 rw[subI (by omega) (by omega)];congr 2;omega
theorem ckS_ref_loop(l:List Pair)(hn:l.length≤8):∀(post:List Pair)(i:Nat)(hd:l.drop i=post)(T:Env)(hT:Has T [(0,.sl .sh (l.map encP)),(3,.int .i64 i)]),
 Goes cfg a68 k68_0 T Heap.nil (IsRet (.int .i64 (ckSl l i post))):=by
 intro post
 induction post with
 |nil=>
  intro i hd T hT
  have hge:=drop_ge hd
  exact goG 60 _ hT (.len (show lenA false (.sl .sh (l.map encP))=some (.int .i64 (↑l.length))from len_map _)<|.no (decide_eq_false (p:=(↑i:Int)<(↑l.length:Int)) (by omega))<|.fin ((.ret (.int .i64 0),{boxes:=[],toks:=[],loops:=[]:Heap})) rfl) (by kernel_rfl)
 |cons x post ih=>
  intro i hd T hT
  have hlt:=drop_lt hd
  have hnx:=drop_next hd
  cases i with
  |zero=>exact let ζ1:Heap:={boxes:=[],toks:=[],loops:=[]:Heap};goG 60 _ hT (.len (show lenA false (.sl .sh (l.map encP))=some (.int .i64 (↑l.length))from len_map _)<|.yes (decide_eq_true (p:=(↑(0:Nat):Int)<(↑l.length:Int)) (by omega))<|.idx (show idxA 2 (.sl .sh (l.map encP)) (.int .i64 (↑(0:Nat):Int))=some (.ref (encP x).cells)from idx_row hd (by rfl))<|.callI (show Gives cfg (66:FuncId) [.str x.key] (.bool (isName x.key))from name_any _)<|.split (isName x.key=true) (fun h1=>.no (show(!isName x.key)=false from by have hh:isName x.key=true:=h1;simp[hh])<|.idx (show idxA 2 (.sl .sh (l.map encP)) (.int .i64 (↑(0:Nat):Int))=some (.ref (encP x).cells)from idx_row hd (by rfl))<|.callI (show Gives cfg (66:FuncId) [.str x.val] (.bool (isName x.val))from name_any _)<|.split (isName x.val=true) (fun h2=>.no (show(!isName x.val)=false from by have hh:isName x.val=true:=h2;simp[hh])<|.ff<|.ff<|.bin (show binA .add (.int .i64 (↑(0:Nat):Int)) (.int .i64 1)=some (.int .i64 (↑((0:Nat)+(1:Nat)):Int))from inc_i (by omega))<|.cutQ k68_0 [(0,.sl .sh (l.map encP)),(3,.int .i64 (↑((0:Nat)+(1:Nat)):Int))] (ζ1) (fun T hT=>(ih ((0:Nat)+(1:Nat)) hnx T hT).to (by grind[ckSl,ordB]))) (fun h2=>.yes (show(!isName x.val)=true from by have hh:¬(isName x.val=true):=h2;simp[hh])<|.fin ((.ret (.int .i64 3),ζ1)) (by simp only[IsRet];grind[ckSl,ordB]))) (fun h1=>.yes (show(!isName x.key)=true from by have hh:¬(isName x.key=true):=h1;simp[hh])<|.tt<|.fin ((.ret (.int .i64 3),ζ1)) (by simp only[IsRet];grind[ckSl,ordB]))) (by kernel_rfl)
  |succ j=>
   obtain⟨p,hp⟩:∃p,l[j]?=some p:=⟨l[j],List.getElem?_eq_getElem (by omega)⟩
   exact let ζ1:Heap:={boxes:=[],toks:=[],loops:=[]:Heap};goG 60 _ hT (.len (show lenA false (.sl .sh (l.map encP))=some (.int .i64 (↑l.length))from len_map _)<|.yes (decide_eq_true (p:=(↑(j+(1:Nat)):Int)<(↑l.length:Int)) (by omega))<|.idx (show idxA 2 (.sl .sh (l.map encP)) (.int .i64 (↑(j+(1:Nat)):Int))=some (.ref (encP x).cells)from idx_row hd (by rfl))<|.callI (show Gives cfg (66:FuncId) [.str x.key] (.bool (isName x.key))from name_any _)<|.split (isName x.key=true) (fun h1=>.no (show(!isName x.key)=false from by have hh:isName x.key=true:=h1;simp[hh])<|.idx (show idxA 2 (.sl .sh (l.map encP)) (.int .i64 (↑(j+(1:Nat)):Int))=some (.ref (encP x).cells)from idx_row hd (by rfl))<|.callI (show Gives cfg (66:FuncId) [.str x.val] (.bool (isName x.val))from name_any _)<|.split (isName x.val=true) (fun h2=>.no (show(!isName x.val)=false from by have hh:isName x.val=true:=h2;simp[hh])<|.yes (decide_eq_true (p:=(0:Int)<(↑(j+(1:Nat)):Int)) (by omega))<|.idx (show idxA 2 (.sl .sh (l.map encP)) (.int .i64 (↑(j+(1:Nat)):Int))=some (.ref (encP x).cells)from idx_row hd (by rfl))<|.bin (show binA .sub (.int .i64 (↑(j+(1:Nat)):Int)) (.int .i64 1)=some (.int .i64 ↑j)from dec_i (by omega))<|.idx (show idxA 2 (.sl .sh (l.map encP)) (.int .i64 ↑j)=some (.ref (encP p).cells)from idx_get hp (by rfl))<|.split ((Op.bytesLess x.key p.key||x.key==p.key)=true) (fun h3=>.yes (show(Op.bytesLess x.key p.key||x.key==p.key)=true from h3)<|.fin ((.ret (.int .i64 13),ζ1)) (by simp only[IsRet];grind[ckSl,ordB])) (fun h3=>.no (show(Op.bytesLess x.key p.key||x.key==p.key)=false from Bool.eq_false_iff.2 h3)<|.bin (show binA .add (.int .i64 (↑(j+(1:Nat)):Int)) (.int .i64 1)=some (.int .i64 (↑(j+(1:Nat)+(1:Nat)):Int))from inc_i (by omega))<|.cutQ k68_0 [(0,.sl .sh (l.map encP)),(3,.int .i64 (↑(j+(1:Nat)+(1:Nat)):Int))] (ζ1) (fun T hT=>(ih (j+(1:Nat)+(1:Nat)) hnx T hT).to (by grind[ckSl,ordB])))) (fun h2=>.yes (show(!isName x.val)=true from by have hh:¬(isName x.val=true):=h2;simp[hh])<|.fin ((.ret (.int .i64 3),ζ1)) (by simp only[IsRet];grind[ckSl,ordB]))) (fun h1=>.yes (show(!isName x.key)=true from by have hh:¬(isName x.key=true):=h1;simp[hh])<|.tt<|.fin ((.ret (.int .i64 3),ζ1)) (by simp only[IsRet];grind[ckSl,ordB]))) (by kernel_rfl)
theorem ckS_ref(l:List Pair):Gives cfg 68 [.sl .sh (l.map encP)] (.int .i64 (ckS l)):=by
 refine Gives.run (l68 _ _) ?_
 have h:=fun hn=>ckS_ref_loop l hn l 0 rfl
 exact let ζ1:Heap:={boxes:=[],toks:=[],loops:=[]:Heap};goG 60 [] trivial (.len (show lenA false (.sl .sh (l.map encP))=some (.int .i64 (↑l.length))from len_map _)<|.split ((8:Int)<(↑l.length:Int)) (fun h1=>.yes (decide_eq_true (p:=(8:Int)<(↑l.length:Int)) h1)<|.fin ((.ret (.int .i64 4),ζ1)) (by simp only[IsRet];grind[ckS])) (fun h1=>.no (decide_eq_false (p:=(8:Int)<(↑l.length:Int)) h1)<|.cutQ k68_0 [(0,.sl .sh (l.map encP)),(3,.int .i64 0)] (ζ1) (fun T hT=>(h (by omega) T hT).to (by grind[ckS])))) (by kernel_rfl)
def valOk(x:Term):Bool:=if x.op≤2 then isName x.val else decide (x.val=[])
def ckMl:List Term→Int
 |[]=>0
 |x::post=>if 1≤x.op∧x.op≤4 then(if isName x.key&&valOk x then ckMl post else 3)else 1
def ckM(l:List Term):Int:=if l.length≤8 then ckMl l else 4
theorem ckM_ref_loop(l:List Term)(hn:l.length≤8):∀(post:List Term)(i:Nat)(bs:List (List AV))(hd:l.drop i=post)(T:Env)(hT:Has T [(0,.sl .sh (l.map encM)),(3,.int .i64 i)]),
 Goes cfg a69 k69_0 T ⟨bs,[],[]⟩ (IsRet (.int .i64 (ckMl post))):=by
 intro post
 induction post with
 |nil=>
  intro i bs hd T hT
  have hge:=drop_ge hd
  exact goG 60 _ hT (.len (show lenA false (.sl .sh (l.map encM))=some (.int .i64 (↑l.length))from len_map _)<|.no (decide_eq_false (p:=(↑i:Int)<(↑l.length:Int)) (by omega))<|.fin ((.ret (.int .i64 0),{boxes:=bs,toks:=[],loops:=[]:Heap})) rfl) (by kernel_rfl)
 |cons x post ih=>
  intro i bs hd T hT
  have hlt:=drop_lt hd
  have hnx:=drop_next hd
  exact let ζ2:List AV:=[.int .i64 x.op,.str x.key,.str x.val];let ζ1:Heap:={boxes:=bs++[ζ2],toks:=[],loops:=[]:Heap};goG 60 _ hT (.len (show lenA false (.sl .sh (l.map encM))=some (.int .i64 (↑l.length))from len_map _)<|.yes (decide_eq_true (p:=(↑i:Int)<(↑l.length:Int)) (by omega))<|.idx (show idxA 3 (.sl .sh (l.map encM)) (.int .i64 ↑i)=some (.ref (encM x).cells)from idx_row hd (by rfl))<|.load (rfl:loadA true 3 {boxes:=bs,toks:=[],loops:=[]:Heap} (.ref ζ2)=some (.agg ζ2))<|.store (show storeA 3 {boxes:=bs++[[AV.int .i64 0,.str [],.str []]],toks:=[],loops:=[]:Heap} (.ptr bs.length (0:Nat)) (.agg ζ2)=some (ζ1)from store_box2 (cs:=[.int .i64 0,.str [],.str []]) (cs':=ζ2) (by simp+zetaDelta) rfl (by simp+zetaDelta [List.set_append]))<|.load (show loadA false 1 ζ1 (.ptr bs.length (0:Nat))=some (.int .i64 x.op)from load_box (cs:=ζ2) (by simp+zetaDelta) rfl)<|.split (x.op<(1:Int)) (fun h1=>.yes (decide_eq_true (p:=x.op<(1:Int)) h1)<|.tt<|.fin ((.ret (.int .i64 1),ζ1)) (by simp only[IsRet];grind[ckMl,valOk])) (fun h1=>.no (decide_eq_false (p:=x.op<(1:Int)) h1)<|.load (show loadA false 1 ζ1 (.ptr bs.length (0:Nat))=some (.int .i64 x.op)from load_box (cs:=ζ2) (by simp+zetaDelta) rfl)<|.split ((4:Int)<x.op) (fun h2=>.yes (decide_eq_true (p:=(4:Int)<x.op) h2)<|.fin ((.ret (.int .i64 1),ζ1)) (by simp only[IsRet];grind[ckMl,valOk])) (fun h2=>.no (decide_eq_false (p:=(4:Int)<x.op) h2)<|.load (show loadA false 1 ζ1 (.ptr bs.length (1:Nat))=some (.str x.key)from load_box (cs:=ζ2) (by simp+zetaDelta) rfl)<|.callI (show Gives cfg (66:FuncId) [.str x.key] (.bool (isName x.key))from name_any _)<|.split (isName x.key=true) (fun h3=>.no (show(!isName x.key)=false from by have hh:isName x.key=true:=h3;simp[hh])<|.load (show loadA false 1 ζ1 (.ptr bs.length (0:Nat))=some (.int .i64 x.op)from load_box (cs:=ζ2) (by simp+zetaDelta) rfl)<|.split (x.op≤(2:Int)) (fun h4=>.yes (decide_eq_true (p:=x.op≤(2:Int)) h4)<|.load (show loadA false 1 ζ1 (.ptr bs.length (2:Nat))=some (.str x.val)from load_box (cs:=ζ2) (by simp+zetaDelta) rfl)<|.callI (show Gives cfg (66:FuncId) [.str x.val] (.bool (isName x.val))from name_any _)<|.split (isName x.val=true) (fun h5=>.no (show(!isName x.val)=false from by have hh:isName x.val=true:=h5;simp[hh])<|.load (show loadA false 1 ζ1 (.ptr bs.length (0:Nat))=some (.int .i64 x.op)from load_box (cs:=ζ2) (by simp+zetaDelta) rfl)<|.no (decide_eq_false (p:=(3:Int)≤x.op) (by omega))<|.ff<|.bin (show binA .add (.int .i64 ↑i) (.int .i64 1)=some (.int .i64 (↑(i+1)))from inc_i (by omega))<|.cutQ k69_0 [(0,.sl .sh (l.map encM)),(3,.int .i64 (↑(i+1)))] (ζ1) (fun T hT=>(ih (i+(1:Nat)) (bs++[ζ2]) hnx T hT).to (by grind[ckMl,valOk]))) (fun h5=>.yes (show(!isName x.val)=true from by have hh:¬(isName x.val=true):=h5;simp[hh])<|.tt<|.fin ((.ret (.int .i64 3),ζ1)) (by simp only[IsRet];grind[ckMl,valOk]))) (fun h4=>.no (decide_eq_false (p:=x.op≤(2:Int)) h4)<|.ff<|.load (show loadA false 1 ζ1 (.ptr bs.length (0:Nat))=some (.int .i64 x.op)from load_box (cs:=ζ2) (by simp+zetaDelta) rfl)<|.yes (decide_eq_true (p:=(3:Int)≤x.op) (by omega))<|.load (show loadA false 1 ζ1 (.ptr bs.length (2:Nat))=some (.str x.val)from load_box (cs:=ζ2) (by simp+zetaDelta) rfl)<|.split ((x.val==[])=true) (fun h5=>.no (show(!x.val==[])=false from by have hh:(x.val==[])=true:=h5;simp[hh])<|.bin (show binA .add (.int .i64 ↑i) (.int .i64 1)=some (.int .i64 (↑(i+1)))from inc_i (by omega))<|.cutQ k69_0 [(0,.sl .sh (l.map encM)),(3,.int .i64 (↑(i+1)))] (ζ1) (fun T hT=>(ih (i+(1:Nat)) (bs++[ζ2]) hnx T hT).to (by grind[ckMl,valOk]))) (fun h5=>.yes (show(!x.val==[])=true from by have hh:¬((x.val==[])=true):=h5;simp[hh])<|.fin ((.ret (.int .i64 3),ζ1)) (by simp only[IsRet];grind[ckMl,valOk])))) (fun h3=>.yes (show(!isName x.key)=true from by have hh:¬(isName x.key=true):=h3;simp[hh])<|.tt<|.tt<|.fin ((.ret (.int .i64 3),ζ1)) (by simp only[IsRet];grind[ckMl,valOk]))))) (by kernel_rfl)
theorem ckM_ref(l:List Term):Gives cfg 69 [.sl .sh (l.map encM)] (.int .i64 (ckM l)):=by
 refine Gives.run (l69 _ _) ?_
 have h:=fun hn=>ckM_ref_loop l hn l 0 [] rfl
 exact let ζ1:Heap:={boxes:=[],toks:=[],loops:=[]:Heap};goG 60 [] trivial (.len (show lenA false (.sl .sh (l.map encM))=some (.int .i64 (↑l.length))from len_map _)<|.split ((8:Int)<(↑l.length:Int)) (fun h1=>.yes (decide_eq_true (p:=(8:Int)<(↑l.length:Int)) h1)<|.fin ((.ret (.int .i64 4),ζ1)) (by simp only[IsRet];grind[ckM])) (fun h1=>.no (decide_eq_false (p:=(8:Int)<(↑l.length:Int)) h1)<|.cutQ k69_0 [(0,.sl .sh (l.map encM)),(3,.int .i64 0)] (ζ1) (fun T hT=>(h (by omega) T hT).to (by grind[ckM])))) (by kernel_rfl)
end Go.Aa.T
set_option linter.unusedVariables false
set_option linter.unusedSimpArgs false
set_option maxRecDepth 100000
namespace Go.Aa.T
open Go.Aa Go.Proofs
end Go.Aa.T
set_option linter.unusedVariables false
set_option linter.unusedSimpArgs false
set_option maxRecDepth 100000
namespace Go.Aa.T
open Go.Aa Go.Proofs
theorem fewT_len{l:List Taint}(h:fewT l=true):l.length≤20:=by
 simp only[fewT,Bool.and_eq_true,decide_eq_true_eq]at h;exact h.1
theorem fewL_len{l:List Tol}(h:fewL l=true):l.length≤20:=by
 simp only[fewL,Bool.and_eq_true,decide_eq_true_eq]at h;exact h.1
theorem in0_data{nb nt:Nat}:∀{x:AV},data0 x=true→in0 nb nt x=true
 |.undef,h=>by cases h
 |.bool _,_=>rfl
 |.int ..,_=>rfl
 |.flt _,_=>rfl
 |.nan,_=>rfl
 |.str _,_=>rfl
 |.sl .sh _,_=>rfl
 |.sl .full _,_=>rfl
 |.sl .nil _,h=>by cases h
 |.sl (.own _) _,h=>by cases h
 |.agg _,h=>by cases h
 |.tuple _,h=>by cases h
 |.ptr ..,h=>by cases h
 |.ref _,_=>rfl
 |.nilptr,_=>rfl
 |.func ..,h=>by cases h
 |.nilFunc,_=>rfl
 |.iface ..,h=>by cases h
 |.nilIface,_=>rfl
 |.msl ..,h=>by cases h
 |.yield _,h=>by cases h
theorem in2_data0{nb nt:Nat}{x:AV}(h:data0 x=true):in2 nb nt x=true:=by
 have:=in0_data (nb:=nb) (nt:=nt) h
 cases x<;>first|exact this|cases h
section
variable{H:Heap}{k:Nat}{p:Taint→Bool}
end
end Go.Aa.T
set_option linter.unusedVariables false
set_option linter.unusedSimpArgs false
set_option maxRecDepth 100000
namespace Go.Aa.T
open Go.Aa Go.Proofs
end Go.Aa.T
set_option linter.unusedVariables false
set_option linter.unusedSimpArgs false
set_option maxRecDepth 100000
namespace Go.Aa.T
open Go.Aa Go.Proofs
structure Amount where
 name:List UInt8
 n:Int
def encA(x:Amount):AV:=.agg [.str x.name,.int .i64 x.n]
instance(x:Amount):Dat (encA x):=⟨rfl,rfl⟩
theorem lenA2{l:List Amount}:lenOk 2 (l.map encA)=true:=lenOk_map fun _=>rfl
def ordV(s:List Amount)(i:Nat)(x:Amount):Bool:=match i with
 |0=>false
 |j+1=>match s[j]? with
  |some p=>Op.bytesLess x.name p.name||x.name==p.name
  |none=>false
def ckVl(s:List Amount):Nat→List Amount→Int
 |_,[]=>0
 |i,x::post=>if isName x.name then(if x.n≤0 then 1 else if ordV s i x then 13 else ckVl s (i+1) post)else 3
def ckV(s:List Amount):Int:=if s.length≤8 then ckVl s 0 s else 4
theorem ckV_ref_loop(l:List Amount)(hn:l.length≤8):∀(post:List Amount)(i:Nat)(hd:l.drop i=post)(T:Env)(hT:Has T [(0,.sl .sh (l.map encA)),(3,.int .i64 i)]),
 Goes cfg a67 k67_0 T Heap.nil (IsRet (.int .i64 (ckVl l i post))):=by
 intro post
 induction post with
 |nil=>
  intro i hd T hT
  have hge:=drop_ge hd
  exact goG 60 _ hT (.len (show lenA false (.sl .sh (l.map encA))=some (.int .i64 (↑l.length))from len_map _)<|.no (decide_eq_false (p:=(↑i:Int)<(↑l.length:Int)) (by omega))<|.fin ((.ret (.int .i64 0),{boxes:=[],toks:=[],loops:=[]:Heap})) rfl) (by kernel_rfl)
 |cons x post ih=>
  intro i hd T hT
  have hlt:=drop_lt hd
  have hnx:=drop_next hd
  cases i with
  |zero=>exact let ζ1:Heap:={boxes:=[],toks:=[],loops:=[]:Heap};goG 60 _ hT (.len (show lenA false (.sl .sh (l.map encA))=some (.int .i64 (↑l.length))from len_map _)<|.yes (decide_eq_true (p:=(↑(0:Nat):Int)<(↑l.length:Int)) (by omega))<|.idx (show idxA 2 (.sl .sh (l.map encA)) (.int .i64 (↑(0:Nat):Int))=some (.ref (encA x).cells)from idx_row hd (by rfl))<|.callI (show Gives cfg (66:FuncId) [.str x.name] (.bool (isName x.name))from name_any _)<|.split (isName x.name=true) (fun h1=>.no (show(!isName x.name)=false from by have hh:isName x.name=true:=h1;simp[hh])<|.idx (show idxA 2 (.sl .sh (l.map encA)) (.int .i64 (↑(0:Nat):Int))=some (.ref (encA x).cells)from idx_row hd (by rfl))<|.split (x.n≤(0:Int)) (fun h2=>.yes (decide_eq_true (p:=x.n≤(0:Int)) h2)<|.fin ((.ret (.int .i64 1),ζ1)) (by simp only[IsRet];grind[ckVl,ordV])) (fun h2=>.no (decide_eq_false (p:=x.n≤(0:Int)) h2)<|.ff<|.ff<|.bin (show binA .add (.int .i64 (↑(0:Nat):Int)) (.int .i64 1)=some (.int .i64 (↑((0:Nat)+(1:Nat)):Int))from inc_i (by omega))<|.cutQ k67_0 [(0,.sl .sh (l.map encA)),(3,.int .i64 (↑((0:Nat)+(1:Nat)):Int))] (ζ1) (fun T hT=>(ih ((0:Nat)+(1:Nat)) hnx T hT).to (by grind[ckVl,ordV])))) (fun h1=>.yes (show(!isName x.name)=true from by have hh:¬(isName x.name=true):=h1;simp[hh])<|.fin ((.ret (.int .i64 3),ζ1)) (by simp only[IsRet];grind[ckVl,ordV]))) (by kernel_rfl)
  |succ j=>
   obtain⟨p,hp⟩:∃p,l[j]?=some p:=⟨l[j],List.getElem?_eq_getElem (by omega)⟩
   exact let ζ1:Heap:={boxes:=[],toks:=[],loops:=[]:Heap};goG 60 _ hT (.len (show lenA false (.sl .sh (l.map encA))=some (.int .i64 (↑l.length))from len_map _)<|.yes (decide_eq_true (p:=(↑(j+(1:Nat)):Int)<(↑l.length:Int)) (by omega))<|.idx (show idxA 2 (.sl .sh (l.map encA)) (.int .i64 (↑(j+(1:Nat)):Int))=some (.ref (encA x).cells)from idx_row hd (by rfl))<|.callI (show Gives cfg (66:FuncId) [.str x.name] (.bool (isName x.name))from name_any _)<|.split (isName x.name=true) (fun h1=>.no (show(!isName x.name)=false from by have hh:isName x.name=true:=h1;simp[hh])<|.idx (show idxA 2 (.sl .sh (l.map encA)) (.int .i64 (↑(j+(1:Nat)):Int))=some (.ref (encA x).cells)from idx_row hd (by rfl))<|.split (x.n≤(0:Int)) (fun h2=>.yes (decide_eq_true (p:=x.n≤(0:Int)) h2)<|.fin ((.ret (.int .i64 1),ζ1)) (by simp only[IsRet];grind[ckVl,ordV])) (fun h2=>.no (decide_eq_false (p:=x.n≤(0:Int)) h2)<|.yes (decide_eq_true (p:=(0:Int)<(↑(j+(1:Nat)):Int)) (by omega))<|.idx (show idxA 2 (.sl .sh (l.map encA)) (.int .i64 (↑(j+(1:Nat)):Int))=some (.ref (encA x).cells)from idx_row hd (by rfl))<|.bin (show binA .sub (.int .i64 (↑(j+(1:Nat)):Int)) (.int .i64 1)=some (.int .i64 ↑j)from dec_i (by omega))<|.idx (show idxA 2 (.sl .sh (l.map encA)) (.int .i64 ↑j)=some (.ref (encA p).cells)from idx_get hp (by rfl))<|.split ((Op.bytesLess x.name p.name||x.name==p.name)=true) (fun h3=>.yes (show(Op.bytesLess x.name p.name||x.name==p.name)=true from h3)<|.fin ((.ret (.int .i64 13),ζ1)) (by simp only[IsRet];grind[ckVl,ordV])) (fun h3=>.no (show(Op.bytesLess x.name p.name||x.name==p.name)=false from Bool.eq_false_iff.2 h3)<|.bin (show binA .add (.int .i64 (↑(j+(1:Nat)):Int)) (.int .i64 1)=some (.int .i64 (↑(j+(1:Nat)+(1:Nat)):Int))from inc_i (by omega))<|.cutQ k67_0 [(0,.sl .sh (l.map encA)),(3,.int .i64 (↑(j+(1:Nat)+(1:Nat)):Int))] (ζ1) (fun T hT=>(ih (j+(1:Nat)+(1:Nat)) hnx T hT).to (by grind[ckVl,ordV]))))) (fun h1=>.yes (show(!isName x.name)=true from by have hh:¬(isName x.name=true):=h1;simp[hh])<|.fin ((.ret (.int .i64 3),ζ1)) (by simp only[IsRet];grind[ckVl,ordV]))) (by kernel_rfl)
theorem ckV_ref(l:List Amount):Gives cfg 67 [.sl .sh (l.map encA)] (.int .i64 (ckV l)):=by
 refine Gives.run (l67 _ _) ?_
 have h:=fun hn=>ckV_ref_loop l hn l 0 rfl
 exact let ζ1:Heap:={boxes:=[],toks:=[],loops:=[]:Heap};goG 60 [] trivial (.len (show lenA false (.sl .sh (l.map encA))=some (.int .i64 (↑l.length))from len_map _)<|.split ((8:Int)<(↑l.length:Int)) (fun h1=>.yes (decide_eq_true (p:=(8:Int)<(↑l.length:Int)) h1)<|.fin ((.ret (.int .i64 4),ζ1)) (by simp only[IsRet];grind[ckV])) (fun h1=>.no (decide_eq_false (p:=(8:Int)<(↑l.length:Int)) h1)<|.cutQ k67_0 [(0,.sl .sh (l.map encA)),(3,.int .i64 0)] (ζ1) (fun T hT=>(h (by omega) T hT).to (by grind[ckV])))) (by kernel_rfl)
end Go.Aa.T
set_option linter.unusedVariables false
set_option linter.unusedSimpArgs false
set_option maxRecDepth 100000
namespace Go.Aa.T
open Go.Aa Go.Proofs
def firstE:List Int→Int
 |[]=>0
 |x::r=>if x=0 then firstE r else x
end Go.Aa.T
set_option linter.unusedVariables false
set_option linter.unusedSimpArgs false
set_option maxRecDepth 100000
namespace Go.Aa.T
open Go.Aa Go.Proofs
structure Node where
 name:List UInt8
 cap:List Amount
 labels:List Pair
 taints:List Taint
 cordon:Bool
def encN(n:Node):AV:=.agg [.str n.name,.sl .sh (n.cap.map encA),.sl .sh (n.labels.map encP),.sl .sh (n.taints.map encT),.bool n.cordon]
def ckN(n:Node):Int:=firstE [if isName n.name then 0 else 3,ckV n.cap,ckS n.labels,ckT n.taints]
end Go.Aa.T
set_option linter.unusedVariables false
set_option linter.unusedSimpArgs false
set_option maxRecDepth 100000
namespace Go.Aa.T
open Go.Aa Go.Proofs
def same2{X:Type}(e:X→X→Bool):List X→List X→Bool
 |[],[]=>true
 |x::a,y::b=>e x y&&same2 e a b
 |_,_=>false
theorem same2_len{X:Type}{e:X→X→Bool}:∀{a b:List X},a.length≠b.length→same2 e a b=false
 |[],[],h=>absurd rfl h
 |[],_::_,_=>rfl
 |_::_,[],_=>rfl
 |x::a,y::b,h=>by
  simp only[List.length_cons,ne_eq,Nat.add_right_cancel_iff]at h
  simp only[same2,same2_len h,Bool.and_false]
theorem same2_iff{X:Type}{e:X→X→Bool}(he:∀x y,e x y=true↔x=y):∀{a b:List X},same2 e a b=true↔a=b
 |[],[]=>by simp[same2]
 |[],_::_=>by simp[same2]
 |_::_,[]=>by simp[same2]
 |x::a,y::b=>by simp[same2,he,same2_iff he]
def eqA(x y:Amount):Bool:=x.name==y.name&&x.n==y.n
def eqP(x y:Pair):Bool:=x.key==y.key&&x.val==y.val
def eqT(x y:Taint):Bool:=x.key==y.key&&(x.val==y.val&&x.hard==y.hard)
def eqM(x y:Term):Bool:=x.op==y.op&&(x.key==y.key&&x.val==y.val)
def eqL(x y:Tol):Bool:=x.key==y.key&&(x.val==y.val&&x.any==y.any)
theorem eqA_iff(x y:Amount):eqA x y=true↔x=y:=by cases x;cases y;simp[eqA]
theorem eqP_iff(x y:Pair):eqP x y=true↔x=y:=by cases x;cases y;simp[eqP]
theorem eqT_iff(x y:Taint):eqT x y=true↔x=y:=by cases x;cases y;simp[eqT]
theorem eqM_iff(x y:Term):eqM x y=true↔x=y:=by cases x;cases y;simp[eqM]
theorem eqL_iff(x y:Tol):eqL x y=true↔x=y:=by cases x;cases y;simp[eqL]
theorem sameVR_loop(a b:List Amount)(hn:a.length<9223372036854775807)(he:a.length=b.length):∀(post q:List Amount)(i:Nat)(hd:a.drop i=post)(hq:b.drop i=q)(T:Env)(hT:Has T [(0,.sl .sh (a.map encA)),(1,.sl .sh (b.map encA)),(5,.int .i64 i)]),
 Goes cfg a35 k35_0 T Heap.nil (IsRet (.bool (same2 eqA post q))):=by
 intro post
 induction post with
 |nil=>
  intro q i hd hq T hT
  have hge:=drop_ge hd
  have e:q=[]:=by rw[←hq];exact List.drop_eq_nil_of_le (by omega)
  subst e
  exact goG 60 _ hT (.len (show lenA false (.sl .sh (a.map encA))=some (.int .i64 (↑a.length))from len_map _)<|.no (decide_eq_false (p:=(↑i:Int)<(↑a.length:Int)) (by omega))<|.fin ((.ret (.bool true),{boxes:=[],toks:=[],loops:=[]:Heap})) rfl) (by kernel_rfl)
 |cons x post ih=>
  intro q i hd hq T hT
  have hlt:=drop_lt hd
  have hnx:=drop_next hd
  cases q with
  |nil=>have:=drop_ge hq;omega
  |cons y q=>
   have hnq:=drop_next hq
   exact let ζ1:Heap:={boxes:=[],toks:=[],loops:=[]:Heap};goG 60 _ hT (.len (show lenA false (.sl .sh (a.map encA))=some (.int .i64 (↑a.length))from len_map _)<|.yes (decide_eq_true (p:=(↑i:Int)<(↑a.length:Int)) (by omega))<|.idx (show idxA 2 (.sl .sh (a.map encA)) (.int .i64 ↑i)=some (.ref (encA x).cells)from idx_row hd (by rfl))<|.idx (show idxA 2 (.sl .sh (b.map encA)) (.int .i64 ↑i)=some (.ref (encA y).cells)from idx_row hq (by rfl))<|.split ((if true=true then !(x.name==y.name&&(x.n==y.n&&true))else x.name==y.name&&(x.n==y.n&&true))=true) (fun h1=>.yes (show(if true=true then !(x.name==y.name&&(x.n==y.n&&true))else x.name==y.name&&(x.n==y.n&&true))=true from h1)<|.fin ((.ret (.bool false),ζ1)) (by simp only[IsRet];grind[same2,eqA])) (fun h1=>.no (show(if true=true then !(x.name==y.name&&(x.n==y.n&&true))else x.name==y.name&&(x.n==y.n&&true))=false from Bool.eq_false_iff.2 h1)<|.bin (show binA .add (.int .i64 ↑i) (.int .i64 1)=some (.int .i64 (↑(i+1)))from inc_i (by omega))<|.cutQ k35_0 [(0,.sl .sh (a.map encA)),(1,.sl .sh (b.map encA)),(5,.int .i64 (↑(i+1)))] (ζ1) (fun T hT=>(ih (q) (i+(1:Nat)) hnx hnq T hT).to (by grind[same2,eqA])))) (by kernel_rfl)
theorem sameVR(a b:List Amount)(hn:a.length<9223372036854775807):Gives cfg 35 [.sl .sh (a.map encA),.sl .sh (b.map encA)] (.bool (same2 eqA a b)):=by
 refine Gives.run (l35 _ _) ?_
 by_cases he:a.length=b.length
 ·have h:=sameVR_loop a b hn he a b 0 rfl rfl
  exact goG 60 [] trivial (.len (show lenA false (.sl .sh (a.map encA))=some (.int .i64 (↑a.length))from len_map _)<|.len (show lenA false (.sl .sh (b.map encA))=some (.int .i64 (↑b.length))from len_map _)<|.no (show((↑a.length:Int) !=(↑b.length:Int))=false from Bool.eq_false_iff.2 (by simp[he]))<|.cutQ k35_0 [(0,.sl .sh (a.map encA)),(1,.sl .sh (b.map encA)),(5,.int .i64 0)] ({boxes:=[],toks:=[],loops:=[]:Heap}) (fun T hT=>(h T hT))) (by kernel_rfl)
 ·rw[same2_len he]
  exact goG 60 [] trivial (.len (show lenA false (.sl .sh (a.map encA))=some (.int .i64 (↑a.length))from len_map _)<|.len (show lenA false (.sl .sh (b.map encA))=some (.int .i64 (↑b.length))from len_map _)<|.yes (show((↑a.length:Int) !=(↑b.length:Int))=true from(by simp;omega))<|.fin ((.ret (.bool false),{boxes:=[],toks:=[],loops:=[]:Heap})) rfl) (by kernel_rfl)
theorem samePR_loop(a b:List Pair)(hn:a.length<9223372036854775807)(he:a.length=b.length):∀(post q:List Pair)(i:Nat)(hd:a.drop i=post)(hq:b.drop i=q)(T:Env)(hT:Has T [(0,.sl .sh (a.map encP)),(1,.sl .sh (b.map encP)),(5,.int .i64 i)]),
 Goes cfg a113 k113_0 T Heap.nil (IsRet (.bool (same2 eqP post q))):=by
 intro post
 induction post with
 |nil=>
  intro q i hd hq T hT
  have hge:=drop_ge hd
  have e:q=[]:=by rw[←hq];exact List.drop_eq_nil_of_le (by omega)
  subst e
  exact goG 60 _ hT (.len (show lenA false (.sl .sh (a.map encP))=some (.int .i64 (↑a.length))from len_map _)<|.no (decide_eq_false (p:=(↑i:Int)<(↑a.length:Int)) (by omega))<|.fin ((.ret (.bool true),{boxes:=[],toks:=[],loops:=[]:Heap})) rfl) (by kernel_rfl)
 |cons x post ih=>
  intro q i hd hq T hT
  have hlt:=drop_lt hd
  have hnx:=drop_next hd
  cases q with
  |nil=>have:=drop_ge hq;omega
  |cons y q=>
   have hnq:=drop_next hq
   exact let ζ1:Heap:={boxes:=[],toks:=[],loops:=[]:Heap};goG 60 _ hT (.len (show lenA false (.sl .sh (a.map encP))=some (.int .i64 (↑a.length))from len_map _)<|.yes (decide_eq_true (p:=(↑i:Int)<(↑a.length:Int)) (by omega))<|.idx (show idxA 2 (.sl .sh (a.map encP)) (.int .i64 ↑i)=some (.ref (encP x).cells)from idx_row hd (by rfl))<|.idx (show idxA 2 (.sl .sh (b.map encP)) (.int .i64 ↑i)=some (.ref (encP y).cells)from idx_row hq (by rfl))<|.split ((if true=true then !(x.key==y.key&&(x.val==y.val&&true))else x.key==y.key&&(x.val==y.val&&true))=true) (fun h1=>.yes (show(if true=true then !(x.key==y.key&&(x.val==y.val&&true))else x.key==y.key&&(x.val==y.val&&true))=true from h1)<|.fin ((.ret (.bool false),ζ1)) (by simp only[IsRet];grind[same2,eqP])) (fun h1=>.no (show(if true=true then !(x.key==y.key&&(x.val==y.val&&true))else x.key==y.key&&(x.val==y.val&&true))=false from Bool.eq_false_iff.2 h1)<|.bin (show binA .add (.int .i64 ↑i) (.int .i64 1)=some (.int .i64 (↑(i+1)))from inc_i (by omega))<|.cutQ k113_0 [(0,.sl .sh (a.map encP)),(1,.sl .sh (b.map encP)),(5,.int .i64 (↑(i+1)))] (ζ1) (fun T hT=>(ih (q) (i+(1:Nat)) hnx hnq T hT).to (by grind[same2,eqP])))) (by kernel_rfl)
theorem samePR(a b:List Pair)(hn:a.length<9223372036854775807):Gives cfg 113 [.sl .sh (a.map encP),.sl .sh (b.map encP)] (.bool (same2 eqP a b)):=by
 refine Gives.run (l113 _ _) ?_
 by_cases he:a.length=b.length
 ·have h:=samePR_loop a b hn he a b 0 rfl rfl
  exact goG 60 [] trivial (.len (show lenA false (.sl .sh (a.map encP))=some (.int .i64 (↑a.length))from len_map _)<|.len (show lenA false (.sl .sh (b.map encP))=some (.int .i64 (↑b.length))from len_map _)<|.no (show((↑a.length:Int) !=(↑b.length:Int))=false from Bool.eq_false_iff.2 (by simp[he]))<|.cutQ k113_0 [(0,.sl .sh (a.map encP)),(1,.sl .sh (b.map encP)),(5,.int .i64 0)] ({boxes:=[],toks:=[],loops:=[]:Heap}) (fun T hT=>(h T hT))) (by kernel_rfl)
 ·rw[same2_len he]
  exact goG 60 [] trivial (.len (show lenA false (.sl .sh (a.map encP))=some (.int .i64 (↑a.length))from len_map _)<|.len (show lenA false (.sl .sh (b.map encP))=some (.int .i64 (↑b.length))from len_map _)<|.yes (show((↑a.length:Int) !=(↑b.length:Int))=true from(by simp;omega))<|.fin ((.ret (.bool false),{boxes:=[],toks:=[],loops:=[]:Heap})) rfl) (by kernel_rfl)
theorem sameTR_loop(a b:List Taint)(hn:a.length<9223372036854775807)(he:a.length=b.length):∀(post q:List Taint)(i:Nat)(hd:a.drop i=post)(hq:b.drop i=q)(T:Env)(hT:Has T [(0,.sl .sh (a.map encT)),(1,.sl .sh (b.map encT)),(5,.int .i64 i)]),
 Goes cfg a191 k191_0 T Heap.nil (IsRet (.bool (same2 eqT post q))):=by
 intro post
 induction post with
 |nil=>
  intro q i hd hq T hT
  have hge:=drop_ge hd
  have e:q=[]:=by rw[←hq];exact List.drop_eq_nil_of_le (by omega)
  subst e
  exact goG 60 _ hT (.len (show lenA false (.sl .sh (a.map encT))=some (.int .i64 (↑a.length))from len_map _)<|.no (decide_eq_false (p:=(↑i:Int)<(↑a.length:Int)) (by omega))<|.fin ((.ret (.bool true),{boxes:=[],toks:=[],loops:=[]:Heap})) rfl) (by kernel_rfl)
 |cons x post ih=>
  intro q i hd hq T hT
  have hlt:=drop_lt hd
  have hnx:=drop_next hd
  cases q with
  |nil=>have:=drop_ge hq;omega
  |cons y q=>
   have hnq:=drop_next hq
   exact let ζ1:Heap:={boxes:=[],toks:=[],loops:=[]:Heap};goG 60 _ hT (.len (show lenA false (.sl .sh (a.map encT))=some (.int .i64 (↑a.length))from len_map _)<|.yes (decide_eq_true (p:=(↑i:Int)<(↑a.length:Int)) (by omega))<|.idx (show idxA 3 (.sl .sh (a.map encT)) (.int .i64 ↑i)=some (.ref (encT x).cells)from idx_row hd (by rfl))<|.idx (show idxA 3 (.sl .sh (b.map encT)) (.int .i64 ↑i)=some (.ref (encT y).cells)from idx_row hq (by rfl))<|.split ((if true=true then !(x.key==y.key&&(x.val==y.val&&(x.hard==y.hard&&true)))else x.key==y.key&&(x.val==y.val&&(x.hard==y.hard&&true)))=true) (fun h1=>.yes (show(if true=true then !(x.key==y.key&&(x.val==y.val&&(x.hard==y.hard&&true)))else x.key==y.key&&(x.val==y.val&&(x.hard==y.hard&&true)))=true from h1)<|.fin ((.ret (.bool false),ζ1)) (by simp only[IsRet];grind[same2,eqT])) (fun h1=>.no (show(if true=true then !(x.key==y.key&&(x.val==y.val&&(x.hard==y.hard&&true)))else x.key==y.key&&(x.val==y.val&&(x.hard==y.hard&&true)))=false from Bool.eq_false_iff.2 h1)<|.bin (show binA .add (.int .i64 ↑i) (.int .i64 1)=some (.int .i64 (↑(i+1)))from inc_i (by omega))<|.cutQ k191_0 [(0,.sl .sh (a.map encT)),(1,.sl .sh (b.map encT)),(5,.int .i64 (↑(i+1)))] (ζ1) (fun T hT=>(ih (q) (i+(1:Nat)) hnx hnq T hT).to (by grind[same2,eqT])))) (by kernel_rfl)
theorem sameTR(a b:List Taint)(hn:a.length<9223372036854775807):Gives cfg 191 [.sl .sh (a.map encT),.sl .sh (b.map encT)] (.bool (same2 eqT a b)):=by
 refine Gives.run (l191 _ _) ?_
 by_cases he:a.length=b.length
 ·have h:=sameTR_loop a b hn he a b 0 rfl rfl
  exact goG 60 [] trivial (.len (show lenA false (.sl .sh (a.map encT))=some (.int .i64 (↑a.length))from len_map _)<|.len (show lenA false (.sl .sh (b.map encT))=some (.int .i64 (↑b.length))from len_map _)<|.no (show((↑a.length:Int) !=(↑b.length:Int))=false from Bool.eq_false_iff.2 (by simp[he]))<|.cutQ k191_0 [(0,.sl .sh (a.map encT)),(1,.sl .sh (b.map encT)),(5,.int .i64 0)] ({boxes:=[],toks:=[],loops:=[]:Heap}) (fun T hT=>(h T hT))) (by kernel_rfl)
 ·rw[same2_len he]
  exact goG 60 [] trivial (.len (show lenA false (.sl .sh (a.map encT))=some (.int .i64 (↑a.length))from len_map _)<|.len (show lenA false (.sl .sh (b.map encT))=some (.int .i64 (↑b.length))from len_map _)<|.yes (show((↑a.length:Int) !=(↑b.length:Int))=true from(by simp;omega))<|.fin ((.ret (.bool false),{boxes:=[],toks:=[],loops:=[]:Heap})) rfl) (by kernel_rfl)
theorem sameMR_loop(a b:List Term)(hn:a.length<9223372036854775807)(he:a.length=b.length):∀(post q:List Term)(i:Nat)(hd:a.drop i=post)(hq:b.drop i=q)(T:Env)(hT:Has T [(0,.sl .sh (a.map encM)),(1,.sl .sh (b.map encM)),(5,.int .i64 i)]),
 Goes cfg a114 k114_0 T Heap.nil (IsRet (.bool (same2 eqM post q))):=by
 intro post
 induction post with
 |nil=>
  intro q i hd hq T hT
  have hge:=drop_ge hd
  have e:q=[]:=by rw[←hq];exact List.drop_eq_nil_of_le (by omega)
  subst e
  exact goG 60 _ hT (.len (show lenA false (.sl .sh (a.map encM))=some (.int .i64 (↑a.length))from len_map _)<|.no (decide_eq_false (p:=(↑i:Int)<(↑a.length:Int)) (by omega))<|.fin ((.ret (.bool true),{boxes:=[],toks:=[],loops:=[]:Heap})) rfl) (by kernel_rfl)
 |cons x post ih=>
  intro q i hd hq T hT
  have hlt:=drop_lt hd
  have hnx:=drop_next hd
  cases q with
  |nil=>have:=drop_ge hq;omega
  |cons y q=>
   have hnq:=drop_next hq
   exact let ζ1:Heap:={boxes:=[],toks:=[],loops:=[]:Heap};goG 60 _ hT (.len (show lenA false (.sl .sh (a.map encM))=some (.int .i64 (↑a.length))from len_map _)<|.yes (decide_eq_true (p:=(↑i:Int)<(↑a.length:Int)) (by omega))<|.idx (show idxA 3 (.sl .sh (a.map encM)) (.int .i64 ↑i)=some (.ref (encM x).cells)from idx_row hd (by rfl))<|.idx (show idxA 3 (.sl .sh (b.map encM)) (.int .i64 ↑i)=some (.ref (encM y).cells)from idx_row hq (by rfl))<|.split ((if true=true then !(x.op==y.op&&(x.key==y.key&&(x.val==y.val&&true)))else x.op==y.op&&(x.key==y.key&&(x.val==y.val&&true)))=true) (fun h1=>.yes (show(if true=true then !(x.op==y.op&&(x.key==y.key&&(x.val==y.val&&true)))else x.op==y.op&&(x.key==y.key&&(x.val==y.val&&true)))=true from h1)<|.fin ((.ret (.bool false),ζ1)) (by simp only[IsRet];grind[same2,eqM])) (fun h1=>.no (show(if true=true then !(x.op==y.op&&(x.key==y.key&&(x.val==y.val&&true)))else x.op==y.op&&(x.key==y.key&&(x.val==y.val&&true)))=false from Bool.eq_false_iff.2 h1)<|.bin (show binA .add (.int .i64 ↑i) (.int .i64 1)=some (.int .i64 (↑(i+1)))from inc_i (by omega))<|.cutQ k114_0 [(0,.sl .sh (a.map encM)),(1,.sl .sh (b.map encM)),(5,.int .i64 (↑(i+1)))] (ζ1) (fun T hT=>(ih (q) (i+(1:Nat)) hnx hnq T hT).to (by grind[same2,eqM])))) (by kernel_rfl)
theorem sameMR(a b:List Term)(hn:a.length<9223372036854775807):Gives cfg 114 [.sl .sh (a.map encM),.sl .sh (b.map encM)] (.bool (same2 eqM a b)):=by
 refine Gives.run (l114 _ _) ?_
 by_cases he:a.length=b.length
 ·have h:=sameMR_loop a b hn he a b 0 rfl rfl
  exact goG 60 [] trivial (.len (show lenA false (.sl .sh (a.map encM))=some (.int .i64 (↑a.length))from len_map _)<|.len (show lenA false (.sl .sh (b.map encM))=some (.int .i64 (↑b.length))from len_map _)<|.no (show((↑a.length:Int) !=(↑b.length:Int))=false from Bool.eq_false_iff.2 (by simp[he]))<|.cutQ k114_0 [(0,.sl .sh (a.map encM)),(1,.sl .sh (b.map encM)),(5,.int .i64 0)] ({boxes:=[],toks:=[],loops:=[]:Heap}) (fun T hT=>(h T hT))) (by kernel_rfl)
 ·rw[same2_len he]
  exact goG 60 [] trivial (.len (show lenA false (.sl .sh (a.map encM))=some (.int .i64 (↑a.length))from len_map _)<|.len (show lenA false (.sl .sh (b.map encM))=some (.int .i64 (↑b.length))from len_map _)<|.yes (show((↑a.length:Int) !=(↑b.length:Int))=true from(by simp;omega))<|.fin ((.ret (.bool false),{boxes:=[],toks:=[],loops:=[]:Heap})) rfl) (by kernel_rfl)
theorem sameLR_loop(a b:List Tol)(hn:a.length<9223372036854775807)(he:a.length=b.length):∀(post q:List Tol)(i:Nat)(hd:a.drop i=post)(hq:b.drop i=q)(T:Env)(hT:Has T [(0,.sl .sh (a.map encL)),(1,.sl .sh (b.map encL)),(5,.int .i64 i)]),
 Goes cfg a115 k115_0 T Heap.nil (IsRet (.bool (same2 eqL post q))):=by
 intro post
 induction post with
 |nil=>
  intro q i hd hq T hT
  have hge:=drop_ge hd
  have e:q=[]:=by rw[←hq];exact List.drop_eq_nil_of_le (by omega)
  subst e
  exact goG 60 _ hT (.len (show lenA false (.sl .sh (a.map encL))=some (.int .i64 (↑a.length))from len_map _)<|.no (decide_eq_false (p:=(↑i:Int)<(↑a.length:Int)) (by omega))<|.fin ((.ret (.bool true),{boxes:=[],toks:=[],loops:=[]:Heap})) rfl) (by kernel_rfl)
 |cons x post ih=>
  intro q i hd hq T hT
  have hlt:=drop_lt hd
  have hnx:=drop_next hd
  cases q with
  |nil=>have:=drop_ge hq;omega
  |cons y q=>
   have hnq:=drop_next hq
   exact let ζ1:Heap:={boxes:=[],toks:=[],loops:=[]:Heap};goG 60 _ hT (.len (show lenA false (.sl .sh (a.map encL))=some (.int .i64 (↑a.length))from len_map _)<|.yes (decide_eq_true (p:=(↑i:Int)<(↑a.length:Int)) (by omega))<|.idx (show idxA 3 (.sl .sh (a.map encL)) (.int .i64 ↑i)=some (.ref (encL x).cells)from idx_row hd (by rfl))<|.idx (show idxA 3 (.sl .sh (b.map encL)) (.int .i64 ↑i)=some (.ref (encL y).cells)from idx_row hq (by rfl))<|.split ((if true=true then !(x.key==y.key&&(x.val==y.val&&(x.any==y.any&&true)))else x.key==y.key&&(x.val==y.val&&(x.any==y.any&&true)))=true) (fun h1=>.yes (show(if true=true then !(x.key==y.key&&(x.val==y.val&&(x.any==y.any&&true)))else x.key==y.key&&(x.val==y.val&&(x.any==y.any&&true)))=true from h1)<|.fin ((.ret (.bool false),ζ1)) (by simp only[IsRet];grind[same2,eqL])) (fun h1=>.no (show(if true=true then !(x.key==y.key&&(x.val==y.val&&(x.any==y.any&&true)))else x.key==y.key&&(x.val==y.val&&(x.any==y.any&&true)))=false from Bool.eq_false_iff.2 h1)<|.bin (show binA .add (.int .i64 ↑i) (.int .i64 1)=some (.int .i64 (↑(i+1)))from inc_i (by omega))<|.cutQ k115_0 [(0,.sl .sh (a.map encL)),(1,.sl .sh (b.map encL)),(5,.int .i64 (↑(i+1)))] (ζ1) (fun T hT=>(ih (q) (i+(1:Nat)) hnx hnq T hT).to (by grind[same2,eqL])))) (by kernel_rfl)
theorem sameLR(a b:List Tol)(hn:a.length<9223372036854775807):Gives cfg 115 [.sl .sh (a.map encL),.sl .sh (b.map encL)] (.bool (same2 eqL a b)):=by
 refine Gives.run (l115 _ _) ?_
 by_cases he:a.length=b.length
 ·have h:=sameLR_loop a b hn he a b 0 rfl rfl
  exact goG 60 [] trivial (.len (show lenA false (.sl .sh (a.map encL))=some (.int .i64 (↑a.length))from len_map _)<|.len (show lenA false (.sl .sh (b.map encL))=some (.int .i64 (↑b.length))from len_map _)<|.no (show((↑a.length:Int) !=(↑b.length:Int))=false from Bool.eq_false_iff.2 (by simp[he]))<|.cutQ k115_0 [(0,.sl .sh (a.map encL)),(1,.sl .sh (b.map encL)),(5,.int .i64 0)] ({boxes:=[],toks:=[],loops:=[]:Heap}) (fun T hT=>(h T hT))) (by kernel_rfl)
 ·rw[same2_len he]
  exact goG 60 [] trivial (.len (show lenA false (.sl .sh (a.map encL))=some (.int .i64 (↑a.length))from len_map _)<|.len (show lenA false (.sl .sh (b.map encL))=some (.int .i64 (↑b.length))from len_map _)<|.yes (show((↑a.length:Int) !=(↑b.length:Int))=true from(by simp;omega))<|.fin ((.ret (.bool false),{boxes:=[],toks:=[],loops:=[]:Heap})) rfl) (by kernel_rfl)
end Go.Aa.T
set_option linter.unusedVariables false
set_option linter.unusedSimpArgs false
set_option maxRecDepth 100000
namespace Go.Aa.T
open Go.Aa Go.Proofs
def short1(x:Amount):Bool:=decide (x.name.length≤50)
def fewA(l:List Amount):Bool:=decide (l.length≤20)&&l.all short1
theorem fewA_len{l:List Amount}(h:fewA l=true):l.length≤20:=by
 simp only[fewA,Bool.and_eq_true,decide_eq_true_eq]at h;exact h.1
theorem fewA_loop(l:List Amount)(hn:l.length≤20):∀(post:List Amount)(i:Nat)(hd:l.drop i=post)(T:Env)(hT:Has T [(0,.sl .sh (l.map encA)),(3,.int .i64 i)]),
 Goes cfg a62 k62_0 T Heap.nil (IsRet (.bool (post.all short1))):=by
 intro post
 induction post with
 |nil=>
  intro i hd T hT
  have hge:=drop_ge hd
  exact goG 60 _ hT (.len (show lenA false (.sl .sh (l.map encA))=some (.int .i64 (↑l.length))from len_map _)<|.no (decide_eq_false (p:=(↑i:Int)<(↑l.length:Int)) (by omega))<|.fin ((.ret (.bool true),{boxes:=[],toks:=[],loops:=[]:Heap})) rfl) (by kernel_rfl)
 |cons x post ih=>
  intro i hd T hT
  have hlt:=drop_lt hd
  have hnx:=drop_next hd
  exact let ζ1:Heap:={boxes:=[],toks:=[],loops:=[]:Heap};goG 60 _ hT (.len (show lenA false (.sl .sh (l.map encA))=some (.int .i64 (↑l.length))from len_map _)<|.yes (decide_eq_true (p:=(↑i:Int)<(↑l.length:Int)) (by omega))<|.idx (show idxA 2 (.sl .sh (l.map encA)) (.int .i64 ↑i)=some (.ref (encA x).cells)from idx_row hd (by rfl))<|.len (show lenA true (.str x.name)=some (.int .i64 (↑x.name.length))from len_str _)<|.split ((50:Int)<(↑x.name.length:Int)) (fun h1=>.yes (decide_eq_true (p:=(50:Int)<(↑x.name.length:Int)) h1)<|.fin ((.ret (.bool false),ζ1)) (by simp only[IsRet];grind[short1])) (fun h1=>.no (decide_eq_false (p:=(50:Int)<(↑x.name.length:Int)) h1)<|.bin (show binA .add (.int .i64 ↑i) (.int .i64 1)=some (.int .i64 (↑(i+1)))from inc_i (by omega))<|.cutQ k62_0 [(0,.sl .sh (l.map encA)),(3,.int .i64 (↑(i+1)))] (ζ1) (fun T hT=>(ih (i+(1:Nat)) hnx T hT).to (by grind[short1])))) (by kernel_rfl)
theorem fewA_any(l:List Amount):Gives cfg 62 [.sl .sh (l.map encA)] (.bool (fewA l)):=by
 refine Gives.run (l62 _ _) ?_
 have h:=fun hn=>fewA_loop l hn l 0 rfl
 exact let ζ1:Heap:={boxes:=[],toks:=[],loops:=[]:Heap};goG 60 [] trivial (.len (show lenA false (.sl .sh (l.map encA))=some (.int .i64 (↑l.length))from len_map _)<|.split ((20:Int)<(↑l.length:Int)) (fun h1=>.yes (decide_eq_true (p:=(20:Int)<(↑l.length:Int)) h1)<|.fin ((.ret (.bool false),ζ1)) (by simp only[IsRet];grind[fewA])) (fun h1=>.no (decide_eq_false (p:=(20:Int)<(↑l.length:Int)) h1)<|.cutQ k62_0 [(0,.sl .sh (l.map encA)),(3,.int .i64 0)] (ζ1) (fun T hT=>(h (by omega) T hT).to (by grind[fewA])))) (by kernel_rfl)
theorem ofA_loop(l:List Amount)(hn:l.length≤20):∀(post:List Amount)(i:Nat)(acc:List AV)(hd:l.drop i=post)(ha:acc.length=i)(hl:lenOk 2 acc=true)(T:Env)(hT:Has T [(0,.sl .sh (l.map encA)),(3,rowS Heap.nil acc),(4,.int .i64 i)]),
 Goes cfg a36 k36_0 T (rowH Heap.nil acc) (IsRet (rowS Heap.nil (acc++post.map encA))):=by
 intro post
 induction post with
 |nil=>
  intro i acc hd ha hl T hT
  have hge:=drop_ge hd
  exact goG 60 _ hT (.len (show lenA false (.sl .sh (l.map encA))=some (.int .i64 (↑l.length))from len_map _)<|.no (decide_eq_false (p:=(↑i:Int)<(↑l.length:Int)) (by omega))<|.fin ((.ret (setD (setD (setD (setD (setD (setD (updL T [((0:Nat),.sl .sh (l.map encA)),((3:Nat),rowS Heap.nil acc),((4:Nat),.int .i64 ↑i)]) (some 5) (ev (updL T [((0:Nat),.sl .sh (l.map encA)),((3:Nat),rowS Heap.nil acc),((4:Nat),.int .i64 ↑i)]) (.t 4))) (some 6) (ev (setD (updL T [((0:Nat),.sl .sh (l.map encA)),((3:Nat),rowS Heap.nil acc),((4:Nat),.int .i64 ↑i)]) (some 5) (ev (updL T [((0:Nat),.sl .sh (l.map encA)),((3:Nat),rowS Heap.nil acc),((4:Nat),.int .i64 ↑i)]) (.t 4))) (.t 0))) (some 7) (.int .i64 (↑l.length))) (some 8) (.bool (decide ((↑i:Int)<(↑l.length:Int))))) (some 25) (ev (setD (setD (setD (setD (updL T [((0:Nat),.sl .sh (l.map encA)),((3:Nat),rowS Heap.nil acc),((4:Nat),.int .i64 ↑i)]) (some 5) (ev (updL T [((0:Nat),.sl .sh (l.map encA)),((3:Nat),rowS Heap.nil acc),((4:Nat),.int .i64 ↑i)]) (.t 4))) (some 6) (ev (setD (updL T [((0:Nat),.sl .sh (l.map encA)),((3:Nat),rowS Heap.nil acc),((4:Nat),.int .i64 ↑i)]) (some 5) (ev (updL T [((0:Nat),.sl .sh (l.map encA)),((3:Nat),rowS Heap.nil acc),((4:Nat),.int .i64 ↑i)]) (.t 4))) (.t 0))) (some 7) (.int .i64 (↑l.length))) (some 8) (.bool (decide ((↑i:Int)<(↑l.length:Int))))) (.t 3))) (some 2) (ev (setD (setD (setD (setD (setD (updL T [((0:Nat),.sl .sh (l.map encA)),((3:Nat),rowS Heap.nil acc),((4:Nat),.int .i64 ↑i)]) (some 5) (ev (updL T [((0:Nat),.sl .sh (l.map encA)),((3:Nat),rowS Heap.nil acc),((4:Nat),.int .i64 ↑i)]) (.t 4))) (some 6) (ev (setD (updL T [((0:Nat),.sl .sh (l.map encA)),((3:Nat),rowS Heap.nil acc),((4:Nat),.int .i64 ↑i)]) (some 5) (ev (updL T [((0:Nat),.sl .sh (l.map encA)),((3:Nat),rowS Heap.nil acc),((4:Nat),.int .i64 ↑i)]) (.t 4))) (.t 0))) (some 7) (.int .i64 (↑l.length))) (some 8) (.bool (decide ((↑i:Int)<(↑l.length:Int))))) (some 25) (ev (setD (setD (setD (setD (updL T [((0:Nat),.sl .sh (l.map encA)),((3:Nat),rowS Heap.nil acc),((4:Nat),.int .i64 ↑i)]) (some 5) (ev (updL T [((0:Nat),.sl .sh (l.map encA)),((3:Nat),rowS Heap.nil acc),((4:Nat),.int .i64 ↑i)]) (.t 4))) (some 6) (ev (setD (updL T [((0:Nat),.sl .sh (l.map encA)),((3:Nat),rowS Heap.nil acc),((4:Nat),.int .i64 ↑i)]) (some 5) (ev (updL T [((0:Nat),.sl .sh (l.map encA)),((3:Nat),rowS Heap.nil acc),((4:Nat),.int .i64 ↑i)]) (.t 4))) (.t 0))) (some 7) (.int .i64 (↑l.length))) (some 8) (.bool (decide ((↑i:Int)<(↑l.length:Int))))) (.t 3))) (.t 25)) (2:Nat)),rowH Heap.nil acc)) (by simp only[IsRet,List.map_nil,List.append_nil];rfl)) (by kernel_rfl)
 |cons x post ih=>
  intro i acc hd ha hl T hT
  have hlt:=drop_lt hd
  have hnx:=drop_next hd
  exact goG 60 _ hT (.len (show lenA false (.sl .sh (l.map encA))=some (.int .i64 (↑l.length))from len_map _)<|.yes (decide_eq_true (p:=(↑i:Int)<(↑l.length:Int)) (by simp;omega))<|.idx (show idxA 2 (.sl .sh (l.map encA)) (.int .i64 ↑i)=some (.ref (encA x).cells)from idx_row hd (by rfl))<|.load (rfl:loadA false 1 (rowH Heap.nil acc) (.ref [.str x.name])=some (.str x.name))<|.idx (show idxA 2 (.sl .sh (l.map encA)) (.int .i64 ↑i)=some (.ref (encA x).cells)from idx_row hd (by rfl))<|.load (rfl:loadA false 1 (rowH Heap.nil acc) (.ref [.int .i64 x.n])=some (.int .i64 x.n))<|.append (show appendA (2:Nat) (24:Nat) (rowH Heap.nil acc) (rowS Heap.nil acc) (.sl .full [.agg [.str x.name,.int .i64 x.n]])=some ((rowS Heap.nil (acc++[AV.agg [.str x.name,.int .i64 x.n]]),rowH Heap.nil (acc++[AV.agg [.str x.name,.int .i64 x.n]])))from row_append (by omega) hl (by rfl) (by rfl))<|.bin (show binA .add (.int .i64 ↑i) (.int .i64 1)=some (.int .i64 (↑(i+1)))from inc_i (by omega))<|.cutQ k36_0 [(0,.sl .sh (l.map encA)),(3,rowS Heap.nil (acc++[AV.agg [.str x.name,.int .i64 x.n]])),(4,.int .i64 (↑(i+1)))] (rowH Heap.nil (acc++[AV.agg [.str x.name,.int .i64 x.n]])) (fun T hT=>(ih (i+(1:Nat)) (acc++[AV.agg [.str x.name,.int .i64 x.n]]) hnx (by simp;omega) (by exact lenOk_snoc (by assumption) rfl) T hT).to (by simp[encA]))) (by kernel_rfl)
theorem ofA_any(l:List Amount)(hn:l.length≤20):Gives cfg 36 [.sl .sh (l.map encA)] (rowS Heap.nil (l.map encA)):=by
 refine Gives.run (l36 _ _) ?_
 have h:=ofA_loop l hn l 0 [] rfl rfl rfl
 exact goG 60 [] trivial (.cutQ k36_0 [(0,.sl .sh (l.map encA)),(3,.sl .full []),(4,.int .i64 0)] ({boxes:=[],toks:=[],loops:=[]:Heap}) (fun T hT=>(h T hT))) (by kernel_rfl)
instance(n:Node):Dat (encN n):=⟨rfl,rfl⟩
def fewN(n:Node):Bool:=decide (n.name.length≤50)&&(fewA n.cap&&(fewP n.labels&&fewT n.taints))
theorem fewN_any(n:Node):Gives cfg 96 [encN n] (.bool (fewN n)):=by
 refine Gives.run (l96 _ _) ?_
 exact let ζ1:Heap:={boxes:=[[.str n.name,.sl .sh (n.cap.map encA),.sl .sh (n.labels.map encP),.sl .sh (n.taints.map encT),.bool n.cordon]],toks:=[],loops:=[]:Heap};goG 80 [] trivial (.len (show lenA true (.str n.name)=some (.int .i64 (↑n.name.length))from len_str _)<|.split ((↑n.name.length:Int)≤(50:Int)) (fun h1=>.yes (decide_eq_true (p:=(↑n.name.length:Int)≤(50:Int)) h1)<|.callI (show Gives cfg (62:FuncId) [.sl .sh (n.cap.map encA)] (.bool (fewA n.cap))from fewA_any _)<|.split (fewA n.cap=true) (fun h2=>.yes (show(fewA n.cap)=true from h2)<|.callI (show Gives cfg (63:FuncId) [.sl .sh (n.labels.map encP)] (.bool (fewP n.labels))from fewP_any _)<|.split (fewP n.labels=true) (fun h3=>.yes (show(fewP n.labels)=true from h3)<|.callI (show Gives cfg (166:FuncId) [.sl .sh (n.taints.map encT)] (.bool (fewT n.taints))from fewT_any _)<|.fin ((.ret (.bool (fewT n.taints)),ζ1)) (by simp only[IsRet];grind[fewN])) (fun h3=>.no (show(fewP n.labels)=false from Bool.eq_false_iff.2 h3)<|.fin ((.ret (.bool false),ζ1)) (by simp only[IsRet];grind[fewN]))) (fun h2=>.no (show(fewA n.cap)=false from Bool.eq_false_iff.2 h2)<|.ff<|.fin ((.ret (.bool false),ζ1)) (by simp only[IsRet];grind[fewN]))) (fun h1=>.no (decide_eq_false (p:=(↑n.name.length:Int)≤(50:Int)) h1)<|.ff<|.ff<|.fin ((.ret (.bool false),ζ1)) (by simp only[IsRet];grind[fewN]))) (by kernel_rfl)
structure FewNd(n:Node):Prop where
 cap:n.cap.length≤20
 labels:n.labels.length≤20
 taints:n.taints.length≤20
theorem fewNd{n:Node}(h:fewN n=true):FewNd n:=by
 simp only[fewN,Bool.and_eq_true,decide_eq_true_eq]at h
 exact⟨fewA_len h.2.1,fewP_len h.2.2.1,fewT_len h.2.2.2⟩
theorem ofN1(n:Node)(m1:n.cap.length≤20)(m2:n.labels.length≤20)(m3:n.taints.length≤20):Gives cfg 147 [encN n] (encN n):=by
 refine Gives.run (l147 _ _) ?_
 exact let ζ1:List AV:=[.str n.name,.sl .sh (n.cap.map encA),.sl .sh (n.labels.map encP),.sl .sh (n.taints.map encT),.bool n.cordon];goG 80 [] trivial (.callG ([.sl .sh (n.cap.map encA)]) (.sl .sh (n.cap.map encA)) (show Gives cfg (36:FuncId) [.sl .sh (n.cap.map encA)] (rowS Heap.nil (n.cap.map encA))from ofA_any _ m1) ⟨rfl,rfl⟩ Res.p<|.callG ([.sl .sh (n.labels.map encP)]) (.sl .sh (n.labels.map encP)) (show Gives cfg (71:FuncId) [.sl .sh (n.labels.map encP)] (rowS Heap.nil (n.labels.map encP))from ofP_any _ m2) ⟨rfl,rfl⟩ Res.p<|.callG ([.sl .sh (n.taints.map encT)]) (.sl .sh (n.taints.map encT)) (show Gives cfg (198:FuncId) [.sl .sh (n.taints.map encT)] (rowS Heap.nil (n.taints.map encT))from ofT_any _ m3) ⟨rfl,rfl⟩ Res.p<|.fin ((.ret (.agg ζ1),{boxes:=[ζ1,ζ1],toks:=[],loops:=[]:Heap})) rfl) (by kernel_rfl)
theorem ofN_any(n:Node)(h:fewN n=true):Gives cfg 147 [encN n] (encN n):=ofN1 n (fewNd h).cap (fewNd h).labels (fewNd h).taints
theorem ofNs_loop(l:List Node)(hn:l.length≤40)(hf:∀x∈l,fewN x=true):∀(post:List Node)(i:Nat)(acc:List AV)(hd:l.drop i=post)(ha:acc.length=i)(hl:lenOk 5 acc=true)(T:Env)(hT:Has T [(0,.sl .sh (l.map encN)),(3,rowS Heap.nil acc),(4,.int .i64 i)]),
 Goes cfg a74 k74_0 T (rowH Heap.nil acc) (IsRet (rowS Heap.nil (acc++post.map encN))):=by
 intro post
 induction post with
 |nil=>
  intro i acc hd ha hl T hT
  have hge:=drop_ge hd
  exact goG 60 _ hT (.len (show lenA false (.sl .sh (l.map encN))=some (.int .i64 (↑l.length))from len_map _)<|.no (decide_eq_false (p:=(↑i:Int)<(↑l.length:Int)) (by omega))<|.fin ((.ret (setD (setD (setD (setD (setD (setD (updL T [((0:Nat),.sl .sh (l.map encN)),((3:Nat),rowS Heap.nil acc),((4:Nat),.int .i64 ↑i)]) (some 5) (ev (updL T [((0:Nat),.sl .sh (l.map encN)),((3:Nat),rowS Heap.nil acc),((4:Nat),.int .i64 ↑i)]) (.t 4))) (some 6) (ev (setD (updL T [((0:Nat),.sl .sh (l.map encN)),((3:Nat),rowS Heap.nil acc),((4:Nat),.int .i64 ↑i)]) (some 5) (ev (updL T [((0:Nat),.sl .sh (l.map encN)),((3:Nat),rowS Heap.nil acc),((4:Nat),.int .i64 ↑i)]) (.t 4))) (.t 0))) (some 7) (.int .i64 (↑l.length))) (some 8) (.bool (decide ((↑i:Int)<(↑l.length:Int))))) (some 19) (ev (setD (setD (setD (setD (updL T [((0:Nat),.sl .sh (l.map encN)),((3:Nat),rowS Heap.nil acc),((4:Nat),.int .i64 ↑i)]) (some 5) (ev (updL T [((0:Nat),.sl .sh (l.map encN)),((3:Nat),rowS Heap.nil acc),((4:Nat),.int .i64 ↑i)]) (.t 4))) (some 6) (ev (setD (updL T [((0:Nat),.sl .sh (l.map encN)),((3:Nat),rowS Heap.nil acc),((4:Nat),.int .i64 ↑i)]) (some 5) (ev (updL T [((0:Nat),.sl .sh (l.map encN)),((3:Nat),rowS Heap.nil acc),((4:Nat),.int .i64 ↑i)]) (.t 4))) (.t 0))) (some 7) (.int .i64 (↑l.length))) (some 8) (.bool (decide ((↑i:Int)<(↑l.length:Int))))) (.t 3))) (some 2) (ev (setD (setD (setD (setD (setD (updL T [((0:Nat),.sl .sh (l.map encN)),((3:Nat),rowS Heap.nil acc),((4:Nat),.int .i64 ↑i)]) (some 5) (ev (updL T [((0:Nat),.sl .sh (l.map encN)),((3:Nat),rowS Heap.nil acc),((4:Nat),.int .i64 ↑i)]) (.t 4))) (some 6) (ev (setD (updL T [((0:Nat),.sl .sh (l.map encN)),((3:Nat),rowS Heap.nil acc),((4:Nat),.int .i64 ↑i)]) (some 5) (ev (updL T [((0:Nat),.sl .sh (l.map encN)),((3:Nat),rowS Heap.nil acc),((4:Nat),.int .i64 ↑i)]) (.t 4))) (.t 0))) (some 7) (.int .i64 (↑l.length))) (some 8) (.bool (decide ((↑i:Int)<(↑l.length:Int))))) (some 19) (ev (setD (setD (setD (setD (updL T [((0:Nat),.sl .sh (l.map encN)),((3:Nat),rowS Heap.nil acc),((4:Nat),.int .i64 ↑i)]) (some 5) (ev (updL T [((0:Nat),.sl .sh (l.map encN)),((3:Nat),rowS Heap.nil acc),((4:Nat),.int .i64 ↑i)]) (.t 4))) (some 6) (ev (setD (updL T [((0:Nat),.sl .sh (l.map encN)),((3:Nat),rowS Heap.nil acc),((4:Nat),.int .i64 ↑i)]) (some 5) (ev (updL T [((0:Nat),.sl .sh (l.map encN)),((3:Nat),rowS Heap.nil acc),((4:Nat),.int .i64 ↑i)]) (.t 4))) (.t 0))) (some 7) (.int .i64 (↑l.length))) (some 8) (.bool (decide ((↑i:Int)<(↑l.length:Int))))) (.t 3))) (.t 19)) (2:Nat)),rowH Heap.nil acc)) (by simp only[IsRet,List.map_nil,List.append_nil];rfl)) (by kernel_rfl)
 |cons x post ih=>
  intro i acc hd ha hl T hT
  have hlt:=drop_lt hd
  have hnx:=drop_next hd
  have hx:=hf x (drop_mem hd)
  exact goG 60 _ hT (.len (show lenA false (.sl .sh (l.map encN))=some (.int .i64 (↑l.length))from len_map _)<|.yes (decide_eq_true (p:=(↑i:Int)<(↑l.length:Int)) (by simp;omega))<|.idx (show idxA 5 (.sl .sh (l.map encN)) (.int .i64 ↑i)=some (.ref (encN x).cells)from idx_row hd (by rfl))<|.load (rfl:loadA true 5 (rowH Heap.nil acc) (.ref [.str x.name,.sl .sh (x.cap.map encA),.sl .sh (x.labels.map encP),.sl .sh (x.taints.map encT),.bool x.cordon])=some (.agg [.str x.name,.sl .sh (x.cap.map encA),.sl .sh (x.labels.map encP),.sl .sh (x.taints.map encT),.bool x.cordon]))<|.callK ([.agg [.str x.name,.sl .sh (x.cap.map encA),.sl .sh (x.labels.map encP),.sl .sh (x.taints.map encT),.bool x.cordon]]) (.agg [.str x.name,.sl .sh (x.cap.map encA),.sl .sh (x.labels.map encP),.sl .sh (x.taints.map encT),.bool x.cordon]) (show Gives cfg (147:FuncId) [encN x] (encN x)from ofN_any _ hx)<|.append (show appendA (5:Nat) (96:Nat) (rowH Heap.nil acc) (rowS Heap.nil acc) (.sl .full [.agg [.str x.name,.sl .sh (x.cap.map encA),.sl .sh (x.labels.map encP),.sl .sh (x.taints.map encT),.bool x.cordon]])=some ((rowS Heap.nil (acc++[AV.agg [.str x.name,.sl .sh (x.cap.map encA),.sl .sh (x.labels.map encP),.sl .sh (x.taints.map encT),.bool x.cordon]]),rowH Heap.nil (acc++[AV.agg [.str x.name,.sl .sh (x.cap.map encA),.sl .sh (x.labels.map encP),.sl .sh (x.taints.map encT),.bool x.cordon]])))from row_append (by omega) hl (by rfl) (by rfl))<|.bin (show binA .add (.int .i64 ↑i) (.int .i64 1)=some (.int .i64 (↑(i+1)))from inc_i (by omega))<|.cutQ k74_0 [(0,.sl .sh (l.map encN)),(3,rowS Heap.nil (acc++[AV.agg [.str x.name,.sl .sh (x.cap.map encA),.sl .sh (x.labels.map encP),.sl .sh (x.taints.map encT),.bool x.cordon]])),(4,.int .i64 (↑(i+1)))] (rowH Heap.nil (acc++[AV.agg [.str x.name,.sl .sh (x.cap.map encA),.sl .sh (x.labels.map encP),.sl .sh (x.taints.map encT),.bool x.cordon]])) (fun T hT=>(ih (i+(1:Nat)) (acc++[AV.agg [.str x.name,.sl .sh (x.cap.map encA),.sl .sh (x.labels.map encP),.sl .sh (x.taints.map encT),.bool x.cordon]]) hnx (by simp;omega) (by exact lenOk_snoc (by assumption) rfl) T hT).to (by simp[encN]))) (by kernel_rfl)
theorem ofNs_any(l:List Node)(hn:l.length≤40)(hf:∀x∈l,fewN x=true):Gives cfg 74 [.sl .sh (l.map encN)] (rowS Heap.nil (l.map encN)):=by
 refine Gives.run (l74 _ _) ?_
 have h:=ofNs_loop l hn hf l 0 [] rfl rfl rfl
 exact goG 60 [] trivial (.cutQ k74_0 [(0,.sl .sh (l.map encN)),(3,.sl .full []),(4,.int .i64 0)] ({boxes:=[],toks:=[],loops:=[]:Heap}) (fun T hT=>(h T hT))) (by kernel_rfl)
theorem ckN_ref(n:Node):Gives cfg 167 [encN n] (.int .i64 (ckN n)):=by
 refine Gives.run (l167 _ _) ?_
 exact let ζ1:Heap:={boxes:=[[.str n.name,.sl .sh (n.cap.map encA),.sl .sh (n.labels.map encP),.sl .sh (n.taints.map encT),.bool n.cordon]],toks:=[],loops:=[]:Heap};goG 80 [] trivial (.callI (show Gives cfg (66:FuncId) [.str n.name] (.bool (isName n.name))from name_any _)<|.split (isName n.name=true) (fun h1=>.no (show(!isName n.name)=false from by have hh:isName n.name=true:=h1;simp[hh])<|.callI (show Gives cfg (67:FuncId) [.sl .sh (n.cap.map encA)] (.int .i64 (ckV n.cap))from ckV_ref _)<|.split ((ckV n.cap !=(0:Int))=true) (fun h2=>.yes (show(ckV n.cap !=(0:Int))=true from h2)<|.fin ((.ret (.int .i64 (ckV n.cap)),ζ1)) (by simp only[IsRet];grind[ckN,firstE])) (fun h2=>.no (show(ckV n.cap !=(0:Int))=false from Bool.eq_false_iff.2 h2)<|.callI (show Gives cfg (68:FuncId) [.sl .sh (n.labels.map encP)] (.int .i64 (ckS n.labels))from ckS_ref _)<|.split ((ckS n.labels !=(0:Int))=true) (fun h3=>.yes (show(ckS n.labels !=(0:Int))=true from h3)<|.fin ((.ret (.int .i64 (ckS n.labels)),ζ1)) (by simp only[IsRet];grind[ckN,firstE])) (fun h3=>.no (show(ckS n.labels !=(0:Int))=false from Bool.eq_false_iff.2 h3)<|.callI (show Gives cfg (211:FuncId) [.sl .sh (n.taints.map encT)] (.int .i64 (ckT n.taints))from ckT_any _)<|.fin ((.ret (.int .i64 (ckT n.taints)),ζ1)) (by simp only[IsRet];grind[ckN,firstE])))) (fun h1=>.yes (show(!isName n.name)=true from by have hh:¬(isName n.name=true):=h1;simp[hh])<|.fin ((.ret (.int .i64 3),ζ1)) (by simp only[IsRet];grind[ckN,firstE]))) (by kernel_rfl)
def ordG{X:Type}(nm:X→List UInt8)(s:List X)(i:Nat)(x:X):Bool:=match i with
 |0=>false
 |j+1=>match s[j]? with
  |some p=>Op.bytesLess (nm x) (nm p)||nm x==nm p
  |none=>false
def ckAl{X:Type}(ck:X→Int)(nm:X→List UInt8)(s:List X):Nat→List X→Int
 |_,[]=>0
 |i,x::post=>if ck x=0 then(if ordG nm s i x then 13 else ckAl ck nm s (i+1) post)else ck x
def ckAll{X:Type}(most:Nat)(ck:X→Int)(nm:X→List UInt8)(s:List X):Int:=if s.length≤most then ckAl ck nm s 0 s else 4
def findG{X:Type}(nm:X→List UInt8)(l:List X)(n:List UInt8):Option X:=l.find? fun x=>nm x==n
theorem ckNs_ref_loop(l:List Node)(hn:l.length≤32):∀(post:List Node)(i:Nat)(hd:l.drop i=post)(T:Env)(hT:Has T [(0,.sl .sh (l.map encN)),(3,.int .i64 i)]),
 Goes cfg a97 k97_0 T Heap.nil (IsRet (.int .i64 (ckAl ckN Node.name l i post))):=by
 intro post
 induction post with
 |nil=>
  intro i hd T hT
  have hge:=drop_ge hd
  exact goG 60 _ hT (.len (show lenA false (.sl .sh (l.map encN))=some (.int .i64 (↑l.length))from len_map _)<|.no (decide_eq_false (p:=(↑i:Int)<(↑l.length:Int)) (by omega))<|.fin ((.ret (.int .i64 0),{boxes:=[],toks:=[],loops:=[]:Heap})) rfl) (by kernel_rfl)
 |cons x post ih=>
  intro i hd T hT
  have hlt:=drop_lt hd
  have hnx:=drop_next hd
  have hc:=ckN_ref x
  have e:ckAl ckN Node.name l i (x::post)=if ckN x=0 then(if ordG Node.name l i x then 13 else ckAl ckN Node.name l (i+1) post)else ckN x:=rfl
  rw[e]
  generalize ckN x=c at hc⊢
  cases i with
  |zero=>exact let ζ1:Heap:={boxes:=[],toks:=[],loops:=[]:Heap};goG 60 _ hT (.len (show lenA false (.sl .sh (l.map encN))=some (.int .i64 (↑l.length))from len_map _)<|.yes (decide_eq_true (p:=(↑(0:Nat):Int)<(↑l.length:Int)) (by omega))<|.idx (show idxA 5 (.sl .sh (l.map encN)) (.int .i64 (↑(0:Nat):Int))=some (.ref (encN x).cells)from idx_row hd (by rfl))<|.callI hc<|.split ((c !=(0:Int))=true) (fun h1=>.yes (show(c !=(0:Int))=true from h1)<|.fin ((.ret (.int .i64 c),ζ1)) (by simp only[IsRet];grind[ordG])) (fun h1=>.no (show(c !=(0:Int))=false from Bool.eq_false_iff.2 h1)<|.ff<|.ff<|.bin (show binA .add (.int .i64 (↑(0:Nat):Int)) (.int .i64 1)=some (.int .i64 (↑((0:Nat)+(1:Nat)):Int))from inc_i (by omega))<|.cutQ k97_0 [(0,.sl .sh (l.map encN)),(3,.int .i64 (↑((0:Nat)+(1:Nat)):Int))] (ζ1) (fun T hT=>(ih ((0:Nat)+(1:Nat)) hnx T hT).to (by grind[ordG])))) (by kernel_rfl)
  |succ j=>
   obtain⟨p,hp⟩:∃p,l[j]?=some p:=⟨l[j],List.getElem?_eq_getElem (by omega)⟩
   exact let ζ1:Heap:={boxes:=[],toks:=[],loops:=[]:Heap};goG 60 _ hT (.len (show lenA false (.sl .sh (l.map encN))=some (.int .i64 (↑l.length))from len_map _)<|.yes (decide_eq_true (p:=(↑(j+(1:Nat)):Int)<(↑l.length:Int)) (by omega))<|.idx (show idxA 5 (.sl .sh (l.map encN)) (.int .i64 (↑(j+(1:Nat)):Int))=some (.ref (encN x).cells)from idx_row hd (by rfl))<|.callI hc<|.split ((c !=(0:Int))=true) (fun h1=>.yes (show(c !=(0:Int))=true from h1)<|.fin ((.ret (.int .i64 c),ζ1)) (by simp only[IsRet];grind[ordG])) (fun h1=>.no (show(c !=(0:Int))=false from Bool.eq_false_iff.2 h1)<|.yes (decide_eq_true (p:=(0:Int)<(↑(j+(1:Nat)):Int)) (by omega))<|.idx (show idxA 5 (.sl .sh (l.map encN)) (.int .i64 (↑(j+(1:Nat)):Int))=some (.ref (encN x).cells)from idx_row hd (by rfl))<|.bin (show binA .sub (.int .i64 (↑(j+(1:Nat)):Int)) (.int .i64 1)=some (.int .i64 ↑j)from dec_i (by omega))<|.idx (show idxA 5 (.sl .sh (l.map encN)) (.int .i64 ↑j)=some (.ref (encN p).cells)from idx_get hp (by rfl))<|.split ((Op.bytesLess x.name p.name||x.name==p.name)=true) (fun h2=>.yes (show(Op.bytesLess x.name p.name||x.name==p.name)=true from h2)<|.fin ((.ret (.int .i64 13),ζ1)) (by simp only[IsRet];grind[ordG])) (fun h2=>.no (show(Op.bytesLess x.name p.name||x.name==p.name)=false from Bool.eq_false_iff.2 h2)<|.bin (show binA .add (.int .i64 (↑(j+(1:Nat)):Int)) (.int .i64 1)=some (.int .i64 (↑(j+(1:Nat)+(1:Nat)):Int))from inc_i (by omega))<|.cutQ k97_0 [(0,.sl .sh (l.map encN)),(3,.int .i64 (↑(j+(1:Nat)+(1:Nat)):Int))] (ζ1) (fun T hT=>(ih (j+(1:Nat)+(1:Nat)) hnx T hT).to (by grind[ordG]))))) (by kernel_rfl)
theorem ckNs_ref(l:List Node):Gives cfg 97 [.sl .sh (l.map encN)] (.int .i64 (ckAll 32 ckN Node.name l)):=by
 refine Gives.run (l97 _ _) ?_
 have h:=fun hn=>ckNs_ref_loop l hn l 0 rfl
 exact let ζ1:Heap:={boxes:=[],toks:=[],loops:=[]:Heap};goG 60 [] trivial (.len (show lenA false (.sl .sh (l.map encN))=some (.int .i64 (↑l.length))from len_map _)<|.split ((32:Int)<(↑l.length:Int)) (fun h1=>.yes (decide_eq_true (p:=(32:Int)<(↑l.length:Int)) h1)<|.fin ((.ret (.int .i64 4),ζ1)) (by simp only[IsRet];grind[ckAll])) (fun h1=>.no (decide_eq_false (p:=(32:Int)<(↑l.length:Int)) h1)<|.cutQ k97_0 [(0,.sl .sh (l.map encN)),(3,.int .i64 0)] (ζ1) (fun T hT=>(h (by omega) T hT).to (by grind[ckAll])))) (by kernel_rfl)
def findNZ:List AV:=[.str [],.sl .full [],.sl .full [],.sl .full [],.bool false]
def findNV:Option Node→AV
 |none=>.tuple [.agg findNZ,.bool false]
 |some x=>.tuple [encN x,.bool true]
theorem findN_ref_loop(l:List Node)(s:List UInt8)(hn:l.length<9223372036854775807):∀(post:List Node)(i:Nat)(bs:List (List AV))(hd:l.drop i=post)(T:Env)(hT:Has T [(4,.ptr 0 0),(0,.sl .sh (l.map encN)),(1,.str s),(6,.int .i64 i)]),
 Goes cfg a84 k84_0 T ⟨findNZ::bs,[],[]⟩ (IsRet (findNV (findG Node.name post s))):=by
 intro post
 induction post with
 |nil=>
  intro i bs hd T hT
  have hge:=drop_ge hd
  exact let ζ1:List AV:=[.str [],.sl .full [],.sl .full [],.sl .full [],.bool false];let ζ2:Heap:={boxes:=ζ1::bs,toks:=[],loops:=[]:Heap};goG 60 _ hT (.len (show lenA false (.sl .sh (l.map encN))=some (.int .i64 (↑l.length))from len_map _)<|.no (decide_eq_false (p:=(↑i:Int)<(↑l.length:Int)) (by omega))<|.store (show storeA 5 ζ2 (.ptr 0 0) (.agg ζ1)=some (ζ2)from store_box2 (cs:=ζ1) (cs':=ζ1) (by simp+zetaDelta) rfl (by simp+zetaDelta [List.set_append]))<|.fin ((.ret (.tuple [.agg ζ1,.bool false]),ζ2)) rfl) (by kernel_rfl)
 |cons x post ih=>
  intro i bs hd T hT
  have hlt:=drop_lt hd
  have hnx:=drop_next hd
  by_cases hx:Node.name x=s
  ·have e:findG Node.name (x::post) s=some x:=by simp[findG,List.find?_cons,hx]
   rw[e]
   exact let ζ1:List AV:=[.str x.name,.sl .sh (x.cap.map encA),.sl .sh (x.labels.map encP),.sl .sh (x.taints.map encT),.bool x.cordon];let ζ2:Heap:={boxes:=[.str [],.sl .full [],.sl .full [],.sl .full [],.bool false]::bs,toks:=[],loops:=[]:Heap};let ζ3:Heap:={boxes:=ζ1::bs,toks:=[],loops:=[]:Heap};goG 60 _ hT (.len (show lenA false (.sl .sh (l.map encN))=some (.int .i64 (↑l.length))from len_map _)<|.yes (decide_eq_true (p:=(↑i:Int)<(↑l.length:Int)) (by omega))<|.idx (show idxA 5 (.sl .sh (l.map encN)) (.int .i64 ↑i)=some (.ref (encN x).cells)from idx_row hd (by rfl))<|.load (rfl:loadA false 1 ζ2 (.ref [.str x.name])=some (.str x.name))<|.yes (show(x.name==s)=true from(by simpa using hx))<|.idx (show idxA 5 (.sl .sh (l.map encN)) (.int .i64 ↑i)=some (.ref (encN x).cells)from idx_row hd (by rfl))<|.load (rfl:loadA true 5 ζ2 (.ref ζ1)=some (.agg ζ1))<|.store (show storeA 5 ζ2 (.ptr 0 0) (.agg ζ1)=some (ζ3)from store_box2 (cs:=[.str [],.sl .full [],.sl .full [],.sl .full [],.bool false]) (cs':=ζ1) (by simp+zetaDelta) rfl (by simp+zetaDelta [List.set_append]))<|.fin ((.ret (.tuple [.agg ζ1,.bool true]),ζ3)) rfl) (by kernel_rfl)
  ·have e:findG Node.name (x::post) s=findG Node.name post s:=by simp[findG,List.find?_cons,hx]
   rw[e]
   exact let ζ1:Heap:={boxes:=[.str [],.sl .full [],.sl .full [],.sl .full [],.bool false]::bs,toks:=[],loops:=[]:Heap};goG 60 _ hT (.len (show lenA false (.sl .sh (l.map encN))=some (.int .i64 (↑l.length))from len_map _)<|.yes (decide_eq_true (p:=(↑i:Int)<(↑l.length:Int)) (by omega))<|.idx (show idxA 5 (.sl .sh (l.map encN)) (.int .i64 ↑i)=some (.ref (encN x).cells)from idx_row hd (by rfl))<|.load (rfl:loadA false 1 ζ1 (.ref [.str x.name])=some (.str x.name))<|.no (show(x.name==s)=false from Bool.eq_false_iff.2 (by simpa using hx))<|.bin (show binA .add (.int .i64 ↑i) (.int .i64 1)=some (.int .i64 (↑(i+1)))from inc_i (by omega))<|.cutQ k84_0 [(4,.ptr 0 0),(0,.sl .sh (l.map encN)),(1,.str s),(6,.int .i64 (↑(i+1)))] (ζ1) (fun T hT=>(ih (i+(1:Nat)) (bs) hnx T hT))) (by kernel_rfl)
theorem findN_ref(l:List Node)(s:List UInt8)(hn:l.length<9223372036854775807):Gives cfg 84 [.sl .sh (l.map encN),.str s] (findNV (findG Node.name l s)):=by
 refine Gives.run (l84 _ _) ?_
 have h:=findN_ref_loop l s hn l 0 [] rfl
 exact goG 60 [] trivial (.cutQ k84_0 [(4,.ptr 0 0),(0,.sl .sh (l.map encN)),(1,.str s),(6,.int .i64 0)] ({boxes:=[[.str [],.sl .full [],.sl .full [],.sl .full [],.bool false]],toks:=[],loops:=[]:Heap}) (fun T hT=>(h T hT))) (by kernel_rfl)
def sameNB(a b:Node):Bool:=a.name==b.name&&(a.cordon==b.cordon&&(same2 eqA a.cap b.cap&&(same2 eqP a.labels b.labels&&same2 eqT a.taints b.taints)))
theorem sameN_ref(a b:Node)(m1:a.cap.length<9223372036854775807)(m2:a.labels.length<9223372036854775807)(m3:a.taints.length<9223372036854775807):Gives cfg 126 [encN a,encN b] (.bool (sameNB a b)):=by
 refine Gives.run (l126 _ _) ?_
 exact let ζ1:Heap:={boxes:=[[.str a.name,.sl .sh (a.cap.map encA),.sl .sh (a.labels.map encP),.sl .sh (a.taints.map encT),.bool a.cordon],[.str b.name,.sl .sh (b.cap.map encA),.sl .sh (b.labels.map encP),.sl .sh (b.taints.map encT),.bool b.cordon]],toks:=[],loops:=[]:Heap};let ζ2:List AV:=[.sl .sh (a.labels.map encP),.sl .sh (b.labels.map encP)];let ζ3:List AV:=[.sl .sh (a.taints.map encT),.sl .sh (b.taints.map encT)];let ζ4:List AV:=[.sl .sh (a.cap.map encA),.sl .sh (b.cap.map encA)];goG 90 [] trivial (.split ((a.name==b.name)=true) (fun h1=>.yes (show(a.name==b.name)=true from h1)<|.split ((if false=true then !a.cordon==b.cordon else a.cordon==b.cordon)=true) (fun h2=>.yes (show(if false=true then !a.cordon==b.cordon else a.cordon==b.cordon)=true from h2)<|.callK (ζ4) (.bool (same2 eqA a.cap b.cap)) (show Gives cfg (35:FuncId) ζ4 (.bool (same2 eqA a.cap b.cap))from sameVR _ _ m1)<|.split (same2 eqA a.cap b.cap=true) (fun h3=>.yes (show(same2 eqA a.cap b.cap)=true from h3)<|.callK (ζ2) (.bool (same2 eqP a.labels b.labels)) (show Gives cfg (113:FuncId) ζ2 (.bool (same2 eqP a.labels b.labels))from samePR _ _ m2)<|.split (same2 eqP a.labels b.labels=true) (fun h4=>.yes (show(same2 eqP a.labels b.labels)=true from h4)<|.callK (ζ3) (.bool (same2 eqT a.taints b.taints)) (show Gives cfg (191:FuncId) ζ3 (.bool (same2 eqT a.taints b.taints))from sameTR _ _ m3)<|.fin ((.ret (.bool (same2 eqT a.taints b.taints)),ζ1)) (by simp only[IsRet];grind[sameNB])) (fun h4=>.no (show(same2 eqP a.labels b.labels)=false from Bool.eq_false_iff.2 h4)<|.fin ((.ret (.bool false),ζ1)) (by simp only[IsRet];grind[sameNB]))) (fun h3=>.no (show(same2 eqA a.cap b.cap)=false from Bool.eq_false_iff.2 h3)<|.ff<|.fin ((.ret (.bool false),ζ1)) (by simp only[IsRet];grind[sameNB]))) (fun h2=>.no (show(if false=true then !a.cordon==b.cordon else a.cordon==b.cordon)=false from Bool.eq_false_iff.2 h2)<|.ff<|.ff<|.fin ((.ret (.bool false),ζ1)) (by simp only[IsRet];grind[sameNB]))) (fun h1=>.no (show(a.name==b.name)=false from Bool.eq_false_iff.2 h1)<|.ff<|.ff<|.ff<|.fin ((.ret (.bool false),ζ1)) (by simp only[IsRet];grind[sameNB]))) (by kernel_rfl)
theorem sameNB_iff(a b:Node):sameNB a b=true↔a=b:=by
 cases a;cases b
 simp only[sameNB,Bool.and_eq_true,beq_iff_eq,same2_iff eqA_iff,same2_iff eqP_iff,same2_iff eqT_iff,Node.mk.injEq]
 grind
end Go.Aa.T
set_option linter.unusedVariables false
set_option linter.unusedSimpArgs false
set_option maxRecDepth 100000
namespace Go.Aa.T
open Go.Aa Go.Proofs
def inI(a:Int):Prop:= -9223372036854775808≤a∧a≤9223372036854775807
def bothE(a b:Int):Int:=if a<0 then 1 else if b<0 then 1 else 0
def toldQ(n:Int):Int×Int:=if 9223372036854775807<n then(0,5)else(n,0)
def addQ(a b:Int):Int×Int:=if bothE a b≠0 then(0,bothE a b)else toldQ (a+b)
theorem both_ok{a b:Int}(h:bothE a b=0):0≤a∧0≤b:=by
 unfold bothE at h
 split at h
 ·cases h
 ·split at h
  ·cases h
  ·omega
theorem qadd_ref(a b:Int)(ha:inI a)(hb:inI b):Gives cfg 180 [.int .i64 a,.int .i64 b] (.tuple [.int .i64 (addQ a b).1,.int .i64 (addQ a b).2]):=by
 refine Gives.run (l180 _ _) ?_
 obtain⟨ha1,ha2⟩:=ha
 obtain⟨hb1,hb2⟩:=hb
 have hs:0≤b→binA .sub (.int .i64 9223372036854775807) (.int .i64 b)=some (.int .i64 (9223372036854775807-b)):=fun h=>subI (by omega) (by omega)
 by_cases he:bothE a b=0
 ·obtain⟨i1,i2⟩:=both_ok he
  have hs:=hs i2
  by_cases ho:9223372036854775807<a+b
  ·have e:addQ a b=(0,5):=by simp[addQ,he,toldQ,ho]
   rw[e]
   exact goG 60 [] trivial (.no (decide_eq_false (p:=a<(0:Int)) (by omega))<|.no (decide_eq_false (p:=b<(0:Int)) (by omega))<|.bin (show binA .sub (.int .i64 9223372036854775807) (.int .i64 b)=some (.int .i64 ((9223372036854775807:Int)-b))from hs)<|.yes (decide_eq_true (p:=(9223372036854775807:Int)-b<a) (by omega))<|.fin ((.ret (.tuple [.int .i64 0,.int .i64 5]),{boxes:=[],toks:=[],loops:=[]:Heap})) rfl) (by kernel_rfl)
  ·have e:addQ a b=(a+b,0):=by simp[addQ,he,toldQ,ho]
   rw[e]
   have ha:binA .add (.int .i64 a) (.int .i64 b)=some (.int .i64 (a+b)):=addI (by omega) (by omega)
   exact goG 60 [] trivial (.no (decide_eq_false (p:=a<(0:Int)) (by omega))<|.no (decide_eq_false (p:=b<(0:Int)) (by omega))<|.bin (show binA .sub (.int .i64 9223372036854775807) (.int .i64 b)=some (.int .i64 ((9223372036854775807:Int)-b))from hs)<|.no (decide_eq_false (p:=(9223372036854775807:Int)-b<a) (by omega))<|.bin (show binA .add (.int .i64 a) (.int .i64 b)=some (.int .i64 (a+b))from ha)<|.fin ((.ret (.tuple [.int .i64 (a+b),.int .i64 0]),{boxes:=[],toks:=[],loops:=[]:Heap})) rfl) (by kernel_rfl)
 ·have e:addQ a b=(0,1):=by
   have:bothE a b=1:=by unfold bothE at he⊢;grind
   simp[addQ,this]
  rw[e]
  have hor:a<0∨b<0:=by unfold bothE at he;grind
  by_cases h1:a<0
  ·exact goG 60 [] trivial (.yes (decide_eq_true (p:=a<(0:Int)) (by omega))<|.tt<|.fin ((.ret (.tuple [.int .i64 0,.int .i64 1]),{boxes:=[],toks:=[],loops:=[]:Heap})) rfl) (by kernel_rfl)
  ·exact goG 60 [] trivial (.no (decide_eq_false (p:=a<(0:Int)) (by omega))<|.yes (decide_eq_true (p:=b<(0:Int)) (by omega))<|.fin ((.ret (.tuple [.int .i64 0,.int .i64 1]),{boxes:=[],toks:=[],loops:=[]:Heap})) rfl) (by kernel_rfl)
def getQ(v:List Amount)(s:List UInt8):Int:=match v.find? (fun x=>x.name==s)with
 |some x=>x.n
 |none=>0
theorem getQ_cons(x:Amount)(v:List Amount)(s:List UInt8):getQ (x::v) s=if x.name=s then x.n else getQ v s:=by
 unfold getQ
 by_cases h:x.name=s
 ·simp[List.find?_cons,h]
 ·simp[List.find?_cons,h]
section
variable{H:Heap}{g:FuncId}{k:Nat}{p:Amount→Bool}
end
theorem getQ_ref_loop(v:List Amount)(s:List UInt8)(hn:v.length<9223372036854775807):∀(post:List Amount)(i:Nat)(hd:v.drop i=post)(T:Env)(hT:Has T [(0,.sl .sh (v.map encA)),(1,.str s),(5,.int .i64 i)]),
 Goes cfg a56 k56_0 T Heap.nil (IsRet (.int .i64 (getQ post s))):=by
 intro post
 induction post with
 |nil=>
  intro i hd T hT
  have hge:=drop_ge hd
  exact goG 60 _ hT (.len (show lenA false (.sl .sh (v.map encA))=some (.int .i64 (↑v.length))from len_map _)<|.no (decide_eq_false (p:=(↑i:Int)<(↑v.length:Int)) (by omega))<|.fin ((.ret (.int .i64 0),{boxes:=[],toks:=[],loops:=[]:Heap})) rfl) (by kernel_rfl)
 |cons x post ih=>
  intro i hd T hT
  have hlt:=drop_lt hd
  have hnx:=drop_next hd
  rw[getQ_cons]
  by_cases hq:x.name=s
  ·rw[if_pos hq]
   exact goG 60 _ hT (.len (show lenA false (.sl .sh (v.map encA))=some (.int .i64 (↑v.length))from len_map _)<|.yes (decide_eq_true (p:=(↑i:Int)<(↑v.length:Int)) (by omega))<|.idx (show idxA 2 (.sl .sh (v.map encA)) (.int .i64 ↑i)=some (.ref (encA x).cells)from idx_row hd (by rfl))<|.yes (show(x.name==s)=true from(by simpa using hq))<|.idx (show idxA 2 (.sl .sh (v.map encA)) (.int .i64 ↑i)=some (.ref (encA x).cells)from idx_row hd (by rfl))<|.fin ((.ret (.int .i64 x.n),{boxes:=[],toks:=[],loops:=[]:Heap})) rfl) (by kernel_rfl)
  ·rw[if_neg hq]
   exact goG 60 _ hT (.len (show lenA false (.sl .sh (v.map encA))=some (.int .i64 (↑v.length))from len_map _)<|.yes (decide_eq_true (p:=(↑i:Int)<(↑v.length:Int)) (by omega))<|.idx (show idxA 2 (.sl .sh (v.map encA)) (.int .i64 ↑i)=some (.ref (encA x).cells)from idx_row hd (by rfl))<|.no (show(x.name==s)=false from Bool.eq_false_iff.2 (by simpa using hq))<|.bin (show binA .add (.int .i64 ↑i) (.int .i64 1)=some (.int .i64 (↑(i+1)))from inc_i (by omega))<|.cutQ k56_0 [(0,.sl .sh (v.map encA)),(1,.str s),(5,.int .i64 (↑(i+1)))] ({boxes:=[],toks:=[],loops:=[]:Heap}) (fun T hT=>(ih (i+(1:Nat)) hnx T hT))) (by kernel_rfl)
theorem getQ_ref(v:List Amount)(s:List UInt8)(hn:v.length<9223372036854775807):Gives cfg 56 [.sl .sh (v.map encA),.str s] (.int .i64 (getQ v s)):=by
 refine Gives.run (l56 _ _) ?_
 have h:=getQ_ref_loop v s hn v 0 rfl
 exact goG 60 [] trivial (.cutQ k56_0 [(0,.sl .sh (v.map encA)),(1,.str s),(5,.int .i64 0)] ({boxes:=[],toks:=[],loops:=[]:Heap}) (fun T hT=>(h T hT))) (by kernel_rfl)
def fitsV(need have_:List Amount):Bool:=need.all fun x=>decide (x.n≤getQ have_ x.name)
theorem fits_ref_loop(v w:List Amount)(hv:v.length<9223372036854775807)(hn:w.length<9223372036854775807):∀(post:List Amount)(i:Nat)(hd:v.drop i=post)(T:Env)(hT:Has T [(0,.sl .sh (v.map encA)),(1,.sl .sh (w.map encA)),(5,.int .i64 i)]),
 Goes cfg a88 k88_0 T Heap.nil (IsRet (.bool (fitsV post w))):=by
 intro post
 induction post with
 |nil=>
  intro i hd T hT
  have hge:=drop_ge hd
  exact goG 60 _ hT (.len (show lenA false (.sl .sh (v.map encA))=some (.int .i64 (↑v.length))from len_map _)<|.no (decide_eq_false (p:=(↑i:Int)<(↑v.length:Int)) (by omega))<|.fin ((.ret (.bool true),{boxes:=[],toks:=[],loops:=[]:Heap})) rfl) (by kernel_rfl)
 |cons x post ih=>
  intro i hd T hT
  have hlt:=drop_lt hd
  have hnx:=drop_next hd
  have hg:=getQ_ref w x.name hn
  have e:fitsV (x::post) w=(decide (x.n≤getQ w x.name)&&fitsV post w):=rfl
  rw[e]
  by_cases hq:x.n≤getQ w x.name
  ·rw[decide_eq_true hq,Bool.true_and]
   exact let ζ1:List AV:=[.sl .sh (w.map encA),.str x.name];goG 90 _ hT (.len (show lenA false (.sl .sh (v.map encA))=some (.int .i64 (↑v.length))from len_map _)<|.yes (decide_eq_true (p:=(↑i:Int)<(↑v.length:Int)) (by omega))<|.idx (show idxA 2 (.sl .sh (v.map encA)) (.int .i64 ↑i)=some (.ref (encA x).cells)from idx_row hd (by rfl))<|.idx (show idxA 2 (.sl .sh (v.map encA)) (.int .i64 ↑i)=some (.ref (encA x).cells)from idx_row hd (by rfl))<|.callK (ζ1) (.int .i64 (getQ w x.name)) (show Gives cfg (56:FuncId) ζ1 (.int .i64 (getQ w x.name))from hg)<|.no (decide_eq_false (p:=getQ w x.name<x.n) (by omega))<|.bin (show binA .add (.int .i64 ↑i) (.int .i64 1)=some (.int .i64 (↑(i+1)))from inc_i (by omega))<|.cutQ k88_0 [(0,.sl .sh (v.map encA)),(1,.sl .sh (w.map encA)),(5,.int .i64 (↑(i+1)))] ({boxes:=[],toks:=[],loops:=[]:Heap}) (fun T hT=>(ih (i+(1:Nat)) hnx T hT))) (by kernel_rfl)
  ·rw[decide_eq_false hq,Bool.false_and]
   exact let ζ1:List AV:=[.sl .sh (w.map encA),.str x.name];goG 90 _ hT (.len (show lenA false (.sl .sh (v.map encA))=some (.int .i64 (↑v.length))from len_map _)<|.yes (decide_eq_true (p:=(↑i:Int)<(↑v.length:Int)) (by omega))<|.idx (show idxA 2 (.sl .sh (v.map encA)) (.int .i64 ↑i)=some (.ref (encA x).cells)from idx_row hd (by rfl))<|.idx (show idxA 2 (.sl .sh (v.map encA)) (.int .i64 ↑i)=some (.ref (encA x).cells)from idx_row hd (by rfl))<|.callK (ζ1) (.int .i64 (getQ w x.name)) (show Gives cfg (56:FuncId) ζ1 (.int .i64 (getQ w x.name))from hg)<|.yes (decide_eq_true (p:=getQ w x.name<x.n) (by omega))<|.fin ((.ret (.bool false),{boxes:=[],toks:=[],loops:=[]:Heap})) rfl) (by kernel_rfl)
theorem fits_ref(v w:List Amount)(hv:v.length<9223372036854775807)(hn:w.length<9223372036854775807):Gives cfg 88 [.sl .sh (v.map encA),.sl .sh (w.map encA)] (.bool (fitsV v w)):=by
 refine Gives.run (l88 _ _) ?_
 have h:=fits_ref_loop v w hv hn v 0 rfl
 exact goG 60 [] trivial (.cutQ k88_0 [(0,.sl .sh (v.map encA)),(1,.sl .sh (w.map encA)),(5,.int .i64 0)] ({boxes:=[],toks:=[],loops:=[]:Heap}) (fun T hT=>(h T hT))) (by kernel_rfl)
end Go.Aa.T
set_option linter.unusedVariables false
set_option linter.unusedSimpArgs false
set_option maxRecDepth 100000
namespace Go.Aa.T
open Go.Aa Go.Proofs
def uqG(x:List UInt8):List (List UInt8)→List (List UInt8)
 |[]=>[]
 |y::l=>if y=x then uqG x l else y::uqG y l
def uq:List (List UInt8)→List (List UInt8)
 |[]=>[]
 |x::l=>x::uqG x l
def namesOf(l:List (List UInt8)):List (List UInt8):=uq (isort l)
section
variable(kk n:Nat)(B0:List (List AV))
end
end Go.Aa.T
set_option linter.unusedVariables false
set_option linter.unusedSimpArgs false
set_option maxRecDepth 100000
namespace Go.Aa.T
open Go.Aa Go.Proofs
def allNames(vs:List (List Amount)):List (List UInt8):=vs.flatMap fun v=>v.map Amount.name
end Go.Aa.T
