/-
  WHAT THE LAW LEANS ON, part 13 of 14: a machine of values and its soundness; the functions of the law upon it; what they come to.
-/
import Derived.Test.YthlhlfiklmmenaaGreatDoorYoncl
set_option linter.unusedVariables false
set_option linter.unusedSimpArgs false
set_option maxRecDepth 100000
namespace Go.Aa.T
open Go.Aa Go.Proofs
def nmB(l:List (List UInt8))(s:List UInt8):Bool:=l.any fun x=>x==s
theorem ixS_loop(l:List (List UInt8))(s:List UInt8)(hn:l.length<9223372036854775807):∀(post:List (List UInt8))(i:Nat)(hd:l.drop i=post)(T:Env)
 (hT:Has T [(0,.sl .sh (l.map .str)),(1,.str s),(7,.int .i64 l.length),(8,.int .i64 i)]),
 Goes cfg a216 k216_0 T Heap.nil (IsRet (.int .i64 (fidxB (fun x=>x==s) post i))):=by
 intro post
 induction post with
 |nil=>
  intro i hd T hT
  have hge:=drop_ge hd
  exact gG 60 _ hT (.no (dF ((↑i:Int)<(↑l.length:Int)))<|.fin ((.ret (.int .i64 (-1:Int)),{boxes:=[],toks:=[],loops:=[]:Heap})) rfl)
 |cons x post ih=>
  intro i hd T hT
  have hlt:=drop_lt hd
  have hnx:=drop_next hd
  by_cases h:s=x
  ·have e:fidxB (fun x=>x==s) (x::post) i=i:=by simp[fidxB,h]
   rw[e]
   exact gG 60 _ hT (.yes (dT ((↑i:Int)<(↑l.length:Int)))<|.idx (show idxA 1 (.sl .sh (List.map .str l)) (.int .i64 ↑i)=some (.ref (AV.str x).cells)from idx_row hd (by rfl))<|.yes (show(s==x)=true from(by simpa using h))<|.fin ((.ret (.int .i64 ↑i),{boxes:=[],toks:=[],loops:=[]:Heap})) rfl)
  ·have h':¬x=s:=fun e=>h e.symm
   have e:fidxB (fun x=>x==s) (x::post) i=fidxB (fun x=>x==s) post (i+1):=by simp[fidxB,h']
   rw[e]
   exact gG 60 _ hT (.yes (dT ((↑i:Int)<(↑l.length:Int)))<|.idx (show idxA 1 (.sl .sh (List.map .str l)) (.int .i64 ↑i)=some (.ref (AV.str x).cells)from idx_row hd (by rfl))<|.no (show(s==x)=false from Bool.eq_false_iff.2 (by simpa using h))<|.bin (iI i)<|.cutQ k216_0 [(0,.sl .sh (List.map .str l)),(1,.str s),(7,.int .i64 (↑l.length)),(8,.int .i64 (↑(i+1)))] ({boxes:=[],toks:=[],loops:=[]:Heap}) (fun T hT=>(ih (i+1) hnx T hT)))
theorem ctS_any(l:List (List UInt8))(s:List UInt8)(hn:l.length<9223372036854775807):Gives cfg 139 [.sl .sh (l.map .str),.str s] (.bool (nmB l s)):=by
 refine Gives.run (l139 _ _) ?_
 have h0:Gives cfg 216 [.sl .sh (l.map .str),.str s] (.int .i64 (fidxB (fun x=>x==s) l 0)):=by
  refine Gives.run (l216 _ _) ?_
  have h:=ixS_loop l s hn l 0 rfl
  exact gG 60 [] trivial (.len (lM .sh .str l)<|.cutQ k216_0 [(0,.sl .sh (List.map .str l)),(1,.str s),(7,.int .i64 (↑l.length)),(8,.int .i64 0)] ({boxes:=[],toks:=[],loops:=[]:Heap}) (fun T hT=>(h T hT)))
 have hf:decide (0≤fidxB (fun x=>x==s) l 0)=nmB l s:=fidxB_ge _ l 0
 rw[←hf]
 generalize fidxB (fun x=>x==s) l 0=c at h0⊢
 exact let ζ1:List AV:=[.sl .sh (List.map .str l),.str s];gG 60 [] trivial (.callK (ζ1) (.int .i64 c) h0<|.fin ((.ret (.bool (decide ((0:Int)≤c))),{boxes:=[],toks:=[],loops:=[]:Heap})) rfl)
def badP(s:St)(p:Pod):Bool:= !(p.node==[]||p.key==[])&&(!(skewS s p p.node).2||decide (p.most<(skewS s p p.node).1))
def badL(s:St)(l:List Pod):List (List UInt8):=(l.filter (badP s)).map Pod.name
def badS(s:St):List (List UInt8):=badL s s.pods
theorem badS_len(s:St):(badS s).length≤s.pods.length:=by
 unfold badS badL
 rw[List.length_map];exact List.length_filter_le _ _
theorem bad_yes{s:St}{p:Pod}{l:List Pod}(h:badP s p=true):badL s (p::l)=p.name::badL s l:=by simp[badL,List.filter_cons,h]
theorem bad_no{s:St}{p:Pod}{l:List Pod}(h:badP s p=false):badL s (p::l)=badL s l:=by simp[badL,List.filter_cons,h]
theorem ap_S{acc:List (List UInt8)}(x:List UInt8)(hn:acc.length≤100000)(bs:List (List AV))(ls:List LRec):
 appendA 1 16 ⟨bs,tkR .str acc,ls⟩ (rowF .str acc) (.sl .full [.str x])=some (rowF .str (acc++[x]),⟨bs,tkR .str (acc++[x]),ls⟩):=
 row_append_T AV.str (x:=x) (by simp;omega) (lenOk_map fun _=>rfl) rfl rfl
theorem bad_loop(s:St)(hp:s.pods.length≤1000)(hs:s.nodes.length≤1000)(hl:∀n∈s.nodes,n.labels.length<9223372036854775807):
 ∀(post:List Pod)(i:Nat)(hd:s.pods.drop i=post)(acc:List (List UInt8))(ha:acc.length≤i)(ex:List (List AV))(T:Env)
 (hT:Has T [(1,.ptr 0 0),(3,rowF .str acc),(9,.sl .sh (s.pods.map encPd)),(10,.int .i64 s.pods.length),(11,.int .i64 i)]),
 Goes cfg a137 k137_0 T ⟨(encSt s).cells::ex,tkR .str acc,[]⟩ (IsRet (rowF .str (acc++badL s post))):=by
 intro post
 induction post with
 |nil=>
  intro i hd acc ha ex T hT
  have hge:=drop_ge hd
  rw[show acc++badL s []=acc by simp[badL]]
  exact gG 60 _ hT (.no (dF ((↑i:Int)<(↑s.pods.length:Int)))<|.fin ((.ret (.sl (skF acc) (List.map .str acc)),{boxes:=[.sl .sh (s.nodes.map encN),.sl .sh (s.pods.map encPd),.sl .sh (s.buds.map encB)]::ex,toks:=tkR .str acc,loops:=[]:Heap})) rfl)
 |cons x post ih=>
  intro i hd acc ha ex T hT
  have hlt:=drop_lt hd
  have hnx:=drop_next hd
  have hxi:idxA 11 (.sl .sh (s.pods.map encPd)) (.int .i64 (i:Nat))=some (.ref (encPd x).cells):=idx_row (f:=encPd) hd rfl
  have hk:=skew_any s x x.node hp hs hl
  have ap:=ap_S (acc:=acc) x.name (by omega)
  have no:=fun(h:badP s x=false)=>ih (i+1) hnx acc (by omega) (ex++[(encPd x).cells])
  have yes:=ih (i+1) hnx (acc++[x.name]) (by simp;omega) (ex++[(encPd x).cells])
  by_cases h1:x.node=[]
  ·have e:badP s x=false:=by simp[badP,h1]
   rw[bad_no e]
   have n1:=no e
   exact let ζ1:List AV:=[.str x.name,.str x.owner,.int .i64 x.prio,.sl .sh (x.need.map encA),.sl .sh (x.labels.map encP),.sl .sh (x.sel.map encM),.sl .sh (x.tols.map encL),.str x.key,.int .i64 x.most,.str x.node,.bool x.hold];let ζ2:List AV:=[.sl .sh (s.nodes.map encN),.sl .sh (s.pods.map encPd),.sl .sh (s.buds.map encB)];let ζ3:List AV:=[.str [],.str [],.int .i64 0,.sl .full [],.sl .full [],.sl .full [],.sl .full [],.str [],.int .i64 0,.str [],.bool false];let ζ4:Heap:={boxes:=ζ2::(ex++[ζ1]),toks:=tkR .str acc,loops:=[]:Heap};gG 120 _ hT (.yes (dT ((↑i:Int)<(↑s.pods.length:Int)))<|.idx hxi<|.load (rfl:loadA true 11 {boxes:=ζ2::ex,toks:=tkR .str acc,loops:=[]:Heap} (.ref ζ1)=some (.agg ζ1))<|.store (show storeA 11 {boxes:=ζ2::(ex++[ζ3]),toks:=tkR .str acc,loops:=[]:Heap} (.ptr (ζ2::ex).length 0) (.agg ζ1)=some (ζ4)from store_box2 (cs:=ζ3) (cs':=ζ1) (by simp+zetaDelta) rfl (by simp+zetaDelta [List.set_append]))<|.load (show loadA false 1 ζ4 (.ptr (ζ2::ex).length 9)=some (.str x.node)from load_box (cs:=ζ1) (by simp+zetaDelta) rfl)<|.yes (show(x.node==[])=true from(by simpa using h1))<|.tt<|.bin (iI i)<|.cutQ k137_0 [(1,.ptr 0 0),(3,.sl (skF acc) (List.map .str acc)),(9,.sl .sh (s.pods.map encPd)),(10,.int .i64 (↑s.pods.length)),(11,.int .i64 (↑(i+1)))] (ζ4) (fun T hT=>(n1 T hT)))
  ·by_cases h2:x.key=[]
   ·have e:badP s x=false:=by simp[badP,h2]
    rw[bad_no e]
    have n1:=no e
    exact let ζ1:List AV:=[.str x.name,.str x.owner,.int .i64 x.prio,.sl .sh (x.need.map encA),.sl .sh (x.labels.map encP),.sl .sh (x.sel.map encM),.sl .sh (x.tols.map encL),.str x.key,.int .i64 x.most,.str x.node,.bool x.hold];let ζ2:List AV:=[.sl .sh (s.nodes.map encN),.sl .sh (s.pods.map encPd),.sl .sh (s.buds.map encB)];let ζ3:Heap:={boxes:=ζ2::(ex++[ζ1]),toks:=tkR .str acc,loops:=[]:Heap};let ζ4:List AV:=[.str [],.str [],.int .i64 0,.sl .full [],.sl .full [],.sl .full [],.sl .full [],.str [],.int .i64 0,.str [],.bool false];gG 120 _ hT (.yes (dT ((↑i:Int)<(↑s.pods.length:Int)))<|.idx hxi<|.load (rfl:loadA true 11 {boxes:=ζ2::ex,toks:=tkR .str acc,loops:=[]:Heap} (.ref ζ1)=some (.agg ζ1))<|.store (show storeA 11 {boxes:=ζ2::(ex++[ζ4]),toks:=tkR .str acc,loops:=[]:Heap} (.ptr (ζ2::ex).length 0) (.agg ζ1)=some (ζ3)from store_box2 (cs:=ζ4) (cs':=ζ1) (by simp+zetaDelta) rfl (by simp+zetaDelta [List.set_append]))<|.load (show loadA false 1 ζ3 (.ptr (ζ2::ex).length 9)=some (.str x.node)from load_box (cs:=ζ1) (by simp+zetaDelta) rfl)<|.no (show(x.node==[])=false from Bool.eq_false_iff.2 (by simpa using h1))<|.load (show loadA false 1 ζ3 (.ptr (ζ2::ex).length 7)=some (.str x.key)from load_box (cs:=ζ1) (by simp+zetaDelta) rfl)<|.yes (show(x.key==[])=true from(by simpa using h2))<|.bin (iI i)<|.cutQ k137_0 [(1,.ptr 0 0),(3,.sl (skF acc) (List.map .str acc)),(9,.sl .sh (s.pods.map encPd)),(10,.int .i64 (↑s.pods.length)),(11,.int .i64 (↑(i+1)))] (ζ3) (fun T hT=>(n1 T hT)))
   ·have e:badP s x=(!(skewS s x x.node).2||decide (x.most<(skewS s x x.node).1)):=by simp[badP,h1,h2]
    generalize skewS s x x.node=z at hk e
    obtain⟨k,ok⟩:=z
    simp only at hk e
    cases ok with
    |false=>
     have e':badP s x=true:=by rw[e];rfl
     rw[bad_yes e',show acc++x.name::badL s post=(acc++[x.name])++badL s post by simp]
     exact let ζ1:List AV:=[.str x.name,.str x.owner,.int .i64 x.prio,.sl .sh (x.need.map encA),.sl .sh (x.labels.map encP),.sl .sh (x.sel.map encM),.sl .sh (x.tols.map encL),.str x.key,.int .i64 x.most,.str x.node,.bool x.hold];let ζ2:List AV:=[.sl .sh (s.nodes.map encN),.sl .sh (s.pods.map encPd),.sl .sh (s.buds.map encB)];let ζ3:Heap:={boxes:=ζ2::(ex++[ζ1]),toks:=tkR .str acc,loops:=[]:Heap};let ζ4:List AV:=[.str [],.str [],.int .i64 0,.sl .full [],.sl .full [],.sl .full [],.sl .full [],.str [],.int .i64 0,.str [],.bool false];let ζ5:Heap:={boxes:=ζ2::(ex++[ζ1]),toks:=tkR .str (acc++[x.name]),loops:=[]:Heap};gG 160 _ hT (.yes (dT ((↑i:Int)<(↑s.pods.length:Int)))<|.idx hxi<|.load (rfl:loadA true 11 {boxes:=ζ2::ex,toks:=tkR .str acc,loops:=[]:Heap} (.ref ζ1)=some (.agg ζ1))<|.store (show storeA 11 {boxes:=ζ2::(ex++[ζ4]),toks:=tkR .str acc,loops:=[]:Heap} (.ptr (ζ2::ex).length 0) (.agg ζ1)=some (ζ3)from store_box2 (cs:=ζ4) (cs':=ζ1) (by simp+zetaDelta) rfl (by simp+zetaDelta [List.set_append]))<|.load (show loadA false 1 ζ3 (.ptr (ζ2::ex).length 9)=some (.str x.node)from load_box (cs:=ζ1) (by simp+zetaDelta) rfl)<|.no (show(x.node==[])=false from Bool.eq_false_iff.2 (by simpa using h1))<|.load (show loadA false 1 ζ3 (.ptr (ζ2::ex).length 7)=some (.str x.key)from load_box (cs:=ζ1) (by simp+zetaDelta) rfl)<|.no (show(x.key==[])=false from Bool.eq_false_iff.2 (by simpa using h2))<|.load (lB true 3 ζ3 0 0 (.agg ζ2) ζ2)<|.load (show loadA true 11 ζ3 (.ptr (ζ2::ex).length 0)=some (.agg ζ1)from load_box (cs:=ζ1) (by simp+zetaDelta) rfl)<|.load (show loadA false 1 ζ3 (.ptr (ζ2::ex).length 9)=some (.str x.node)from load_box (cs:=ζ1) (by simp+zetaDelta) rfl)<|.callK ([.agg ζ2,.agg ζ1,.str x.node]) (.tuple [.int .i64 k,.bool false]) hk<|.tt<|.tt<|.load (show loadA false 1 ζ3 (.ptr (ζ2::ex).length 0)=some (.str x.name)from load_box (cs:=ζ1) (by simp+zetaDelta) rfl)<|.append (show appendA 1 16 ζ3 (.sl (skF acc) (List.map .str acc)) (.sl .full [.str x.name])=some ((rowF .str (acc++[x.name]),ζ5))from ap _ _)<|.bin (iI i)<|.cutQ k137_0 [(1,.ptr 0 0),(3,.sl (skF (acc++[x.name])) (List.map .str (acc++[x.name]))),(9,.sl .sh (s.pods.map encPd)),(10,.int .i64 (↑s.pods.length)),(11,.int .i64 (↑(i+1)))] (ζ5) (fun T hT=>(yes T hT)))
    |true=>
     by_cases h3:x.most<k
     ·have e':badP s x=true:=by rw[e];simp[h3]
      rw[bad_yes e',show acc++x.name::badL s post=(acc++[x.name])++badL s post by simp]
      exact let ζ1:List AV:=[.str x.name,.str x.owner,.int .i64 x.prio,.sl .sh (x.need.map encA),.sl .sh (x.labels.map encP),.sl .sh (x.sel.map encM),.sl .sh (x.tols.map encL),.str x.key,.int .i64 x.most,.str x.node,.bool x.hold];let ζ2:List AV:=[.sl .sh (s.nodes.map encN),.sl .sh (s.pods.map encPd),.sl .sh (s.buds.map encB)];let ζ3:Heap:={boxes:=ζ2::(ex++[ζ1]),toks:=tkR .str acc,loops:=[]:Heap};let ζ4:List AV:=[.str [],.str [],.int .i64 0,.sl .full [],.sl .full [],.sl .full [],.sl .full [],.str [],.int .i64 0,.str [],.bool false];let ζ5:Heap:={boxes:=ζ2::(ex++[ζ1]),toks:=tkR .str (acc++[x.name]),loops:=[]:Heap};gG 160 _ hT (.yes (dT ((↑i:Int)<(↑s.pods.length:Int)))<|.idx hxi<|.load (rfl:loadA true 11 {boxes:=ζ2::ex,toks:=tkR .str acc,loops:=[]:Heap} (.ref ζ1)=some (.agg ζ1))<|.store (show storeA 11 {boxes:=ζ2::(ex++[ζ4]),toks:=tkR .str acc,loops:=[]:Heap} (.ptr (ζ2::ex).length 0) (.agg ζ1)=some (ζ3)from store_box2 (cs:=ζ4) (cs':=ζ1) (by simp+zetaDelta) rfl (by simp+zetaDelta [List.set_append]))<|.load (show loadA false 1 ζ3 (.ptr (ζ2::ex).length 9)=some (.str x.node)from load_box (cs:=ζ1) (by simp+zetaDelta) rfl)<|.no (show(x.node==[])=false from Bool.eq_false_iff.2 (by simpa using h1))<|.load (show loadA false 1 ζ3 (.ptr (ζ2::ex).length 7)=some (.str x.key)from load_box (cs:=ζ1) (by simp+zetaDelta) rfl)<|.no (show(x.key==[])=false from Bool.eq_false_iff.2 (by simpa using h2))<|.load (lB true 3 ζ3 0 0 (.agg ζ2) ζ2)<|.load (show loadA true 11 ζ3 (.ptr (ζ2::ex).length 0)=some (.agg ζ1)from load_box (cs:=ζ1) (by simp+zetaDelta) rfl)<|.load (show loadA false 1 ζ3 (.ptr (ζ2::ex).length 9)=some (.str x.node)from load_box (cs:=ζ1) (by simp+zetaDelta) rfl)<|.callK ([.agg ζ2,.agg ζ1,.str x.node]) (.tuple [.int .i64 k,.bool true]) hk<|.ff<|.load (show loadA false 1 ζ3 (.ptr (ζ2::ex).length 8)=some (.int .i64 x.most)from load_box (cs:=ζ1) (by simp+zetaDelta) rfl)<|.yes (dT (x.most<k))<|.load (show loadA false 1 ζ3 (.ptr (ζ2::ex).length 0)=some (.str x.name)from load_box (cs:=ζ1) (by simp+zetaDelta) rfl)<|.append (show appendA 1 16 ζ3 (.sl (skF acc) (List.map .str acc)) (.sl .full [.str x.name])=some ((rowF .str (acc++[x.name]),ζ5))from ap _ _)<|.bin (iI i)<|.cutQ k137_0 [(1,.ptr 0 0),(3,.sl (skF (acc++[x.name])) (List.map .str (acc++[x.name]))),(9,.sl .sh (s.pods.map encPd)),(10,.int .i64 (↑s.pods.length)),(11,.int .i64 (↑(i+1)))] (ζ5) (fun T hT=>(yes T hT)))
     ·have e':badP s x=false:=by rw[e];simp[h3]
      rw[bad_no e']
      have n1:=no e'
      exact let ζ1:List AV:=[.str x.name,.str x.owner,.int .i64 x.prio,.sl .sh (x.need.map encA),.sl .sh (x.labels.map encP),.sl .sh (x.sel.map encM),.sl .sh (x.tols.map encL),.str x.key,.int .i64 x.most,.str x.node,.bool x.hold];let ζ2:List AV:=[.sl .sh (s.nodes.map encN),.sl .sh (s.pods.map encPd),.sl .sh (s.buds.map encB)];let ζ3:Heap:={boxes:=ζ2::(ex++[ζ1]),toks:=tkR .str acc,loops:=[]:Heap};let ζ4:List AV:=[.str [],.str [],.int .i64 0,.sl .full [],.sl .full [],.sl .full [],.sl .full [],.str [],.int .i64 0,.str [],.bool false];gG 160 _ hT (.yes (dT ((↑i:Int)<(↑s.pods.length:Int)))<|.idx hxi<|.load (rfl:loadA true 11 {boxes:=ζ2::ex,toks:=tkR .str acc,loops:=[]:Heap} (.ref ζ1)=some (.agg ζ1))<|.store (show storeA 11 {boxes:=ζ2::(ex++[ζ4]),toks:=tkR .str acc,loops:=[]:Heap} (.ptr (ζ2::ex).length 0) (.agg ζ1)=some (ζ3)from store_box2 (cs:=ζ4) (cs':=ζ1) (by simp+zetaDelta) rfl (by simp+zetaDelta [List.set_append]))<|.load (show loadA false 1 ζ3 (.ptr (ζ2::ex).length 9)=some (.str x.node)from load_box (cs:=ζ1) (by simp+zetaDelta) rfl)<|.no (show(x.node==[])=false from Bool.eq_false_iff.2 (by simpa using h1))<|.load (show loadA false 1 ζ3 (.ptr (ζ2::ex).length 7)=some (.str x.key)from load_box (cs:=ζ1) (by simp+zetaDelta) rfl)<|.no (show(x.key==[])=false from Bool.eq_false_iff.2 (by simpa using h2))<|.load (lB true 3 ζ3 0 0 (.agg ζ2) ζ2)<|.load (show loadA true 11 ζ3 (.ptr (ζ2::ex).length 0)=some (.agg ζ1)from load_box (cs:=ζ1) (by simp+zetaDelta) rfl)<|.load (show loadA false 1 ζ3 (.ptr (ζ2::ex).length 9)=some (.str x.node)from load_box (cs:=ζ1) (by simp+zetaDelta) rfl)<|.callK ([.agg ζ2,.agg ζ1,.str x.node]) (.tuple [.int .i64 k,.bool true]) hk<|.ff<|.load (show loadA false 1 ζ3 (.ptr (ζ2::ex).length 8)=some (.int .i64 x.most)from load_box (cs:=ζ1) (by simp+zetaDelta) rfl)<|.no (dF (x.most<k))<|.bin (iI i)<|.cutQ k137_0 [(1,.ptr 0 0),(3,.sl (skF acc) (List.map .str acc)),(9,.sl .sh (s.pods.map encPd)),(10,.int .i64 (↑s.pods.length)),(11,.int .i64 (↑(i+1)))] (ζ3) (fun T hT=>(n1 T hT)))
theorem bad_any(s:St)(hp:s.pods.length≤1000)(hs:s.nodes.length≤1000)(hl:∀n∈s.nodes,n.labels.length<9223372036854775807):Gives cfg 137 [encSt s] (rowF .str (badS s)):=by
 refine Gives.run (l137 _ _) ?_
 have h:=bad_loop s hp hs hl s.pods 0 rfl [] (by simp) []
 have e:rowF AV.str ([]:List (List UInt8))=.sl .full []:=rfl
 rw[e,tk_nil,List.nil_append]at h
 rw[show badS s=badL s s.pods from rfl]
 exact gG 60 [] trivial (.len (lM .sh encPd s.pods)<|.cutQ k137_0 [(1,.ptr 0 0),(3,.sl .full []),(9,.sl .sh (s.pods.map encPd)),(10,.int .i64 (↑s.pods.length)),(11,.int .i64 0)] ({boxes:=[[.sl .sh (s.nodes.map encN),.sl .sh (s.pods.map encPd),.sl .sh (s.buds.map encB)]],toks:=[],loops:=[]:Heap}) (fun T hT=>(h T hT)))
end Go.Aa.T
set_option linter.unusedVariables false
set_option linter.unusedSimpArgs false
set_option maxRecDepth 100000
namespace Go.Aa.T
open Go.Aa Go.Proofs
theorem trunc_fn{B:List (List AV)}{nb k o:Nat}{g:FuncId}{cs:List AV}(hl:nb≤k):trunc nb 0 (.func g (.ptr k o::cs)) ⟨B,[],[]⟩=⟨B,[],[]⟩:=by
 unfold trunc
 have hw:within nb 0 (.func g (.ptr k o::cs))=false:=by
  have:¬k<nb:=by omega
  simp[within,in2,in1,in0,this]
 simp only[hw,List.length_nil,List.all_nil,Bool.true_and,Bool.and_false,Bool.false_and,Bool.false_eq_true,if_false,List.take_zero,ite_self]
theorem does_cl{B ex:List (List AV)}{tk:List Nat}{g:FuncId}{k o:Nat}{cs:List AV}{x:AV}{b:Bool}(h:lim cfg (.fn g) ([x]++(.ptr k o::cs)) ⟨B,tk,[]⟩=some (.ret (.bool b),⟨B++ex,tk,[]⟩))(hx:shutA x=x)(hB:B.all (·.all data0)=true):
 Does cfg (.call (.c (.func g (.ptr k o::cs))) [.c x]) ⟨B,tk,[]⟩ (.bool b) ⟨B,tk,[]⟩:=by
 have hd:=does_callE (xs:=[x]) (caps:=.ptr k o::cs) h (by show [shutA x]=[x];rw[hx]) (by show(([x].all isData)&&(Go.Aa.data0 (.ptr k o)&&cs.all data0))=false;rw[show Go.Aa.data0 (.ptr k o)=false from rfl,Bool.false_and,Bool.and_false])
 rw[show shutA (.bool b)=.bool b from rfl,show(⟨B,tk,[]⟩:Heap).boxes.length=B.length from rfl,show(⟨B,tk,[]⟩:Heap).toks.length=tk.length from rfl,trunc_plain hB]at hd
 exact hd
section
variable{H:Heap}{g:FuncId}{k:Nat}{p:Pod→Bool}
theorem idxPd_loop(hd:∀y:Pod,Does cfg (.call (.c (.func g [.ptr k 0])) [.c (encPd y)]) H (.bool (p y)) H)(l:List Pod)(hn:l.length<9223372036854775807):∀(post:List Pod)(i:Nat)(hdr:l.drop i=post)(T:Env)
 (hT:Has T [(0,.sl .sh (l.map encPd)),(1,.func g [.ptr k 0]),(7,.int .i64 l.length),(8,.int .i64 i)]),
 Goes cfg a217 k217_0 T H (fun r=>r=(.ret (.int .i64 (fidxB p post i)),H)):=by
 intro post
 induction post with
 |nil=>
  intro i hdr T hT
  have hge:=drop_ge hdr
  exact gG 60 _ hT (.no (dF ((↑i:Int)<(↑l.length:Int)))<|.fin ((.ret (.int .i64 (-1:Int)),H)) rfl)
 |cons x post ih=>
  intro i hdr T hT
  have hlt:=drop_lt hdr
  have hnx:=drop_next hdr
  have hdx:=hd x
  cases hp:p x with
  |true=>
   rw[hp]at hdx
   have e:fidxB p (x::post) i=i:=by simp[fidxB,hp]
   rw[e]
   exact let ζ1:List AV:=[.str x.name,.str x.owner,.int .i64 x.prio,.sl .sh (x.need.map encA),.sl .sh (x.labels.map encP),.sl .sh (x.sel.map encM),.sl .sh (x.tols.map encL),.str x.key,.int .i64 x.most,.str x.node,.bool x.hold];gG 60 _ hT (.yes (dT ((↑i:Int)<(↑l.length:Int)))<|.idx (iR 11 encPd hdr)<|.load (rfl:loadA true 11 H (.ref ζ1)=some (.agg ζ1))<|.effY hdx<|.tt<|.fin ((.ret (.int .i64 ↑i),H)) rfl)
  |false=>
   rw[hp]at hdx
   have e:fidxB p (x::post) i=fidxB p post (i+1):=by simp[fidxB,hp]
   rw[e]
   exact let ζ1:List AV:=[.str x.name,.str x.owner,.int .i64 x.prio,.sl .sh (x.need.map encA),.sl .sh (x.labels.map encP),.sl .sh (x.sel.map encM),.sl .sh (x.tols.map encL),.str x.key,.int .i64 x.most,.str x.node,.bool x.hold];gG 60 _ hT (.yes (dT ((↑i:Int)<(↑l.length:Int)))<|.idx (iR 11 encPd hdr)<|.load (rfl:loadA true 11 H (.ref ζ1)=some (.agg ζ1))<|.effY hdx<|.ff<|.bin (iI i)<|.cutQ k217_0 [(0,.sl .sh (l.map encPd)),(1,.func g [.ptr k 0]),(7,.int .i64 (↑l.length)),(8,.int .i64 (↑(i+1)))] (H) (fun T hT=>(ih (i+1) hnx T hT)))
theorem anyPd(hd:∀y:Pod,Does cfg (.call (.c (.func g [.ptr k 0])) [.c (encPd y)]) H (.bool (p y)) H)(l:List Pod)(hn:l.length<9223372036854775807):
 Does cfg (.call (.c (.func 141 [])) [.c (.sl .sh (l.map encPd)),.c (.func g [.ptr k 0])]) H (.bool (l.any p)) H:=by
 have hl:lim cfg (.fn 217) [.sl .sh (l.map encPd),.func g [.ptr k 0]] H=some (.ret (.int .i64 (fidxB p l 0)),H):=by
  rw[l217]
  have h:=idxPd_loop hd l hn l 0 rfl
  have key:Goes cfg a217 [.c c217] (initEnv [.sl .sh (l.map encPd),.func g [.ptr k 0]]) H (fun r=>r=(.ret (.int .i64 (fidxB p l 0)),H)):=by
   exact gG 60 [] trivial (.len (lM .sh encPd l)<|.cutQ k217_0 [(0,.sl .sh (l.map encPd)),(1,.func g [.ptr k 0]),(7,.int .i64 (↑l.length)),(8,.int .i64 0)] (H) (fun T hT=>(h T hT)))
  obtain⟨r,h,rfl⟩:=key
  exact h
 have h0:=does_callE (xs:=[.sl .sh (l.map encPd),.func g [.ptr k 0]]) (caps:=[]) hl rfl rfl
 rw[show shutA (.int .i64 (fidxB p l 0))=.int .i64 (fidxB p l 0)from rfl,trunc_self]at h0
 have hf:decide (0≤fidxB p l 0)=l.any p:=fidxB_ge p l 0
 have key:Goes cfg a141 [.c c141] (initEnv [.sl .sh (l.map encPd),.func g [.ptr k 0]]) H (fun r=>r=(.ret (.bool (l.any p)),H)):=by
  rw[←hf]
  generalize fidxB p l 0=c at h0
  exact gG 60 [] trivial (.effY h0<|.fin ((.ret (.bool (decide ((0:Int)≤c))),H)) rfl)
 obtain⟨r,h,rfl⟩:=key
 have h2:lim cfg (.fn 141) ([.sl .sh (l.map encPd),.func g [.ptr k 0]]++[]) H=some (.ret (.bool (l.any p)),H):=by
  rw[l141];exact h
 have h3:=does_callE (xs:=[.sl .sh (l.map encPd),.func g [.ptr k 0]]) (caps:=[]) h2 rfl rfl
 rwa [show shutA (.bool (l.any p))=.bool (l.any p)from rfl,trunc_self]at h3
end
section
variable{H:Heap}{g:FuncId}{k j:Nat}{p:Node→Bool}
theorem idxNd_loop(hd:∀y:Node,Does cfg (.call (.c (.func g [.ptr k 0,.ptr j 0])) [.c (encN y)]) H (.bool (p y)) H)(l:List Node)(hn:l.length<9223372036854775807):∀(post:List Node)(i:Nat)(hdr:l.drop i=post)(T:Env)
 (hT:Has T [(0,.sl .sh (l.map encN)),(1,.func g [.ptr k 0,.ptr j 0]),(7,.int .i64 l.length),(8,.int .i64 i)]),
 Goes cfg a218 k218_0 T H (fun r=>r=(.ret (.int .i64 (fidxB p post i)),H)):=by
 intro post
 induction post with
 |nil=>
  intro i hdr T hT
  have hge:=drop_ge hdr
  exact gG 60 _ hT (.no (dF ((↑i:Int)<(↑l.length:Int)))<|.fin ((.ret (.int .i64 (-1:Int)),H)) rfl)
 |cons x post ih=>
  intro i hdr T hT
  have hlt:=drop_lt hdr
  have hnx:=drop_next hdr
  have hdx:=hd x
  cases hp:p x with
  |true=>
   rw[hp]at hdx
   have e:fidxB p (x::post) i=i:=by simp[fidxB,hp]
   rw[e]
   exact let ζ1:List AV:=[.str x.name,.sl .sh (x.cap.map encA),.sl .sh (x.labels.map encP),.sl .sh (x.taints.map encT),.bool x.cordon];gG 60 _ hT (.yes (dT ((↑i:Int)<(↑l.length:Int)))<|.idx (iR 5 encN hdr)<|.load (rfl:loadA true 5 H (.ref ζ1)=some (.agg ζ1))<|.effY hdx<|.tt<|.fin ((.ret (.int .i64 ↑i),H)) rfl)
  |false=>
   rw[hp]at hdx
   have e:fidxB p (x::post) i=fidxB p post (i+1):=by simp[fidxB,hp]
   rw[e]
   exact let ζ1:List AV:=[.str x.name,.sl .sh (x.cap.map encA),.sl .sh (x.labels.map encP),.sl .sh (x.taints.map encT),.bool x.cordon];let ζ2:List AV:=[.ptr k 0,.ptr j 0];gG 60 _ hT (.yes (dT ((↑i:Int)<(↑l.length:Int)))<|.idx (iR 5 encN hdr)<|.load (rfl:loadA true 5 H (.ref ζ1)=some (.agg ζ1))<|.effY hdx<|.ff<|.bin (iI i)<|.cutQ k218_0 [(0,.sl .sh (l.map encN)),(1,.func g ζ2),(7,.int .i64 (↑l.length)),(8,.int .i64 (↑(i+1)))] (H) (fun T hT=>(ih (i+1) hnx T hT)))
theorem anyNd(hd:∀y:Node,Does cfg (.call (.c (.func g [.ptr k 0,.ptr j 0])) [.c (encN y)]) H (.bool (p y)) H)(l:List Node)(hn:l.length<9223372036854775807):
 Does cfg (.call (.c (.func 144 [])) [.c (.sl .sh (l.map encN)),.c (.func g [.ptr k 0,.ptr j 0])]) H (.bool (l.any p)) H:=by
 have hl:lim cfg (.fn 218) [.sl .sh (l.map encN),.func g [.ptr k 0,.ptr j 0]] H=some (.ret (.int .i64 (fidxB p l 0)),H):=by
  rw[l218]
  have h:=idxNd_loop hd l hn l 0 rfl
  have key:Goes cfg a218 [.c c218] (initEnv [.sl .sh (l.map encN),.func g [.ptr k 0,.ptr j 0]]) H (fun r=>r=(.ret (.int .i64 (fidxB p l 0)),H)):=by
   exact gG 60 [] trivial (.len (lM .sh encN l)<|.cutQ k218_0 [(0,.sl .sh (l.map encN)),(1,.func g [.ptr k 0,.ptr j 0]),(7,.int .i64 (↑l.length)),(8,.int .i64 0)] (H) (fun T hT=>(h T hT)))
  obtain⟨r,h,rfl⟩:=key
  exact h
 have h0:=does_callE (xs:=[.sl .sh (l.map encN),.func g [.ptr k 0,.ptr j 0]]) (caps:=[]) hl rfl rfl
 rw[show shutA (.int .i64 (fidxB p l 0))=.int .i64 (fidxB p l 0)from rfl,trunc_self]at h0
 have hf:decide (0≤fidxB p l 0)=l.any p:=fidxB_ge p l 0
 have key:Goes cfg a144 [.c c144] (initEnv [.sl .sh (l.map encN),.func g [.ptr k 0,.ptr j 0]]) H (fun r=>r=(.ret (.bool (l.any p)),H)):=by
  rw[←hf]
  generalize fidxB p l 0=c at h0
  exact gG 60 [] trivial (.effY h0<|.fin ((.ret (.bool (decide ((0:Int)≤c))),H)) rfl)
 obtain⟨r,h,rfl⟩:=key
 have h2:lim cfg (.fn 144) ([.sl .sh (l.map encN),.func g [.ptr k 0,.ptr j 0]]++[]) H=some (.ret (.bool (l.any p)),H):=by
  rw[l144];exact h
 have h3:=does_callE (xs:=[.sl .sh (l.map encN),.func g [.ptr k 0,.ptr j 0]]) (caps:=[]) h2 rfl rfl
 rwa [show shutA (.bool (l.any p))=.bool (l.any p)from rfl,trunc_self]at h3
end
def wtB(s:St)(p:Pod):Bool:=(worstB p.tols ((findG Node.name s.nodes p.node).getD noN).taints).isSome
def twP(p x:Pod):Bool:=x.owner==p.owner&&(!x.hold&&Op.bytesLess x.name p.name)
def twB(s:St)(p:Pod):Bool:= !(p.owner==[])&&(onS s p.node).any (twP p)
structure StB(s:St):Prop where
 ins:StIn s
 nodes:s.nodes.length≤500
 cap:∀n∈s.nodes,n.cap.length≤1000
 nd:∀n∈s.nodes,NdIn n
 pd:∀p∈s.pods,PdIn p
theorem hp4(s:St){lo hi:AV}(hl:Fl lo)(hh:Fl hi){ex:List (List AV)}(he:ex.all (·.all data0)=true):((encSt s).cells::[lo,hi]::ex).all (·.all data0)=true:=by
 rw[List.all_cons,List.all_cons,he,encSt_d]
 show(true&&((Go.Aa.data0 lo&&(Go.Aa.data0 hi&&true))&&true))=true
 rw[hl.d0,hh.d0];rfl
theorem hp2(s:St){lo hi:AV}(hl:Fl lo)(hh:Fl hi){ex:List (List AV)}(he:ex.all (·.all data0)=true):((encSt s).cells::[lo,hi]::(encSt s).cells::[lo,hi]::ex).all (·.all data0)=true:=
 hp4 s hl hh (hp4 s hl hh he)
theorem cl136(s:St)(h:StB s){lo hi:AV}(hl:Fl lo)(hh:Fl hi)(tk:List Nat)(ex:List (List AV))(he:ex.all (·.all data0)=true)(x:Pod)(hx:PdIn x):
 Does cfg (.call (.c (.func 136 [.ptr 2 0])) [.c (encPd x)]) ⟨(encSt s).cells::[lo,hi]::(encSt s).cells::[lo,hi]::ex,tk,[]⟩ (.bool (wtB s x)) ⟨(encSt s).cells::[lo,hi]::(encSt s).cells::[lo,hi]::ex,tk,[]⟩:=by
 have f:=findN_any s.nodes x.node h.ins.nodes
 cases hf:findG Node.name s.nodes x.node with
 |none=>
  rw[hf]at f
  have w:=worst_any x.tols noN.taints hx.tols (by simp[noN])
  have e:wtB s x=(worstB x.tols noN.taints).isSome:=by unfold wtB;rw[hf];rfl
  have key:Goes cfg a136 [.c c136] (initEnv [encPd x,.ptr 2 0]) ⟨(encSt s).cells::[lo,hi]::(encSt s).cells::[lo,hi]::ex,tk,[]⟩ (fun r=>r=(.ret (.bool (wtB s x)),⟨(encSt s).cells::[lo,hi]::(encSt s).cells::[lo,hi]::(ex++[(encPd x).cells,(encN noN).cells,(encT ((worstB x.tols noN.taints).getD noT)).cells]),tk,[]⟩)):=by
   rw[e]
   have w:Gives cfg 84 [.sl .sh (x.tols.map encL),.sl .sh []] (worstV (worstB x.tols noN.taints)):=w
   unfold worstV at w
   generalize worstB x.tols noN.taints=q at w⊢
   exact let ζ1:List AV:=[.str x.name,.str x.owner,.int .i64 x.prio,.sl .sh (x.need.map encA),.sl .sh (x.labels.map encP),.sl .sh (x.sel.map encM),.sl .sh (x.tols.map encL),.str x.key,.int .i64 x.most,.str x.node,.bool x.hold];let ζ2:List AV:=[.sl .sh (s.nodes.map encN),.sl .sh (s.pods.map encPd),.sl .sh (s.buds.map encB)];let ζ3:List AV:=[.str [],.sl .sh [],.sl .sh [],.sl .sh [],.bool false];let ζ4:List AV:=[.str (q.getD noT).key,.str (q.getD noT).val,.bool (q.getD noT).hard];let ζ5:Heap:={boxes:=ζ2::[lo,hi]::ζ2::[lo,hi]::(ex++[ζ1,ζ3]),toks:=tk,loops:=[]:Heap};let ζ6:Heap:={boxes:=ζ2::[lo,hi]::ζ2::[lo,hi]::(ex++[ζ1,ζ3,ζ4]),toks:=tk,loops:=[]:Heap};let ζ7:Heap:={boxes:=ζ2::[lo,hi]::ζ2::[lo,hi]::(ex++[ζ1]),toks:=tk,loops:=[]:Heap};let ζ8:List AV:=[.str [],.sl .full [],.sl .full [],.sl .full [],.bool false];let ζ9:List AV:=[.sl .sh (s.nodes.map encN),.str x.node];let ζ10:List AV:=[.sl .sh (x.tols.map encL),.sl .sh []];gG 120 [] trivial (.load (lB false 1 ζ7 2 0 (.sl .sh (s.nodes.map encN)) ζ2)<|.load (show loadA false 1 ζ7 (.ptr (ζ2::[lo,hi]::ζ2::[lo,hi]::ex).length 9)=some (.str x.node)from load_box (cs:=ζ1) (by simp+zetaDelta) rfl)<|.callK (ζ9) (.tuple [.agg ζ3,.bool false]) f<|.store (show storeA 5 {boxes:=ζ2::[lo,hi]::ζ2::[lo,hi]::(ex++[ζ1]++[ζ8]),toks:=tk,loops:=[]:Heap} (.ptr (ζ2::[lo,hi]::ζ2::[lo,hi]::(ex++[ζ1])).length 0) (.agg ζ3)=some (ζ5)from store_box2 (cs:=ζ8) (cs':=ζ3) (by simp+zetaDelta) rfl (by simp+zetaDelta [List.set_append]))<|.load (show loadA false 1 ζ5 (.ptr (ζ2::[lo,hi]::ζ2::[lo,hi]::ex).length 6)=some (.sl .sh (x.tols.map encL))from load_box (cs:=ζ1) (by simp+zetaDelta) rfl)<|.load (show loadA false 1 ζ5 (.ptr (ζ2::[lo,hi]::ζ2::[lo,hi]::(ex++[ζ1])).length 3)=some (.sl .sh [])from load_box (cs:=ζ3) (by simp+zetaDelta) rfl)<|.callK (ζ10) (.tuple [.agg ζ4,.bool q.isSome]) w<|.store (show storeA 3 {boxes:=ζ2::[lo,hi]::ζ2::[lo,hi]::(ex++[ζ1,ζ3]++[[AV.str [],.str [],.bool false]]),toks:=tk,loops:=[]:Heap} (.ptr (ζ2::[lo,hi]::ζ2::[lo,hi]::(ex++[ζ1,ζ3])).length 0) (.agg ζ4)=some (ζ6)from store_box2 (cs:=[.str [],.str [],.bool false]) (cs':=ζ4) (by simp+zetaDelta) rfl (by simp+zetaDelta [List.set_append]))<|.fin ((.ret (.bool q.isSome),ζ6)) rfl)
  obtain⟨r,h1,rfl⟩:=key
  exact does_cl (ex:=[(encPd x).cells,(encN noN).cells,(encT ((worstB x.tols noN.taints).getD noT)).cells]) (by rw[show [encPd x]++[AV.ptr 2 0]=[encPd x,.ptr 2 0]from rfl,l136,h1];simp) rfl (hp2 s hl hh he)
 |some n=>
  rw[hf]at f
  have w:=worst_any x.tols n.taints hx.tols (h.nd n (find_in hf)).taints
  have e:wtB s x=(worstB x.tols n.taints).isSome:=by unfold wtB;rw[hf];rfl
  have key:Goes cfg a136 [.c c136] (initEnv [encPd x,.ptr 2 0]) ⟨(encSt s).cells::[lo,hi]::(encSt s).cells::[lo,hi]::ex,tk,[]⟩ (fun r=>r=(.ret (.bool (wtB s x)),⟨(encSt s).cells::[lo,hi]::(encSt s).cells::[lo,hi]::(ex++[(encPd x).cells,(encN n).cells,(encT ((worstB x.tols n.taints).getD noT)).cells]),tk,[]⟩)):=by
   rw[e]
   unfold worstV at w
   generalize worstB x.tols n.taints=q at w⊢
   exact let ζ1:List AV:=[.str x.name,.str x.owner,.int .i64 x.prio,.sl .sh (x.need.map encA),.sl .sh (x.labels.map encP),.sl .sh (x.sel.map encM),.sl .sh (x.tols.map encL),.str x.key,.int .i64 x.most,.str x.node,.bool x.hold];let ζ2:List AV:=[.sl .sh (s.nodes.map encN),.sl .sh (s.pods.map encPd),.sl .sh (s.buds.map encB)];let ζ3:List AV:=[.str n.name,.sl .sh (n.cap.map encA),.sl .sh (n.labels.map encP),.sl .sh (n.taints.map encT),.bool n.cordon];let ζ4:List AV:=[.str (q.getD noT).key,.str (q.getD noT).val,.bool (q.getD noT).hard];let ζ5:Heap:={boxes:=ζ2::[lo,hi]::ζ2::[lo,hi]::(ex++[ζ1,ζ3]),toks:=tk,loops:=[]:Heap};let ζ6:Heap:={boxes:=ζ2::[lo,hi]::ζ2::[lo,hi]::(ex++[ζ1,ζ3,ζ4]),toks:=tk,loops:=[]:Heap};let ζ7:Heap:={boxes:=ζ2::[lo,hi]::ζ2::[lo,hi]::(ex++[ζ1]),toks:=tk,loops:=[]:Heap};let ζ8:List AV:=[.str [],.sl .full [],.sl .full [],.sl .full [],.bool false];let ζ9:List AV:=[.sl .sh (x.tols.map encL),.sl .sh (n.taints.map encT)];let ζ10:List AV:=[.sl .sh (s.nodes.map encN),.str x.node];gG 120 [] trivial (.load (lB false 1 ζ7 2 0 (.sl .sh (s.nodes.map encN)) ζ2)<|.load (show loadA false 1 ζ7 (.ptr (ζ2::[lo,hi]::ζ2::[lo,hi]::ex).length 9)=some (.str x.node)from load_box (cs:=ζ1) (by simp+zetaDelta) rfl)<|.callK (ζ10) (.tuple [.agg ζ3,.bool true]) f<|.store (show storeA 5 {boxes:=ζ2::[lo,hi]::ζ2::[lo,hi]::(ex++[ζ1]++[ζ8]),toks:=tk,loops:=[]:Heap} (.ptr (ζ2::[lo,hi]::ζ2::[lo,hi]::(ex++[ζ1])).length 0) (.agg ζ3)=some (ζ5)from store_box2 (cs:=ζ8) (cs':=ζ3) (by simp+zetaDelta) rfl (by simp+zetaDelta [List.set_append]))<|.load (show loadA false 1 ζ5 (.ptr (ζ2::[lo,hi]::ζ2::[lo,hi]::ex).length 6)=some (.sl .sh (x.tols.map encL))from load_box (cs:=ζ1) (by simp+zetaDelta) rfl)<|.load (show loadA false 1 ζ5 (.ptr (ζ2::[lo,hi]::ζ2::[lo,hi]::(ex++[ζ1])).length 3)=some (.sl .sh (n.taints.map encT))from load_box (cs:=ζ3) (by simp+zetaDelta) rfl)<|.callK (ζ9) (.tuple [.agg ζ4,.bool q.isSome]) w<|.store (show storeA 3 {boxes:=ζ2::[lo,hi]::ζ2::[lo,hi]::(ex++[ζ1,ζ3]++[[AV.str [],.str [],.bool false]]),toks:=tk,loops:=[]:Heap} (.ptr (ζ2::[lo,hi]::ζ2::[lo,hi]::(ex++[ζ1,ζ3])).length 0) (.agg ζ4)=some (ζ6)from store_box2 (cs:=[.str [],.str [],.bool false]) (cs':=ζ4) (by simp+zetaDelta) rfl (by simp+zetaDelta [List.set_append]))<|.fin ((.ret (.bool q.isSome),ζ6)) rfl)
  obtain⟨r,h1,rfl⟩:=key
  exact does_cl (ex:=[(encPd x).cells,(encN n).cells,(encT ((worstB x.tols n.taints).getD noT)).cells]) (by rw[show [encPd x]++[AV.ptr 2 0]=[encPd x,.ptr 2 0]from rfl,l136,h1];simp) rfl (hp2 s hl hh he)
theorem cl138(s:St)(h:StB s){lo hi:AV}(hl:Fl lo)(hh:Fl hi)(tk:List Nat)(l:List (List UInt8))(hn:l.length<9223372036854775807)(ex:List (List AV))(he:ex.all (·.all data0)=true)(x:Pod):
 Does cfg (.call (.c (.func 138 [.ptr 4 0])) [.c (encPd x)]) ⟨(encSt s).cells::[lo,hi]::(encSt s).cells::[lo,hi]::[.sl .sh (l.map .str)]::ex,tk,[]⟩ (.bool (nmB l x.name)) ⟨(encSt s).cells::[lo,hi]::(encSt s).cells::[lo,hi]::[.sl .sh (l.map .str)]::ex,tk,[]⟩:=by
 have c:=ctS_any l x.name hn
 have key:Goes cfg a138 [.c c138] (initEnv [encPd x,.ptr 4 0]) ⟨(encSt s).cells::[lo,hi]::(encSt s).cells::[lo,hi]::[.sl .sh (l.map .str)]::ex,tk,[]⟩ (fun r=>r=(.ret (.bool (nmB l x.name)),⟨(encSt s).cells::[lo,hi]::(encSt s).cells::[lo,hi]::[.sl .sh (l.map .str)]::(ex++[(encPd x).cells]),tk,[]⟩)):=by
  exact let ζ2:List AV:=[.sl .sh (s.nodes.map encN),.sl .sh (s.pods.map encPd),.sl .sh (s.buds.map encB)];let ζ1:Heap:={boxes:=ζ2::[lo,hi]::ζ2::[lo,hi]::[.sl .sh (List.map .str l)]::(ex++[[AV.str x.name,.str x.owner,.int .i64 x.prio,.sl .sh (x.need.map encA),.sl .sh (x.labels.map encP),.sl .sh (x.sel.map encM),.sl .sh (x.tols.map encL),.str x.key,.int .i64 x.most,.str x.node,.bool x.hold]]),toks:=tk,loops:=[]:Heap};let ζ3:List AV:=[.sl .sh (List.map .str l),.str x.name];gG 120 [] trivial (.load (lB false 1 ζ1 4 0 (.sl .sh (List.map .str l)) [.sl .sh (List.map .str l)])<|.load (show loadA false 1 ζ1 (.ptr (ζ2::[lo,hi]::ζ2::[lo,hi]::[.sl .sh (List.map .str l)]::ex).length 0)=some (.str x.name)from load_box (cs:=[.str x.name,.str x.owner,.int .i64 x.prio,.sl .sh (x.need.map encA),.sl .sh (x.labels.map encP),.sl .sh (x.sel.map encM),.sl .sh (x.tols.map encL),.str x.key,.int .i64 x.most,.str x.node,.bool x.hold]) (by simp+zetaDelta) rfl)<|.callK (ζ3) (.bool (nmB l x.name)) c<|.fin ((.ret (.bool (nmB l x.name)),ζ1)) rfl)
 obtain⟨r,h1,rfl⟩:=key
 exact does_cl (ex:=[(encPd x).cells]) (by rw[show [encPd x]++[AV.ptr 4 0]=[encPd x,.ptr 4 0]from rfl,l138,h1];simp) rfl (hp2 s hl hh (by rw[List.all_cons,he];rfl))
theorem cl142(s:St)(h:StB s){lo hi:AV}(hl:Fl lo)(hh:Fl hi)(tk:List Nat)(ex:List (List AV))(he:ex.all (·.all data0)=true)(p x:Pod):
 Does cfg (.call (.c (.func 142 [.ptr (ex.length+4) 0])) [.c (encPd x)]) ⟨(encSt s).cells::[lo,hi]::(encSt s).cells::[lo,hi]::(ex++[(encPd p).cells]),tk,[]⟩ (.bool (twP p x)) ⟨(encSt s).cells::[lo,hi]::(encSt s).cells::[lo,hi]::(ex++[(encPd p).cells]),tk,[]⟩:=by
 have key:Goes cfg a142 [.c c142] (initEnv [encPd x,.ptr (ex.length+4) 0]) ⟨(encSt s).cells::[lo,hi]::(encSt s).cells::[lo,hi]::(ex++[(encPd p).cells]),tk,[]⟩ (fun r=>r=(.ret (.bool (twP p x)),⟨(encSt s).cells::[lo,hi]::(encSt s).cells::[lo,hi]::(ex++[(encPd p).cells]++[(encPd x).cells]),tk,[]⟩)):=by
  by_cases h1:x.owner=p.owner
  ·cases h2:x.hold with
   |true=>
    have e:twP p x=false:=by simp[twP,h1,h2]
    rw[e]
    exact let ζ2:List AV:=[.str p.name,.str p.owner,.int .i64 p.prio,.sl .sh (p.need.map encA),.sl .sh (p.labels.map encP),.sl .sh (p.sel.map encM),.sl .sh (p.tols.map encL),.str p.key,.int .i64 p.most,.str p.node,.bool p.hold];let ζ3:List AV:=[.sl .sh (s.nodes.map encN),.sl .sh (s.pods.map encPd),.sl .sh (s.buds.map encB)];let ζ4:List AV:=[.str x.name,.str x.owner,.int .i64 x.prio,.sl .sh (x.need.map encA),.sl .sh (x.labels.map encP),.sl .sh (x.sel.map encM),.sl .sh (x.tols.map encL),.str x.key,.int .i64 x.most,.str x.node,.bool x.hold];let ζ1:Heap:={boxes:=ζ3::[lo,hi]::ζ3::[lo,hi]::(ex++[ζ2]++[ζ4]),toks:=tk,loops:=[]:Heap};gG 120 [] trivial (.load (show loadA false 1 ζ1 (.ptr (ζ3::[lo,hi]::ζ3::[lo,hi]::(ex++[ζ2])).length 1)=some (.str x.owner)from load_box (cs:=ζ4) (by simp+zetaDelta) rfl)<|.load (lB false 1 ζ1 (ex.length+4) 1 (.str p.owner) ζ2)<|.yes (show(x.owner==p.owner)=true from(by simpa using h1))<|.load (show loadA false 1 ζ1 (.ptr (ζ3::[lo,hi]::ζ3::[lo,hi]::(ex++[ζ2])).length 10)=some (.bool x.hold)from load_box (cs:=ζ4) (by simp+zetaDelta) rfl)<|.no (show(!x.hold)=false from by have hh:x.hold=true:=(by simp+zetaDelta [h2]);simp[hh])<|.fin ((.ret (.bool false),ζ1)) rfl)
   |false=>
    have e:twP p x=Op.bytesLess x.name p.name:=by simp[twP,h1,h2]
    rw[e]
    exact let ζ2:List AV:=[.str p.name,.str p.owner,.int .i64 p.prio,.sl .sh (p.need.map encA),.sl .sh (p.labels.map encP),.sl .sh (p.sel.map encM),.sl .sh (p.tols.map encL),.str p.key,.int .i64 p.most,.str p.node,.bool p.hold];let ζ3:List AV:=[.sl .sh (s.nodes.map encN),.sl .sh (s.pods.map encPd),.sl .sh (s.buds.map encB)];let ζ4:List AV:=[.str x.name,.str x.owner,.int .i64 x.prio,.sl .sh (x.need.map encA),.sl .sh (x.labels.map encP),.sl .sh (x.sel.map encM),.sl .sh (x.tols.map encL),.str x.key,.int .i64 x.most,.str x.node,.bool x.hold];let ζ1:Heap:={boxes:=ζ3::[lo,hi]::ζ3::[lo,hi]::(ex++[ζ2]++[ζ4]),toks:=tk,loops:=[]:Heap};gG 120 [] trivial (.load (show loadA false 1 ζ1 (.ptr (ζ3::[lo,hi]::ζ3::[lo,hi]::(ex++[ζ2])).length 1)=some (.str x.owner)from load_box (cs:=ζ4) (by simp+zetaDelta) rfl)<|.load (lB false 1 ζ1 (ex.length+4) 1 (.str p.owner) ζ2)<|.yes (show(x.owner==p.owner)=true from(by simpa using h1))<|.load (show loadA false 1 ζ1 (.ptr (ζ3::[lo,hi]::ζ3::[lo,hi]::(ex++[ζ2])).length 10)=some (.bool x.hold)from load_box (cs:=ζ4) (by simp+zetaDelta) rfl)<|.yes (show(!x.hold)=true from by have hh:¬(x.hold=true):=(by simp+zetaDelta [h2]);simp[hh])<|.load (show loadA false 1 ζ1 (.ptr (ζ3::[lo,hi]::ζ3::[lo,hi]::(ex++[ζ2])).length 0)=some (.str x.name)from load_box (cs:=ζ4) (by simp+zetaDelta) rfl)<|.load (lB false 1 ζ1 (ex.length+4) 0 (.str p.name) ζ2)<|.fin ((.ret (.bool (Op.bytesLess x.name p.name)),ζ1)) rfl)
  ·have e:twP p x=false:=by simp[twP,h1]
   rw[e]
   exact let ζ2:List AV:=[.str p.name,.str p.owner,.int .i64 p.prio,.sl .sh (p.need.map encA),.sl .sh (p.labels.map encP),.sl .sh (p.sel.map encM),.sl .sh (p.tols.map encL),.str p.key,.int .i64 p.most,.str p.node,.bool p.hold];let ζ3:List AV:=[.sl .sh (s.nodes.map encN),.sl .sh (s.pods.map encPd),.sl .sh (s.buds.map encB)];let ζ1:Heap:={boxes:=ζ3::[lo,hi]::ζ3::[lo,hi]::(ex++[ζ2]++[[AV.str x.name,.str x.owner,.int .i64 x.prio,.sl .sh (x.need.map encA),.sl .sh (x.labels.map encP),.sl .sh (x.sel.map encM),.sl .sh (x.tols.map encL),.str x.key,.int .i64 x.most,.str x.node,.bool x.hold]]),toks:=tk,loops:=[]:Heap};gG 120 [] trivial (.load (show loadA false 1 ζ1 (.ptr (ζ3::[lo,hi]::ζ3::[lo,hi]::(ex++[ζ2])).length 1)=some (.str x.owner)from load_box (cs:=[.str x.name,.str x.owner,.int .i64 x.prio,.sl .sh (x.need.map encA),.sl .sh (x.labels.map encP),.sl .sh (x.sel.map encM),.sl .sh (x.tols.map encL),.str x.key,.int .i64 x.most,.str x.node,.bool x.hold]) (by simp+zetaDelta) rfl)<|.load (lB false 1 ζ1 (ex.length+4) 1 (.str p.owner) ζ2)<|.no (show(x.owner==p.owner)=false from Bool.eq_false_iff.2 (by simpa using h1))<|.ff<|.fin ((.ret (.bool false),ζ1)) rfl)
 obtain⟨r,h1,rfl⟩:=key
 exact does_cl (ex:=[(encPd x).cells]) (by rw[show [encPd x]++[AV.ptr (ex.length+4) 0]=[encPd x,.ptr (ex.length+4) 0]from rfl,l142,h1];simp) rfl (hp2 s hl hh (by rw[List.all_append,he];rfl))
theorem cl140(s:St)(h:StB s){lo hi:AV}(hl:Fl lo)(hh:Fl hi)(tk:List Nat)(ex:List (List AV))(he:ex.all (·.all data0)=true)(x:Pod):
 Does cfg (.call (.c (.func 140 [.ptr 2 0])) [.c (encPd x)]) ⟨(encSt s).cells::[lo,hi]::(encSt s).cells::[lo,hi]::ex,tk,[]⟩ (.bool (twB s x)) ⟨(encSt s).cells::[lo,hi]::(encSt s).cells::[lo,hi]::ex,tk,[]⟩:=by
 have o:=on_any s x.node h.ins.pods
 have hlen:=on_len s x.node
 have hp:=h.ins.pods
 have a:=anyPd (fun y=>cl142 s h hl hh tk ex he x y) (onS s x.node) (by omega)
 have key:Goes cfg a140 [.c c140] (initEnv [encPd x,.ptr 2 0]) ⟨(encSt s).cells::[lo,hi]::(encSt s).cells::[lo,hi]::ex,tk,[]⟩ (fun r=>r=(.ret (.bool (twB s x)),⟨(encSt s).cells::[lo,hi]::(encSt s).cells::[lo,hi]::(ex++[(encPd x).cells]),tk,[]⟩)):=by
  by_cases h1:x.owner=[]
  ·have e:twB s x=false:=by simp[twB,h1]
   rw[e]
   exact let ζ2:List AV:=[.sl .sh (s.nodes.map encN),.sl .sh (s.pods.map encPd),.sl .sh (s.buds.map encB)];let ζ1:Heap:={boxes:=ζ2::[lo,hi]::ζ2::[lo,hi]::(ex++[[AV.str x.name,.str x.owner,.int .i64 x.prio,.sl .sh (x.need.map encA),.sl .sh (x.labels.map encP),.sl .sh (x.sel.map encM),.sl .sh (x.tols.map encL),.str x.key,.int .i64 x.most,.str x.node,.bool x.hold]]),toks:=tk,loops:=[]:Heap};gG 120 [] trivial (.load (show loadA false 1 ζ1 (.ptr (ζ2::[lo,hi]::ζ2::[lo,hi]::ex).length 1)=some (.str x.owner)from load_box (cs:=[.str x.name,.str x.owner,.int .i64 x.prio,.sl .sh (x.need.map encA),.sl .sh (x.labels.map encP),.sl .sh (x.sel.map encM),.sl .sh (x.tols.map encL),.str x.key,.int .i64 x.most,.str x.node,.bool x.hold]) (by simp+zetaDelta) rfl)<|.no (show(!x.owner==[])=false from by have hh:(x.owner==[])=true:=(by simpa using h1);simp[hh])<|.fin ((.ret (.bool false),ζ1)) rfl)
  ·have e:twB s x=(onS s x.node).any (twP x):=by simp[twB,h1]
   rw[e]
   generalize(onS s x.node).any (twP x)=b at a⊢
   generalize onS s x.node=l at a o
   exact let ζ2:List AV:=[.sl .sh (s.nodes.map encN),.sl .sh (s.pods.map encPd),.sl .sh (s.buds.map encB)];let ζ3:List AV:=[.str x.name,.str x.owner,.int .i64 x.prio,.sl .sh (x.need.map encA),.sl .sh (x.labels.map encP),.sl .sh (x.sel.map encM),.sl .sh (x.tols.map encL),.str x.key,.int .i64 x.most,.str x.node,.bool x.hold];let ζ1:Heap:={boxes:=ζ2::[lo,hi]::ζ2::[lo,hi]::(ex++[ζ3]),toks:=tk,loops:=[]:Heap};let ζ4:Heap:={boxes:=(encSt s).cells::[lo,hi]::(encSt s).cells::[lo,hi]::(ex++[(encPd x).cells]),toks:=tk,loops:=[]:Heap};gG 120 [] trivial (.load (show loadA false 1 ζ1 (.ptr (ζ2::[lo,hi]::ζ2::[lo,hi]::ex).length 1)=some (.str x.owner)from load_box (cs:=ζ3) (by simp+zetaDelta) rfl)<|.yes (show(!x.owner==[])=true from by have hh:¬((x.owner==[])=true):=(by simpa using h1);simp[hh])<|.load (lB true 3 ζ1 2 0 (.agg ζ2) ζ2)<|.load (show loadA false 1 ζ1 (.ptr (ζ2::[lo,hi]::ζ2::[lo,hi]::ex).length 9)=some (.str x.node)from load_box (cs:=ζ3) (by simp+zetaDelta) rfl)<|.callG ([.agg ζ2,.str x.node]) (.sl .sh (l.map encPd)) o ⟨rfl,rfl⟩ Res.p<|.effY a<|.fin ((.ret (.bool b),ζ1)) rfl)
 obtain⟨r,h1,rfl⟩:=key
 exact does_cl (ex:=[(encPd x).cells]) (by rw[show [encPd x]++[AV.ptr 2 0]=[encPd x,.ptr 2 0]from rfl,l140,h1];simp) rfl (hp2 s hl hh he)
theorem cl143(s:St)(h:StB s){lo hi:AV}(hl:Fl lo)(hh:Fl hi)(tk:List Nat)(ex:List (List AV))(he:ex.all (·.all data0)=true)(x:Pod):
 Does cfg (.call (.c (.func 143 [.ptr 2 0,.ptr 3 0])) [.c (encPd x)]) ⟨(encSt s).cells::[lo,hi]::(encSt s).cells::[lo,hi]::ex,tk,[]⟩ (.bool (lvN s x.node lo hi==2)) ⟨(encSt s).cells::[lo,hi]::(encSt s).cells::[lo,hi]::ex,tk,[]⟩:=by
 haveI:=hl.C
 haveI:=hh.C
 have f:=lv_any s h.ins h.cap x.node hl hh
 have key:Goes cfg a143 [.c c143] (initEnv [encPd x,.ptr 2 0,.ptr 3 0]) ⟨(encSt s).cells::[lo,hi]::(encSt s).cells::[lo,hi]::ex,tk,[]⟩ (fun r=>r=(.ret (.bool (lvN s x.node lo hi==2)),⟨(encSt s).cells::[lo,hi]::(encSt s).cells::[lo,hi]::(ex++[(encPd x).cells]),tk,[]⟩)):=by
  generalize lvN s x.node lo hi=c at f⊢
  exact let ζ2:List AV:=[.sl .sh (s.nodes.map encN),.sl .sh (s.pods.map encPd),.sl .sh (s.buds.map encB)];let ζ1:Heap:={boxes:=ζ2::[lo,hi]::ζ2::[lo,hi]::(ex++[[AV.str x.name,.str x.owner,.int .i64 x.prio,.sl .sh (x.need.map encA),.sl .sh (x.labels.map encP),.sl .sh (x.sel.map encM),.sl .sh (x.tols.map encL),.str x.key,.int .i64 x.most,.str x.node,.bool x.hold]]),toks:=tk,loops:=[]:Heap};gG 120 [] trivial (.load (lB true 3 ζ1 2 0 (.agg ζ2) ζ2)<|.load (show loadA false 1 ζ1 (.ptr (ζ2::[lo,hi]::ζ2::[lo,hi]::ex).length 9)=some (.str x.node)from load_box (cs:=[.str x.name,.str x.owner,.int .i64 x.prio,.sl .sh (x.need.map encA),.sl .sh (x.labels.map encP),.sl .sh (x.sel.map encM),.sl .sh (x.tols.map encL),.str x.key,.int .i64 x.most,.str x.node,.bool x.hold]) (by simp+zetaDelta) rfl)<|.load (lB true 2 ζ1 3 0 (.agg [lo,hi]) [lo,hi])<|.callG ([.agg ζ2,.str x.node,.agg [lo,hi]]) (.int .i64 c) f Shuts.p ⟨rfl,rfl⟩<|.fin ((.ret (.bool (c==(2:Int))),ζ1)) rfl)
 obtain⟨r,h1,rfl⟩:=key
 exact does_cl (ex:=[(encPd x).cells]) (by rw[show [encPd x]++[AV.ptr 2 0,.ptr 3 0]=[encPd x,.ptr 2 0,.ptr 3 0]from rfl,l143,h1];simp) rfl (hp2 s hl hh he)
theorem cl146(s:St)(h:StB s){lo hi:AV}(hl:Fl lo)(hh:Fl hi)(tk:List Nat)(m:Bool)(ex:List (List AV))(he:ex.all (·.all data0)=true)(x:Pod):
 Does cfg (.call (.c (.func 146 [.ptr 4 0,.ptr 2 0,.ptr 3 0])) [.c (encPd x)]) ⟨(encSt s).cells::[lo,hi]::(encSt s).cells::[lo,hi]::[.bool m]::ex,tk,[]⟩ (.bool (m&&(lvN s x.node lo hi==0))) ⟨(encSt s).cells::[lo,hi]::(encSt s).cells::[lo,hi]::[.bool m]::ex,tk,[]⟩:=by
 haveI:=hl.C
 haveI:=hh.C
 have f:=lv_any s h.ins h.cap x.node hl hh
 have key:Goes cfg a146 [.c c146] (initEnv [encPd x,.ptr 4 0,.ptr 2 0,.ptr 3 0]) ⟨(encSt s).cells::[lo,hi]::(encSt s).cells::[lo,hi]::[.bool m]::ex,tk,[]⟩ (fun r=>r=(.ret (.bool (m&&(lvN s x.node lo hi==0))),⟨(encSt s).cells::[lo,hi]::(encSt s).cells::[lo,hi]::[.bool m]::(ex++[(encPd x).cells]),tk,[]⟩)):=by
  generalize lvN s x.node lo hi=c at f⊢
  cases m with
  |true=>
   rw[Bool.true_and]
   exact let ζ2:List AV:=[.sl .sh (s.nodes.map encN),.sl .sh (s.pods.map encPd),.sl .sh (s.buds.map encB)];let ζ1:Heap:={boxes:=ζ2::[lo,hi]::ζ2::[lo,hi]::[.bool true]::(ex++[[AV.str x.name,.str x.owner,.int .i64 x.prio,.sl .sh (x.need.map encA),.sl .sh (x.labels.map encP),.sl .sh (x.sel.map encM),.sl .sh (x.tols.map encL),.str x.key,.int .i64 x.most,.str x.node,.bool x.hold]]),toks:=tk,loops:=[]:Heap};gG 120 [] trivial (.load (lB false 1 ζ1 4 0 (.bool true) [.bool true])<|.tt<|.load (lB true 3 ζ1 2 0 (.agg ζ2) ζ2)<|.load (show loadA false 1 ζ1 (.ptr (ζ2::[lo,hi]::ζ2::[lo,hi]::[.bool true]::ex).length 9)=some (.str x.node)from load_box (cs:=[.str x.name,.str x.owner,.int .i64 x.prio,.sl .sh (x.need.map encA),.sl .sh (x.labels.map encP),.sl .sh (x.sel.map encM),.sl .sh (x.tols.map encL),.str x.key,.int .i64 x.most,.str x.node,.bool x.hold]) (by simp+zetaDelta) rfl)<|.load (lB true 2 ζ1 3 0 (.agg [lo,hi]) [lo,hi])<|.callG ([.agg ζ2,.str x.node,.agg [lo,hi]]) (.int .i64 c) f Shuts.p ⟨rfl,rfl⟩<|.fin ((.ret (.bool (c==(0:Int))),ζ1)) rfl)
  |false=>
   rw[Bool.false_and]
   exact let ζ1:Heap:={boxes:=[.sl .sh (s.nodes.map encN),.sl .sh (s.pods.map encPd),.sl .sh (s.buds.map encB)]::[lo,hi]::[.sl .sh (s.nodes.map encN),.sl .sh (s.pods.map encPd),.sl .sh (s.buds.map encB)]::[lo,hi]::[.bool false]::(ex++[[AV.str x.name,.str x.owner,.int .i64 x.prio,.sl .sh (x.need.map encA),.sl .sh (x.labels.map encP),.sl .sh (x.sel.map encM),.sl .sh (x.tols.map encL),.str x.key,.int .i64 x.most,.str x.node,.bool x.hold]]),toks:=tk,loops:=[]:Heap};gG 120 [] trivial (.load (lB false 1 ζ1 4 0 (.bool false) [.bool false])<|.ff<|.fin ((.ret (.bool false),ζ1)) rfl)
 obtain⟨r,h1,rfl⟩:=key
 exact does_cl (ex:=[(encPd x).cells]) (by rw[show [encPd x]++[AV.ptr 4 0,.ptr 2 0,.ptr 3 0]=[encPd x,.ptr 4 0,.ptr 2 0,.ptr 3 0]from rfl,l146,h1];simp) rfl (hp2 s hl hh (by rw[List.all_cons,he];rfl))
def mrP(s:St)(lo hi:AV)(n:Node):Bool:= !n.cordon&& !(lvN s n.name lo hi==0)
theorem cl145(s:St)(h:StB s){lo hi:AV}(hl:Fl lo)(hh:Fl hi)(tk:List Nat)(x:Node):
 Does cfg (.call (.c (.func 145 [.ptr 0 0,.ptr 1 0])) [.c (encN x)]) ⟨[(encSt s).cells,[lo,hi]],[],[]⟩ (.bool (mrP s lo hi x)) ⟨[(encSt s).cells,[lo,hi]],[],[]⟩:=by
 haveI:=hl.C
 haveI:=hh.C
 have f:=lv_any s h.ins h.cap x.name hl hh
 have key:Goes cfg a145 [.c c145] (initEnv [encN x,.ptr 0 0,.ptr 1 0]) ⟨[(encSt s).cells,[lo,hi]],[],[]⟩ (fun r=>r=(.ret (.bool (mrP s lo hi x)),⟨[(encSt s).cells,[lo,hi],(encN x).cells],[],[]⟩)):=by
  unfold mrP
  generalize lvN s x.name lo hi=c at f⊢
  cases h1:x.cordon with
  |true=>
   rw[Bool.not_true,Bool.false_and]
   exact gG 120 [] trivial (.no (show(!x.cordon)=false from by have hh:x.cordon=true:=(by simp[h1]);simp[hh])<|.fin ((.ret (.bool false),{boxes:=[[.sl .sh (s.nodes.map encN),.sl .sh (s.pods.map encPd),.sl .sh (s.buds.map encB)],[lo,hi],[.str x.name,.sl .sh (x.cap.map encA),.sl .sh (x.labels.map encP),.sl .sh (x.taints.map encT),.bool x.cordon]],toks:=[],loops:=[]:Heap})) rfl)
  |false=>
   rw[Bool.not_false,Bool.true_and]
   exact let ζ1:List AV:=[.sl .sh (s.nodes.map encN),.sl .sh (s.pods.map encPd),.sl .sh (s.buds.map encB)];gG 120 [] trivial (.yes (show(!x.cordon)=true from by have hh:¬(x.cordon=true):=(by simp+zetaDelta [h1]);simp[hh])<|.callG ([.agg ζ1,.str x.name,.agg [lo,hi]]) (.int .i64 c) f Shuts.p ⟨rfl,rfl⟩<|.fin ((.ret (.bool (c !=(0:Int))),{boxes:=[ζ1,[lo,hi],[.str x.name,.sl .sh (x.cap.map encA),.sl .sh (x.labels.map encP),.sl .sh (x.taints.map encT),.bool x.cordon]],toks:=[],loops:=[]:Heap})) rfl)
 obtain⟨r,h1,rfl⟩:=key
 exact does_cl (B:=[(encSt s).cells,[lo,hi]]) (ex:=[(encN x).cells]) (by rw[show [encN x]++[AV.ptr 0 0,.ptr 1 0]=[encN x,.ptr 0 0,.ptr 1 0]from rfl,l145,h1];simp) rfl (hp4 s hl hh rfl)
theorem cl145b(s:St)(h:StB s){lo hi:AV}(hl:Fl lo)(hh:Fl hi)(tk:List Nat)(x:Node):
 Does cfg (.call (.c (.func 145 [.ptr 2 0,.ptr 3 0])) [.c (encN x)]) ⟨[(encSt s).cells,[lo,hi],(encSt s).cells,[lo,hi]],[],[]⟩ (.bool (mrP s lo hi x)) ⟨[(encSt s).cells,[lo,hi],(encSt s).cells,[lo,hi]],[],[]⟩:=by
 haveI:=hl.C
 haveI:=hh.C
 have f:=lv_any s h.ins h.cap x.name hl hh
 have key:Goes cfg a145 [.c c145] (initEnv [encN x,.ptr 2 0,.ptr 3 0]) ⟨[(encSt s).cells,[lo,hi],(encSt s).cells,[lo,hi]],[],[]⟩ (fun r=>r=(.ret (.bool (mrP s lo hi x)),⟨[(encSt s).cells,[lo,hi],(encSt s).cells,[lo,hi],(encN x).cells],[],[]⟩)):=by
  unfold mrP
  generalize lvN s x.name lo hi=c at f⊢
  cases h1:x.cordon with
  |true=>
   rw[Bool.not_true,Bool.false_and]
   exact let ζ1:List AV:=[.sl .sh (s.nodes.map encN),.sl .sh (s.pods.map encPd),.sl .sh (s.buds.map encB)];gG 120 [] trivial (.no (show(!x.cordon)=false from by have hh:x.cordon=true:=(by simp+zetaDelta [h1]);simp[hh])<|.fin ((.ret (.bool false),{boxes:=[ζ1,[lo,hi],ζ1,[lo,hi],[.str x.name,.sl .sh (x.cap.map encA),.sl .sh (x.labels.map encP),.sl .sh (x.taints.map encT),.bool x.cordon]],toks:=[],loops:=[]:Heap})) rfl)
  |false=>
   rw[Bool.not_false,Bool.true_and]
   exact let ζ1:List AV:=[.sl .sh (s.nodes.map encN),.sl .sh (s.pods.map encPd),.sl .sh (s.buds.map encB)];gG 120 [] trivial (.yes (show(!x.cordon)=true from by have hh:¬(x.cordon=true):=(by simp+zetaDelta [h1]);simp[hh])<|.callG ([.agg ζ1,.str x.name,.agg [lo,hi]]) (.int .i64 c) f Shuts.p ⟨rfl,rfl⟩<|.fin ((.ret (.bool (c !=(0:Int))),{boxes:=[ζ1,[lo,hi],ζ1,[lo,hi],[.str x.name,.sl .sh (x.cap.map encA),.sl .sh (x.labels.map encP),.sl .sh (x.taints.map encT),.bool x.cordon]],toks:=[],loops:=[]:Heap})) rfl)
 obtain⟨r,h1,rfl⟩:=key
 exact does_cl (B:=[(encSt s).cells,[lo,hi],(encSt s).cells,[lo,hi]]) (ex:=[(encN x).cells]) (by rw[show [encN x]++[AV.ptr 2 0,.ptr 3 0]=[encN x,.ptr 2 0,.ptr 3 0]from rfl,l145,h1];simp) rfl (hp2 s hl hh rfl)
end Go.Aa.T
set_option linter.unusedVariables false
set_option linter.unusedSimpArgs false
set_option maxRecDepth 100000
namespace Go.Aa.T
open Go.Aa Go.Proofs
def isB(s:St)(lo hi:AV)(why:Int)(p:Pod):Bool:=
 if why=1 then wtB s p else if why=2 then nmB (badS s) p.name else if why=3 then twB s p else if why=4 then lvN s p.node lo hi==2
 else if why=5 then s.nodes.any (mrP s lo hi)&&lvN s p.node lo hi==0 else false
def foundB(s:St)(lo hi:AV)(why:Int)(p:Pod):Bool:= !(p.node==[])&&(!p.hold&&isB s lo hi why p)
def oneL(s:St)(lo hi:AV)(why:Int)(l:List Pod):List (List UInt8):=(l.filter (foundB s lo hi why)).map Pod.name
def oneS(s:St)(lo hi:AV)(why:Int):List (List UInt8):=oneL s lo hi why s.pods
theorem one_yes{s:St}{lo hi:AV}{why:Int}{p:Pod}{l:List Pod}(h:foundB s lo hi why p=true):oneL s lo hi why (p::l)=p.name::oneL s lo hi why l:=by simp[oneL,List.filter_cons,h]
theorem one_no{s:St}{lo hi:AV}{why:Int}{p:Pod}{l:List Pod}(h:foundB s lo hi why p=false):oneL s lo hi why (p::l)=oneL s lo hi why l:=by simp[oneL,List.filter_cons,h]
theorem oneS_len(s:St)(lo hi:AV)(why:Int):(oneS s lo hi why).length≤s.pods.length:=by
 unfold oneS oneL
 rw[List.length_map];exact List.length_filter_le _ _
theorem bad_call{s:St}{lo hi:AV}{why:Int}{g:FuncId}{k1 k2 o1 o2:Nat}{c1 c2:List AV}{B1 B2:List (List AV)}(hl:Fl lo)(hh:Fl hi)(h0:lim cfg (.fn 70) [encSt s,.int .i64 why,.agg [lo,hi]] Heap.nil=some (.ret (.func g (.ptr k1 o1::c1)),⟨B1,[],[]⟩))
 (h1:lim cfg (.fn 70) [encSt s,.int .i64 why,.agg [lo,hi]] ⟨[(encSt s).cells,[lo,hi]],[],[]⟩=some (.ret (.func g (.ptr k2 o2::c2)),⟨B2,[],[]⟩))(hk:2≤k2):
 Does cfg (.call (.c (.func 70 [])) [.c (encSt s),.c (.int .i64 why),.c (.agg [lo,hi])]) ⟨[(encSt s).cells,[lo,hi]],[],[]⟩ (.func g (.ptr k2 o2::c2)) ⟨B2,[],[]⟩:=by
 have hd:=_root_.Go.Aa.does_callN (cfg:=cfg) (xs:=[encSt s,.int .i64 why,.agg [lo,hi]]) h0 (by rfl) h1 (by
  show [encSt s,.int .i64 why,.agg [Go.Aa.shut1 lo,Go.Aa.shut1 hi]]=_
  rw[hl.sh1,hh.sh1]) (by
  show(true&&(true&&((Go.Aa.data0 lo&&(Go.Aa.data0 hi&&true))&&true)))=true
  rw[hl.d0,hh.d0];rfl)
 rw[show shutA (.func g (.ptr k2 o2::c2))=.func g (.ptr k2 o2::c2)from rfl]at hd
 rw[show(⟨[(encSt s).cells,[lo,hi]],[],[]⟩:Heap).boxes.length=2 from rfl,show(⟨[(encSt s).cells,[lo,hi]],[],[]⟩:Heap).toks.length=0 from rfl,trunc_fn hk]at hd
 exact hd
theorem bad_1(s:St){lo hi:AV}(hl:Fl lo)(hh:Fl hi):Does cfg (.call (.c (.func 70 [])) [.c (encSt s),.c (.int .i64 1),.c (.agg [lo,hi])]) ⟨[(encSt s).cells,[lo,hi]],[],[]⟩ (.func 136 [.ptr 2 0]) ⟨[(encSt s).cells,[lo,hi],(encSt s).cells,[lo,hi]],[],[]⟩:=by
 have k0:Goes cfg a70 [.c c70] (initEnv [encSt s,.int .i64 1,.agg [lo,hi]]) Heap.nil (fun r=>r=(.ret (.func 136 [.ptr 0 0]),⟨[(encSt s).cells,[lo,hi]],[],[]⟩)):=by
  exact gG 120 [] trivial (.tt<|.fin ((.ret (.func 136 [.ptr 0 0]),{boxes:=[[.sl .sh (s.nodes.map encN),.sl .sh (s.pods.map encPd),.sl .sh (s.buds.map encB)],[lo,hi]],toks:=[],loops:=[]:Heap})) rfl)
 have k1:Goes cfg a70 [.c c70] (initEnv [encSt s,.int .i64 1,.agg [lo,hi]]) ⟨[(encSt s).cells,[lo,hi]],[],[]⟩ (fun r=>r=(.ret (.func 136 [.ptr 2 0]),⟨[(encSt s).cells,[lo,hi],(encSt s).cells,[lo,hi]],[],[]⟩)):=by
  exact let ζ1:List AV:=[.sl .sh (s.nodes.map encN),.sl .sh (s.pods.map encPd),.sl .sh (s.buds.map encB)];gG 120 [] trivial (.tt<|.fin ((.ret (.func 136 [.ptr 2 0]),{boxes:=[ζ1,[lo,hi],ζ1,[lo,hi]],toks:=[],loops:=[]:Heap})) rfl)
 obtain⟨_,h0,rfl⟩:=k0
 obtain⟨_,h1,rfl⟩:=k1
 exact bad_call hl hh (by rw[l70];exact h0) (by rw[l70];exact h1) (by omega)
theorem bad_2(s:St){lo hi:AV}(hl:Fl lo)(hh:Fl hi)(hb:Gives cfg 137 [encSt s] (rowF .str (badS s))):Does cfg (.call (.c (.func 70 [])) [.c (encSt s),.c (.int .i64 2),.c (.agg [lo,hi])]) ⟨[(encSt s).cells,[lo,hi]],[],[]⟩ (.func 138 [.ptr 4 0]) ⟨[(encSt s).cells,[lo,hi],(encSt s).cells,[lo,hi],[.sl .sh ((badS s).map .str)]],[],[]⟩:=by
 generalize badS s=l at hb⊢
 have k0:Goes cfg a70 [.c c70] (initEnv [encSt s,.int .i64 2,.agg [lo,hi]]) Heap.nil (fun r=>r=(.ret (.func 138 [.ptr 2 0]),⟨[(encSt s).cells,[lo,hi],[.sl .sh (l.map .str)]],[],[]⟩)):=by
  exact let ζ1:List AV:=[.sl .sh (s.nodes.map encN),.sl .sh (s.pods.map encPd),.sl .sh (s.buds.map encB)];gG 120 [] trivial (.ff<|.tt<|.callG ([.agg ζ1]) (.sl .sh (List.map .str l)) hb ⟨rfl,rfl⟩ Res.p<|.fin ((.ret (.func 138 [.ptr 2 0]),{boxes:=[ζ1,[lo,hi],[.sl .sh (List.map .str l)]],toks:=[],loops:=[]:Heap})) rfl)
 have k1:Goes cfg a70 [.c c70] (initEnv [encSt s,.int .i64 2,.agg [lo,hi]]) ⟨[(encSt s).cells,[lo,hi]],[],[]⟩ (fun r=>r=(.ret (.func 138 [.ptr 4 0]),⟨[(encSt s).cells,[lo,hi],(encSt s).cells,[lo,hi],[.sl .sh (l.map .str)]],[],[]⟩)):=by
  exact let ζ1:List AV:=[.sl .sh (s.nodes.map encN),.sl .sh (s.pods.map encPd),.sl .sh (s.buds.map encB)];gG 120 [] trivial (.ff<|.tt<|.callG ([.agg ζ1]) (.sl .sh (List.map .str l)) hb ⟨rfl,rfl⟩ Res.p<|.fin ((.ret (.func 138 [.ptr 4 0]),{boxes:=[ζ1,[lo,hi],ζ1,[lo,hi],[.sl .sh (List.map .str l)]],toks:=[],loops:=[]:Heap})) rfl)
 obtain⟨_,h0,rfl⟩:=k0
 obtain⟨_,h1,rfl⟩:=k1
 exact bad_call hl hh (by rw[l70];exact h0) (by rw[l70];exact h1) (by omega)
theorem bad_3(s:St){lo hi:AV}(hl:Fl lo)(hh:Fl hi):Does cfg (.call (.c (.func 70 [])) [.c (encSt s),.c (.int .i64 3),.c (.agg [lo,hi])]) ⟨[(encSt s).cells,[lo,hi]],[],[]⟩ (.func 140 [.ptr 2 0]) ⟨[(encSt s).cells,[lo,hi],(encSt s).cells,[lo,hi]],[],[]⟩:=by
 have k0:Goes cfg a70 [.c c70] (initEnv [encSt s,.int .i64 3,.agg [lo,hi]]) Heap.nil (fun r=>r=(.ret (.func 140 [.ptr 0 0]),⟨[(encSt s).cells,[lo,hi]],[],[]⟩)):=by
  exact gG 120 [] trivial (.ff<|.ff<|.tt<|.fin ((.ret (.func 140 [.ptr 0 0]),{boxes:=[[.sl .sh (s.nodes.map encN),.sl .sh (s.pods.map encPd),.sl .sh (s.buds.map encB)],[lo,hi]],toks:=[],loops:=[]:Heap})) rfl)
 have k1:Goes cfg a70 [.c c70] (initEnv [encSt s,.int .i64 3,.agg [lo,hi]]) ⟨[(encSt s).cells,[lo,hi]],[],[]⟩ (fun r=>r=(.ret (.func 140 [.ptr 2 0]),⟨[(encSt s).cells,[lo,hi],(encSt s).cells,[lo,hi]],[],[]⟩)):=by
  exact let ζ1:List AV:=[.sl .sh (s.nodes.map encN),.sl .sh (s.pods.map encPd),.sl .sh (s.buds.map encB)];gG 120 [] trivial (.ff<|.ff<|.tt<|.fin ((.ret (.func 140 [.ptr 2 0]),{boxes:=[ζ1,[lo,hi],ζ1,[lo,hi]],toks:=[],loops:=[]:Heap})) rfl)
 obtain⟨_,h0,rfl⟩:=k0
 obtain⟨_,h1,rfl⟩:=k1
 exact bad_call hl hh (by rw[l70];exact h0) (by rw[l70];exact h1) (by omega)
theorem bad_4(s:St){lo hi:AV}(hl:Fl lo)(hh:Fl hi):Does cfg (.call (.c (.func 70 [])) [.c (encSt s),.c (.int .i64 4),.c (.agg [lo,hi])]) ⟨[(encSt s).cells,[lo,hi]],[],[]⟩ (.func 143 [.ptr 2 0,.ptr 3 0]) ⟨[(encSt s).cells,[lo,hi],(encSt s).cells,[lo,hi]],[],[]⟩:=by
 have k0:Goes cfg a70 [.c c70] (initEnv [encSt s,.int .i64 4,.agg [lo,hi]]) Heap.nil (fun r=>r=(.ret (.func 143 [.ptr 0 0,.ptr 1 0]),⟨[(encSt s).cells,[lo,hi]],[],[]⟩)):=by
  exact gG 120 [] trivial (.ff<|.ff<|.ff<|.tt<|.fin ((.ret (.func 143 [.ptr 0 0,.ptr 1 0]),{boxes:=[[.sl .sh (s.nodes.map encN),.sl .sh (s.pods.map encPd),.sl .sh (s.buds.map encB)],[lo,hi]],toks:=[],loops:=[]:Heap})) rfl)
 have k1:Goes cfg a70 [.c c70] (initEnv [encSt s,.int .i64 4,.agg [lo,hi]]) ⟨[(encSt s).cells,[lo,hi]],[],[]⟩ (fun r=>r=(.ret (.func 143 [.ptr 2 0,.ptr 3 0]),⟨[(encSt s).cells,[lo,hi],(encSt s).cells,[lo,hi]],[],[]⟩)):=by
  exact let ζ1:List AV:=[.sl .sh (s.nodes.map encN),.sl .sh (s.pods.map encPd),.sl .sh (s.buds.map encB)];gG 120 [] trivial (.ff<|.ff<|.ff<|.tt<|.fin ((.ret (.func 143 [.ptr 2 0,.ptr 3 0]),{boxes:=[ζ1,[lo,hi],ζ1,[lo,hi]],toks:=[],loops:=[]:Heap})) rfl)
 obtain⟨_,h0,rfl⟩:=k0
 obtain⟨_,h1,rfl⟩:=k1
 exact bad_call hl hh (by rw[l70];exact h0) (by rw[l70];exact h1) (by omega)
theorem bad_5(s:St)(h:StB s){lo hi:AV}(hl:Fl lo)(hh:Fl hi):Does cfg (.call (.c (.func 70 [])) [.c (encSt s),.c (.int .i64 5),.c (.agg [lo,hi])]) ⟨[(encSt s).cells,[lo,hi]],[],[]⟩ (.func 146 [.ptr 4 0,.ptr 2 0,.ptr 3 0]) ⟨[(encSt s).cells,[lo,hi],(encSt s).cells,[lo,hi],[.bool (s.nodes.any (mrP s lo hi))]],[],[]⟩:=by
 have d0:=anyNd (fun y=>cl145 s h hl hh [] y) s.nodes h.ins.nodes
 have d1:=anyNd (fun y=>cl145b s h hl hh [] y) s.nodes h.ins.nodes
 generalize s.nodes.any (mrP s lo hi)=m at d0 d1⊢
 have k0:Goes cfg a70 [.c c70] (initEnv [encSt s,.int .i64 5,.agg [lo,hi]]) Heap.nil (fun r=>r=(.ret (.func 146 [.ptr 2 0,.ptr 0 0,.ptr 1 0]),⟨[(encSt s).cells,[lo,hi],[.bool m]],[],[]⟩)):=by
  exact let ζ1:Heap:={boxes:=[(encSt s).cells,[lo,hi]],toks:=[],loops:=[]:Heap};gG 120 [] trivial (.ff<|.ff<|.ff<|.ff<|.tt<|.effY d0<|.fin ((.ret (.func 146 [.ptr 2 0,.ptr 0 0,.ptr 1 0]),{boxes:=[[.sl .sh (s.nodes.map encN),.sl .sh (s.pods.map encPd),.sl .sh (s.buds.map encB)],[lo,hi],[.bool m]],toks:=[],loops:=[]:Heap})) rfl)
 have k1:Goes cfg a70 [.c c70] (initEnv [encSt s,.int .i64 5,.agg [lo,hi]]) ⟨[(encSt s).cells,[lo,hi]],[],[]⟩ (fun r=>r=(.ret (.func 146 [.ptr 4 0,.ptr 2 0,.ptr 3 0]),⟨[(encSt s).cells,[lo,hi],(encSt s).cells,[lo,hi],[.bool m]],[],[]⟩)):=by
  exact let ζ1:List AV:=[.sl .sh (s.nodes.map encN),.sl .sh (s.pods.map encPd),.sl .sh (s.buds.map encB)];let ζ2:Heap:={boxes:=[(encSt s).cells,[lo,hi],(encSt s).cells,[lo,hi]],toks:=[],loops:=[]:Heap};gG 120 [] trivial (.ff<|.ff<|.ff<|.ff<|.tt<|.effY d1<|.fin ((.ret (.func 146 [.ptr 4 0,.ptr 2 0,.ptr 3 0]),{boxes:=[ζ1,[lo,hi],ζ1,[lo,hi],[.bool m]],toks:=[],loops:=[]:Heap})) rfl)
 obtain⟨_,h0,rfl⟩:=k0
 obtain⟨_,h1,rfl⟩:=k1
 exact bad_call hl hh (by rw[l70];exact h0) (by rw[l70];exact h1) (by omega)
theorem bad_0(s:St)(h:StB s){lo hi:AV}(hl:Fl lo)(hh:Fl hi){why:Int}(h1:¬why=1)(h2:¬why=2)(h3:¬why=3)(h4:¬why=4)(h5:¬why=5):Gives cfg 70 [encSt s,.int .i64 why,.agg [lo,hi]] (.func 147 []):=by
 refine Gives.run (l70 _ _) ?_
 exact gG 120 [] trivial (.no (show(why==(1:Int))=false from Bool.eq_false_iff.2 (by simp[h1]))<|.no (show(why==(2:Int))=false from Bool.eq_false_iff.2 (by simp[h2]))<|.no (show(why==(3:Int))=false from Bool.eq_false_iff.2 (by simp[h3]))<|.no (show(why==(4:Int))=false from Bool.eq_false_iff.2 (by simp[h4]))<|.no (show(why==(5:Int))=false from Bool.eq_false_iff.2 (by simp[h5]))<|.fin ((.ret (.func 147 []),{boxes:=[[.sl .sh (s.nodes.map encN),.sl .sh (s.pods.map encPd),.sl .sh (s.buds.map encB)],[lo,hi]],toks:=[],loops:=[]:Heap})) rfl)
theorem cl147(x:Pod):Gives cfg 147 [encPd x] (.bool false):=by
 refine Gives.run (l147 _ _) ?_
 exact gG 30 [] trivial (.fin ((.ret (.bool false),{boxes:=[[.str x.name,.str x.owner,.int .i64 x.prio,.sl .sh (x.need.map encA),.sl .sh (x.labels.map encP),.sl .sh (x.sel.map encM),.sl .sh (x.tols.map encL),.str x.key,.int .i64 x.most,.str x.node,.bool x.hold]],toks:=[],loops:=[]:Heap})) rfl)
theorem one_loop(s:St)(hs:s.pods.length≤1000){lo hi:AV}(fv:AV)(why:Int)(Pr:List (List AV)→Prop)(hP:∀ex(x:Pod),Pr ex→Pr (ex++[(encPd x).cells]))
 (hc:∀tk ex(x:Pod),Pr ex→x∈s.pods→Does cfg (.call (.c fv) [.c (encPd x)]) ⟨(encSt s).cells::[lo,hi]::ex,tk,[]⟩ (.bool (isB s lo hi why x)) ⟨(encSt s).cells::[lo,hi]::ex,tk,[]⟩):
 ∀(post:List Pod)(i:Nat)(hd:s.pods.drop i=post)(acc:List (List UInt8))(ha:acc.length≤i)(ex:List (List AV))(he:Pr ex)(T:Env)
 (hT:Has T [(3,.ptr 0 0),(7,fv),(8,rowF .str acc),(16,.sl .sh (s.pods.map encPd)),(17,.int .i64 s.pods.length),(18,.int .i64 i)]),
 Goes cfg a30 k30_0 T ⟨(encSt s).cells::[lo,hi]::ex,tkR .str acc,[]⟩ (IsRet (rowF .str (acc++oneL s lo hi why post))):=by
 intro post
 induction post with
 |nil=>
  intro i hd acc ha ex he T hT
  have hge:=drop_ge hd
  rw[show acc++oneL s lo hi why []=acc by simp[oneL]]
  exact gG 60 _ hT (.no (dF ((↑i:Int)<(↑s.pods.length:Int)))<|.fin ((.ret (.sl (skF acc) (List.map .str acc)),{boxes:=[.sl .sh (s.nodes.map encN),.sl .sh (s.pods.map encPd),.sl .sh (s.buds.map encB)]::[lo,hi]::ex,toks:=tkR .str acc,loops:=[]:Heap})) rfl)
 |cons x post ih=>
  intro i hd acc ha ex he T hT
  have hlt:=drop_lt hd
  have hnx:=drop_next hd
  have hxi:idxA 11 (.sl .sh (s.pods.map encPd)) (.int .i64 (i:Nat))=some (.ref (encPd x).cells):=idx_row (f:=encPd) hd rfl
  have he':=hP ex x he
  have ap:=ap_S (acc:=acc) x.name (by omega)
  have no:=ih (i+1) hnx acc (by omega) (ex++[(encPd x).cells]) he'
  have yes:=ih (i+1) hnx (acc++[x.name]) (by simp;omega) (ex++[(encPd x).cells]) he'
  by_cases h1:x.node=[]
  ·have e:foundB s lo hi why x=false:=by simp[foundB,h1]
   rw[one_no e]
   exact let ζ1:List AV:=[.str x.name,.str x.owner,.int .i64 x.prio,.sl .sh (x.need.map encA),.sl .sh (x.labels.map encP),.sl .sh (x.sel.map encM),.sl .sh (x.tols.map encL),.str x.key,.int .i64 x.most,.str x.node,.bool x.hold];let ζ2:List AV:=[.sl .sh (s.nodes.map encN),.sl .sh (s.pods.map encPd),.sl .sh (s.buds.map encB)];let ζ3:Heap:={boxes:=ζ2::[lo,hi]::(ex++[ζ1]),toks:=tkR .str acc,loops:=[]:Heap};let ζ4:List AV:=[.str [],.str [],.int .i64 0,.sl .full [],.sl .full [],.sl .full [],.sl .full [],.str [],.int .i64 0,.str [],.bool false];gG 160 _ hT (.yes (dT ((↑i:Int)<(↑s.pods.length:Int)))<|.idx hxi<|.load (rfl:loadA true 11 {boxes:=ζ2::[lo,hi]::ex,toks:=tkR .str acc,loops:=[]:Heap} (.ref ζ1)=some (.agg ζ1))<|.store (show storeA 11 {boxes:=ζ2::[lo,hi]::(ex++[ζ4]),toks:=tkR .str acc,loops:=[]:Heap} (.ptr (ζ2::[lo,hi]::ex).length 0) (.agg ζ1)=some (ζ3)from store_box2 (cs:=ζ4) (cs':=ζ1) (by simp+zetaDelta) rfl (by simp+zetaDelta [List.set_append]))<|.load (show loadA false 1 ζ3 (.ptr (ζ2::[lo,hi]::ex).length 9)=some (.str x.node)from load_box (cs:=ζ1) (by simp+zetaDelta) rfl)<|.no (show(!x.node==[])=false from by have hh:(x.node==[])=true:=(by simpa using h1);simp[hh])<|.ff<|.ff<|.bin (iI i)<|.cutQ k30_0 [(3,.ptr 0 0),(7,fv),(8,.sl (skF acc) (List.map .str acc)),(16,.sl .sh (s.pods.map encPd)),(17,.int .i64 (↑s.pods.length)),(18,.int .i64 (↑(i+1)))] (ζ3) (fun T hT=>(no T hT)))
  ·cases h2:x.hold with
   |true=>
    have e:foundB s lo hi why x=false:=by simp[foundB,h2]
    rw[one_no e]
    exact let ζ1:List AV:=[.str x.name,.str x.owner,.int .i64 x.prio,.sl .sh (x.need.map encA),.sl .sh (x.labels.map encP),.sl .sh (x.sel.map encM),.sl .sh (x.tols.map encL),.str x.key,.int .i64 x.most,.str x.node,.bool x.hold];let ζ2:List AV:=[.sl .sh (s.nodes.map encN),.sl .sh (s.pods.map encPd),.sl .sh (s.buds.map encB)];let ζ3:Heap:={boxes:=ζ2::[lo,hi]::(ex++[ζ1]),toks:=tkR .str acc,loops:=[]:Heap};let ζ4:List AV:=[.str [],.str [],.int .i64 0,.sl .full [],.sl .full [],.sl .full [],.sl .full [],.str [],.int .i64 0,.str [],.bool false];gG 160 _ hT (.yes (dT ((↑i:Int)<(↑s.pods.length:Int)))<|.idx hxi<|.load (rfl:loadA true 11 {boxes:=ζ2::[lo,hi]::ex,toks:=tkR .str acc,loops:=[]:Heap} (.ref ζ1)=some (.agg ζ1))<|.store (show storeA 11 {boxes:=ζ2::[lo,hi]::(ex++[ζ4]),toks:=tkR .str acc,loops:=[]:Heap} (.ptr (ζ2::[lo,hi]::ex).length 0) (.agg ζ1)=some (ζ3)from store_box2 (cs:=ζ4) (cs':=ζ1) (by simp+zetaDelta) rfl (by simp+zetaDelta [List.set_append]))<|.load (show loadA false 1 ζ3 (.ptr (ζ2::[lo,hi]::ex).length 9)=some (.str x.node)from load_box (cs:=ζ1) (by simp+zetaDelta) rfl)<|.yes (show(!x.node==[])=true from by have hh:¬((x.node==[])=true):=(by simpa using h1);simp[hh])<|.load (show loadA false 1 ζ3 (.ptr (ζ2::[lo,hi]::ex).length 10)=some (.bool x.hold)from load_box (cs:=ζ1) (by simp+zetaDelta) rfl)<|.no (show(!x.hold)=false from by have hh:x.hold=true:=(by omega);simp[hh])<|.ff<|.bin (iI i)<|.cutQ k30_0 [(3,.ptr 0 0),(7,fv),(8,.sl (skF acc) (List.map .str acc)),(16,.sl .sh (s.pods.map encPd)),(17,.int .i64 (↑s.pods.length)),(18,.int .i64 (↑(i+1)))] (ζ3) (fun T hT=>(no T hT)))
   |false=>
    have d:=hc (tkR .str acc) (ex++[(encPd x).cells]) x he' (drop_mem hd)
    cases h3:isB s lo hi why x with
    |true=>
     have e:foundB s lo hi why x=true:=by simp[foundB,h1,h2,h3]
     rw[one_yes e,show acc++x.name::oneL s lo hi why post=(acc++[x.name])++oneL s lo hi why post by simp]
     rw[h3]at d
     exact let ζ1:List AV:=[.str x.name,.str x.owner,.int .i64 x.prio,.sl .sh (x.need.map encA),.sl .sh (x.labels.map encP),.sl .sh (x.sel.map encM),.sl .sh (x.tols.map encL),.str x.key,.int .i64 x.most,.str x.node,.bool x.hold];let ζ2:List AV:=[.sl .sh (s.nodes.map encN),.sl .sh (s.pods.map encPd),.sl .sh (s.buds.map encB)];let ζ3:Heap:={boxes:=ζ2::[lo,hi]::(ex++[ζ1]),toks:=tkR .str acc,loops:=[]:Heap};let ζ4:List AV:=[.str [],.str [],.int .i64 0,.sl .full [],.sl .full [],.sl .full [],.sl .full [],.str [],.int .i64 0,.str [],.bool false];let ζ5:Heap:={boxes:=(encSt s).cells::[lo,hi]::(ex++[(encPd x).cells]),toks:=tkR .str acc,loops:=[]:Heap};let ζ6:Heap:={boxes:=ζ2::[lo,hi]::(ex++[ζ1]),toks:=tkR .str (acc++[x.name]),loops:=[]:Heap};gG 160 _ hT (.yes (dT ((↑i:Int)<(↑s.pods.length:Int)))<|.idx hxi<|.load (rfl:loadA true 11 {boxes:=ζ2::[lo,hi]::ex,toks:=tkR .str acc,loops:=[]:Heap} (.ref ζ1)=some (.agg ζ1))<|.store (show storeA 11 {boxes:=ζ2::[lo,hi]::(ex++[ζ4]),toks:=tkR .str acc,loops:=[]:Heap} (.ptr (ζ2::[lo,hi]::ex).length 0) (.agg ζ1)=some (ζ3)from store_box2 (cs:=ζ4) (cs':=ζ1) (by simp+zetaDelta) rfl (by simp+zetaDelta [List.set_append]))<|.load (show loadA false 1 ζ3 (.ptr (ζ2::[lo,hi]::ex).length 9)=some (.str x.node)from load_box (cs:=ζ1) (by simp+zetaDelta) rfl)<|.yes (show(!x.node==[])=true from by have hh:¬((x.node==[])=true):=(by simpa using h1);simp[hh])<|.load (show loadA false 1 ζ3 (.ptr (ζ2::[lo,hi]::ex).length 10)=some (.bool x.hold)from load_box (cs:=ζ1) (by simp+zetaDelta) rfl)<|.yes (show(!x.hold)=true from by have hh:¬(x.hold=true):=(by simp+zetaDelta [h2]);simp[hh])<|.load (show loadA true 11 ζ3 (.ptr (ζ2::[lo,hi]::ex).length 0)=some (.agg ζ1)from load_box (cs:=ζ1) (by simp+zetaDelta) rfl)<|.effY d<|.tt<|.load (show loadA false 1 ζ3 (.ptr (ζ2::[lo,hi]::ex).length 0)=some (.str x.name)from load_box (cs:=ζ1) (by simp+zetaDelta) rfl)<|.append (show appendA 1 16 ζ3 (.sl (skF acc) (List.map .str acc)) (.sl .full [.str x.name])=some ((rowF .str (acc++[x.name]),ζ6))from ap _ _)<|.bin (iI i)<|.cutQ k30_0 [(3,.ptr 0 0),(7,fv),(8,.sl (skF (acc++[x.name])) (List.map .str (acc++[x.name]))),(16,.sl .sh (s.pods.map encPd)),(17,.int .i64 (↑s.pods.length)),(18,.int .i64 (↑(i+1)))] (ζ6) (fun T hT=>(yes T hT)))
    |false=>
     have e:foundB s lo hi why x=false:=by simp[foundB,h3]
     rw[one_no e]
     rw[h3]at d
     exact let ζ1:List AV:=[.str x.name,.str x.owner,.int .i64 x.prio,.sl .sh (x.need.map encA),.sl .sh (x.labels.map encP),.sl .sh (x.sel.map encM),.sl .sh (x.tols.map encL),.str x.key,.int .i64 x.most,.str x.node,.bool x.hold];let ζ2:List AV:=[.sl .sh (s.nodes.map encN),.sl .sh (s.pods.map encPd),.sl .sh (s.buds.map encB)];let ζ3:Heap:={boxes:=ζ2::[lo,hi]::(ex++[ζ1]),toks:=tkR .str acc,loops:=[]:Heap};let ζ4:List AV:=[.str [],.str [],.int .i64 0,.sl .full [],.sl .full [],.sl .full [],.sl .full [],.str [],.int .i64 0,.str [],.bool false];let ζ5:Heap:={boxes:=(encSt s).cells::[lo,hi]::(ex++[(encPd x).cells]),toks:=tkR .str acc,loops:=[]:Heap};gG 160 _ hT (.yes (dT ((↑i:Int)<(↑s.pods.length:Int)))<|.idx hxi<|.load (rfl:loadA true 11 {boxes:=ζ2::[lo,hi]::ex,toks:=tkR .str acc,loops:=[]:Heap} (.ref ζ1)=some (.agg ζ1))<|.store (show storeA 11 {boxes:=ζ2::[lo,hi]::(ex++[ζ4]),toks:=tkR .str acc,loops:=[]:Heap} (.ptr (ζ2::[lo,hi]::ex).length 0) (.agg ζ1)=some (ζ3)from store_box2 (cs:=ζ4) (cs':=ζ1) (by simp+zetaDelta) rfl (by simp+zetaDelta [List.set_append]))<|.load (show loadA false 1 ζ3 (.ptr (ζ2::[lo,hi]::ex).length 9)=some (.str x.node)from load_box (cs:=ζ1) (by simp+zetaDelta) rfl)<|.yes (show(!x.node==[])=true from by have hh:¬((x.node==[])=true):=(by simpa using h1);simp[hh])<|.load (show loadA false 1 ζ3 (.ptr (ζ2::[lo,hi]::ex).length 10)=some (.bool x.hold)from load_box (cs:=ζ1) (by simp+zetaDelta) rfl)<|.yes (show(!x.hold)=true from by have hh:¬(x.hold=true):=(by simp+zetaDelta [h2]);simp[hh])<|.load (show loadA true 11 ζ3 (.ptr (ζ2::[lo,hi]::ex).length 0)=some (.agg ζ1)from load_box (cs:=ζ1) (by simp+zetaDelta) rfl)<|.effY d<|.ff<|.bin (iI i)<|.cutQ k30_0 [(3,.ptr 0 0),(7,fv),(8,.sl (skF acc) (List.map .str acc)),(16,.sl .sh (s.pods.map encPd)),(17,.int .i64 (↑s.pods.length)),(18,.int .i64 (↑(i+1)))] (ζ3) (fun T hT=>(no T hT)))
def PreB(pre ex:List (List AV)):Prop:=∃r,ex=pre++r∧r.all (·.all data0)=true
theorem preB_snoc{pre:List (List AV)}(ex:List (List AV))(x:Pod)(h:PreB pre ex):PreB pre (ex++[(encPd x).cells]):=by
 obtain⟨r,rfl,hr⟩:=h
 exact⟨r++[(encPd x).cells],by simp,by rw[List.all_append,hr];rfl⟩
theorem one_end(s:St)(hs:s.pods.length≤1000){lo hi:AV}(hl:Fl lo)(hh:Fl hi){fv:AV}{why:Int}{pre:List (List AV)}(hb:Does cfg (.call (.c (.func 70 [])) [.c (encSt s),.c (.int .i64 why),.c (.agg [lo,hi])]) ⟨[(encSt s).cells,[lo,hi]],[],[]⟩ fv ⟨(encSt s).cells::[lo,hi]::pre,[],[]⟩)
 (hc:∀tk r(x:Pod),r.all (·.all data0)=true→x∈s.pods→Does cfg (.call (.c fv) [.c (encPd x)]) ⟨(encSt s).cells::[lo,hi]::(pre++r),tk,[]⟩ (.bool (isB s lo hi why x)) ⟨(encSt s).cells::[lo,hi]::(pre++r),tk,[]⟩):
 Gives cfg 30 [encSt s,.int .i64 why,.agg [lo,hi]] (rowF .str (oneS s lo hi why)):=by
 refine Gives.run (l30 _ _) ?_
 have lo':=one_loop s hs (lo:=lo) (hi:=hi) fv why (PreB pre) (fun ex x=>preB_snoc ex x) (fun tk ex x he hx=>by
  obtain⟨r,rfl,hr⟩:=he
  exact hc tk r x hr hx) s.pods 0 rfl [] (by simp) pre ⟨[],by simp,rfl⟩
 have e:rowF AV.str ([]:List (List UInt8))=.sl .full []:=rfl
 rw[e,tk_nil,List.nil_append]at lo'
 rw[show oneS s lo hi why=oneL s lo hi why s.pods from rfl]
 exact let ζ1:List AV:=[.sl .sh (s.nodes.map encN),.sl .sh (s.pods.map encPd),.sl .sh (s.buds.map encB)];let ζ2:Heap:={boxes:=ζ1::[lo,hi]::pre,toks:=[],loops:=[]:Heap};gG 120 [] trivial (.effY hb<|.load (lB false 1 ζ2 0 1 (.sl .sh (s.pods.map encPd)) ζ1)<|.len (lM .sh encPd s.pods)<|.cutQ k30_0 [(3,.ptr 0 0),(7,fv),(8,.sl .full []),(16,.sl .sh (s.pods.map encPd)),(17,.int .i64 (↑s.pods.length)),(18,.int .i64 0)] (ζ2) (fun T hT=>(lo' T hT)))
theorem one_any(s:St)(h:StB s){lo hi:AV}(hl:Fl lo)(hh:Fl hi)(why:Int):Gives cfg 30 [encSt s,.int .i64 why,.agg [lo,hi]] (rowF .str (oneS s lo hi why)):=by
 have hp:=h.ins.pods
 have hn:=h.nodes
 by_cases h1:why=1
 ·subst h1
  refine one_end s hp hl hh (bad_1 s hl hh) fun tk r x hr hx=> ?_
  rw[show isB s lo hi 1 x=wtB s x from rfl]
  exact cl136 s h hl hh tk r hr x (h.pd x hx)
 by_cases h2:why=2
 ·subst h2
  have hb:=bad_any s hp (by omega) fun n hn=>(h.nd n hn).labels
  refine one_end s hp hl hh (bad_2 s hl hh hb) fun tk r x hr hx=> ?_
  rw[show isB s lo hi 2 x=nmB (badS s) x.name from rfl]
  have:=badS_len s
  exact cl138 s h hl hh tk (badS s) (by omega) r hr x
 by_cases h3:why=3
 ·subst h3
  refine one_end s hp hl hh (bad_3 s hl hh) fun tk r x hr hx=> ?_
  rw[show isB s lo hi 3 x=twB s x from rfl]
  exact cl140 s h hl hh tk r hr x
 by_cases h4:why=4
 ·subst h4
  refine one_end s hp hl hh (bad_4 s hl hh) fun tk r x hr hx=> ?_
  rw[show isB s lo hi 4 x=(lvN s x.node lo hi==2)from rfl]
  exact cl143 s h hl hh tk r hr x
 by_cases h5:why=5
 ·subst h5
  refine one_end s hp hl hh (bad_5 s h hl hh) fun tk r x hr hx=> ?_
  rw[show isB s lo hi 5 x=(s.nodes.any (mrP s lo hi)&&lvN s x.node lo hi==0)from rfl]
  exact cl146 s h hl hh tk _ r hr x
 refine one_end (fv:=.func 147 []) (pre:=[]) s hp hl hh ?_ fun tk r x hr hx=> ?_
 ·have g:=bad_0 s h hl hh h1 h2 h3 h4 h5
  obtain⟨H',hg⟩:=g.ret
  intro T
  have hd:=(does_data (g:=70) ⟨_,hg,rfl⟩ [encSt s,.int .i64 why,.agg [lo,hi]] (by
   show [encSt s,.int .i64 why,.agg [Go.Aa.shut1 lo,Go.Aa.shut1 hi]]=_
   rw[hl.sh1,hh.sh1]) (by
   show(true&&(true&&((Go.Aa.data0 lo&&(Go.Aa.data0 hi&&true))&&true)))=true
   rw[hl.d0,hh.d0];rfl) rfl rfl ⟨[(encSt s).cells,[lo,hi]],[],[]⟩).1
  exact hd T
 ·rw[show isB s lo hi why x=false by simp[isB,h1,h2,h3,h4,h5]]
  exact(does_data (cl147 x) [encPd x] rfl rfl rfl rfl _).1
end Go.Aa.T
set_option linter.unusedVariables false
set_option linter.unusedSimpArgs false
set_option maxRecDepth 100000
namespace Go.Aa.T
open Go.Aa Go.Proofs
instance(o:Option Node):Res (findNV o) (.tuple [encN (o.getD noN),.bool o.isSome]):=⟨by cases o<;>exact⟨rfl,rfl⟩⟩
end Go.Aa.T
set_option linter.unusedVariables false
set_option linter.unusedSimpArgs false
set_option maxRecDepth 100000
namespace Go.Aa.T
open Go.Aa Go.Proofs
instance(x y:AV)(l:List AV) [hx:FlC x] [hy:FlC y]:Dat (.agg [x,y,.sl .sh l]):=⟨by
 refine⟨?_,?_⟩
 ·show AV.agg [shut1 x,shut1 y,shut1 (.sl .sh l)]=_
  rw[hx.p.sh1,hy.p.sh1];rfl
 ·show(data0 x&&(data0 y&&(data0 (.sl .sh l)&&true)))=true
  rw[hx.p.d0,hy.p.d0];rfl⟩
instance{X:Type}(x y:AV)(l:List X)(m:List AV) [hx:FlC x] [hy:FlC y]:Shut (.agg [x,y,.sl (skF l) m]) (.agg [x,y,.sl .sh m]):=⟨by
 refine⟨?_,?_⟩
 ·show AV.agg [shut1 x,shut1 y,shut1 (.sl (skF l) m)]=_
  rw[hx.p.sh1,hy.p.sh1]
  cases l<;>rfl
 ·show(data0 x&&(data0 y&&(data0 (.sl .sh m)&&true)))=true
  rw[hx.p.d0,hy.p.d0];rfl⟩
end Go.Aa.T
set_option linter.unusedVariables false
set_option linter.unusedSimpArgs false
set_option maxRecDepth 100000
namespace Go.Aa.T
open Go.Aa Go.Proofs
abbrev Fnd:=List UInt8×Int
def encFd(f:Fnd):AV:=.agg [.str f.1,.int .i64 f.2]
def hasF(out:List Fnd)(nm:List UInt8):Bool:=out.any fun f=>f.1==nm
def addF(out:List Fnd)(why:Int)(nm:List UInt8):List Fnd:=if hasF out nm=true then out else out++[(nm,why)]
def inF(why:Int):List Fnd→List (List UInt8)→List Fnd
 |out,[]=>out
 |out,nm::l=>inF why (addF out why nm) l
def alF(s:St)(lo hi:AV):List Fnd→List Int→List Fnd
 |out,[]=>out
 |out,w::l=>alF s lo hi (inF w out (oneS s lo hi w)) l
theorem addF_len(out:List Fnd)(why:Int)(nm:List UInt8):(addF out why nm).length≤out.length+1:=by
 unfold addF
 split
 ·omega
 ·simp
theorem inF_len(why:Int):∀(l:List (List UInt8))(out:List Fnd),(inF why out l).length≤out.length+l.length
 |[],out=>Nat.le_refl _
 |nm::l,out=>by
  have h1:=inF_len why l (addF out why nm)
  have h2:=addF_len out why nm
  rw[inF,List.length_cons];omega
theorem does_callS{xs ys caps:List AV}{g:FuncId}{v:AV}{H H2:Heap}(h:lim cfg (.fn g) (ys++caps) H=some (.ret v,H2))(hx:xs.map shutA=ys)(hd:(ys.all isData&&caps.all data0)=false):
 Does cfg (.call (.c (.func g caps)) (xs.map .c)) H (shutA v) (trunc H.boxes.length H.toks.length (shutA v) H2):=fun T=>by
 have e:(xs.map Opd.c).map (fun x=>shutA (ev T x))=ys:=by rw[List.map_map];exact hx
 simp only[opStep,e]
 rw[show ev T (.c (.func g caps))=.func g caps from rfl]
 simp only[callV,hd,Bool.false_eq_true,if_false,callE,h]
section
variable{H:Heap}{g:FuncId}{k:Nat}{p:Fnd→Bool}
theorem idxFd_loop(hd:∀y:Fnd,Does cfg (.call (.c (.func g [.ptr k 0])) [.c (encFd y)]) H (.bool (p y)) H)(l:List Fnd)(hn:l.length<9223372036854775807):∀(post:List Fnd)(i:Nat)(hdr:l.drop i=post)(T:Env)
 (hT:Has T [(0,.sl .sh (l.map encFd)),(1,.func g [.ptr k 0]),(7,.int .i64 l.length),(8,.int .i64 i)]),
 Goes cfg a150 k150_0 T H (fun r=>r=(.ret (.int .i64 (fidxB p post i)),H)):=by
 intro post
 induction post with
 |nil=>
  intro i hdr T hT
  have hge:=drop_ge hdr
  exact gG 60 _ hT (.no (dF ((↑i:Int)<(↑l.length:Int)))<|.fin ((.ret (.int .i64 (-1:Int)),H)) rfl)
 |cons x post ih=>
  intro i hdr T hT
  have hlt:=drop_lt hdr
  have hnx:=drop_next hdr
  have hdx:=hd x
  cases hp:p x with
  |true=>
   rw[hp]at hdx
   have e:fidxB p (x::post) i=i:=by simp[fidxB,hp]
   rw[e]
   exact gG 60 _ hT (.yes (dT ((↑i:Int)<(↑l.length:Int)))<|.idx (iR 2 encFd hdr)<|.load (rfl:loadA true 2 H (.ref [.str x.fst,.int .i64 x.snd])=some (.agg [.str x.fst,.int .i64 x.snd]))<|.effY hdx<|.tt<|.fin ((.ret (.int .i64 ↑i),H)) rfl)
  |false=>
   rw[hp]at hdx
   have e:fidxB p (x::post) i=fidxB p post (i+1):=by simp[fidxB,hp]
   rw[e]
   exact gG 60 _ hT (.yes (dT ((↑i:Int)<(↑l.length:Int)))<|.idx (iR 2 encFd hdr)<|.load (rfl:loadA true 2 H (.ref [.str x.fst,.int .i64 x.snd])=some (.agg [.str x.fst,.int .i64 x.snd]))<|.effY hdx<|.ff<|.bin (iI i)<|.cutQ k150_0 [(0,.sl .sh (l.map encFd)),(1,.func g [.ptr k 0]),(7,.int .i64 (↑l.length)),(8,.int .i64 (↑(i+1)))] (H) (fun T hT=>(ih (i+1) hnx T hT)))
theorem anyFd(hd:∀y:Fnd,Does cfg (.call (.c (.func g [.ptr k 0])) [.c (encFd y)]) H (.bool (p y)) H)(l:List Fnd)(hn:l.length<9223372036854775807):
 Does cfg (.call (.c (.func 77 [])) [.c (rowF encFd l),.c (.func g [.ptr k 0])]) H (.bool (l.any p)) H:=by
 have hl:lim cfg (.fn 150) [.sl .sh (l.map encFd),.func g [.ptr k 0]] H=some (.ret (.int .i64 (fidxB p l 0)),H):=by
  rw[l150]
  have h:=idxFd_loop hd l hn l 0 rfl
  have key:Goes cfg a150 [.c c150] (initEnv [.sl .sh (l.map encFd),.func g [.ptr k 0]]) H (fun r=>r=(.ret (.int .i64 (fidxB p l 0)),H)):=by
   exact gG 60 [] trivial (.len (lM .sh encFd l)<|.cutQ k150_0 [(0,.sl .sh (l.map encFd)),(1,.func g [.ptr k 0]),(7,.int .i64 (↑l.length)),(8,.int .i64 0)] (H) (fun T hT=>(h T hT)))
  obtain⟨r,h,rfl⟩:=key
  exact h
 have h0:=does_callE (xs:=[.sl .sh (l.map encFd),.func g [.ptr k 0]]) (caps:=[]) hl rfl rfl
 rw[show shutA (.int .i64 (fidxB p l 0))=.int .i64 (fidxB p l 0)from rfl,trunc_self]at h0
 have hf:decide (0≤fidxB p l 0)=l.any p:=fidxB_ge p l 0
 have key:Goes cfg a77 [.c c77] (initEnv [.sl .sh (l.map encFd),.func g [.ptr k 0]]) H (fun r=>r=(.ret (.bool (l.any p)),H)):=by
  rw[←hf]
  generalize fidxB p l 0=c at h0
  exact gG 60 [] trivial (.effY h0<|.fin ((.ret (.bool (decide ((0:Int)≤c))),H)) rfl)
 obtain⟨r,h,rfl⟩:=key
 have h2:lim cfg (.fn 77) ([.sl .sh (l.map encFd),.func g [.ptr k 0]]++[]) H=some (.ret (.bool (l.any p)),H):=by
  rw[l77];exact h
 have h3:=does_callS (xs:=[rowF encFd l,.func g [.ptr k 0]]) h2 (by cases l<;>rfl) rfl
 rwa [show shutA (.bool (l.any p))=.bool (l.any p)from rfl,trunc_self]at h3
end
theorem cl78(S:List AV)(hS:S.all data0=true){lo hi:AV}(hl:Fl lo)(hh:Fl hi)(L:List AV)(tk:List Nat)(ex:List (List AV))(he:ex.all (·.all data0)=true)(nm:List UInt8)(x:Fnd):
 Does cfg (.call (.c (.func 78 [.ptr (ex.length+2) 0])) [.c (encFd x)]) ⟨S::[lo,hi,.sl .sh L]::(ex++[[.str nm]]),tk,[]⟩ (.bool (x.1==nm)) ⟨S::[lo,hi,.sl .sh L]::(ex++[[.str nm]]),tk,[]⟩:=by
 have key:Goes cfg a78 [.c c78] (initEnv [encFd x,.ptr (ex.length+2) 0]) ⟨S::[lo,hi,.sl .sh L]::(ex++[[.str nm]]),tk,[]⟩ (fun r=>r=(.ret (.bool (x.1==nm)),⟨S::[lo,hi,.sl .sh L]::(ex++[[.str nm]]++[(encFd x).cells]),tk,[]⟩)):=by
  exact let ζ1:Heap:={boxes:=S::[lo,hi,.sl .sh L]::(ex++[[AV.str nm]]++[[AV.str x.fst,.int .i64 x.snd]]),toks:=tk,loops:=[]:Heap};gG 120 [] trivial (.load (show loadA false 1 ζ1 (.ptr (S::[lo,hi,.sl .sh L]::(ex++[[AV.str nm]])).length 0)=some (.str x.fst)from load_box (cs:=[.str x.fst,.int .i64 x.snd]) (by simp+zetaDelta) rfl)<|.load (lB false 1 ζ1 (ex.length+2) 0 (.str nm) [.str nm])<|.fin ((.ret (.bool (x.fst==nm)),ζ1)) rfl)
 obtain⟨r,h1,rfl⟩:=key
 refine does_cl (ex:=[(encFd x).cells]) (by rw[show [encFd x]++[AV.ptr (ex.length+2) 0]=[encFd x,.ptr (ex.length+2) 0]from rfl,l78,h1];simp) rfl ?_
 rw[List.all_cons,List.all_cons,List.all_append,hS,he]
 show(true&&(((Go.Aa.data0 lo&&(Go.Aa.data0 hi&&true)))&&true))=true
 rw[hl.d0,hh.d0];rfl
theorem ap_Fd{acc:List Fnd}(x:Fnd)(hn:acc.length≤100000)(bs:List (List AV))(ls:List LRec):
 appendA 2 24 ⟨bs,tkR encFd acc,ls⟩ (rowF encFd acc) (.sl .full [encFd x])=some (rowF encFd (acc++[x]),⟨bs,tkR encFd (acc++[x]),ls⟩):=
 row_append_T encFd (x:=x) (by simp;omega) (lenOk_map fun _=>rfl) rfl rfl
theorem al_inner(s:St){lo hi:AV}(hl:Fl lo)(hh:Fl hi)(on:List Int)(hon:on.length≤1000)(i:Nat)(hi2:i≤1000)(w:Int)(names:List (List UInt8))(hn:names.length≤1000)(out0:List Fnd)(ho:out0.length≤50000)(R:ARes×Heap→Prop)
 (K:∀(ex:List (List AV)),ex.all (·.all data0)=true→∀(T:Env),Has T [(2,.ptr 0 0),(3,.ptr 1 0),(5,rowF encFd (inF w out0 names)),(11,.sl .sh (on.map encJ)),(12,.int .i64 on.length),(13,.int .i64 ((i+1:Nat):Int))]→
   Goes cfg a32 k32_0 T ⟨(encSt s).cells::[lo,hi,.sl .sh (on.map encJ)]::ex,tkR encFd (inF w out0 names),[]⟩ R):
 ∀(post:List (List UInt8))(j:Nat)(hd:names.drop j=post)(out:List Fnd)(hol:out.length≤out0.length+j)(he:inF w out post=inF w out0 names)(ex:List (List AV))(hex:ex.all (·.all data0)=true)(T:Env)
 (hT:Has T [(2,.ptr 0 0),(3,.ptr 1 0),(5,rowF encFd out),(7,.int .i64 w),(11,.sl .sh (on.map encJ)),(12,.int .i64 on.length),(13,.int .i64 i),(21,.sl .sh (names.map .str)),(22,.int .i64 names.length),(23,.int .i64 j)]),
 Goes cfg a32 k32_1 T ⟨(encSt s).cells::[lo,hi,.sl .sh (on.map encJ)]::ex,tkR encFd out,[]⟩ R:=by
 haveI:=hl.C
 haveI:=hh.C
 have inci:=inc_i (i:=i) (by omega)
 intro post
 induction post with
 |nil=>
  intro j hd out hol he ex hex T hT
  have hge:=drop_ge hd
  have he':out=inF w out0 names:=he
  have k:=K ex hex
  rw[←he']at k
  exact gG 90 _ hT (.no (dF ((↑j:Int)<(↑names.length:Int)))<|.bin inci<|.cutQ k32_0 [(2,.ptr 0 0),(3,.ptr 1 0),(5,.sl (skF out) (out.map encFd)),(11,.sl .sh (on.map encJ)),(12,.int .i64 (↑on.length)),(13,.int .i64 (↑(i+1)))] ({boxes:=[.sl .sh (s.nodes.map encN),.sl .sh (s.pods.map encPd),.sl .sh (s.buds.map encB)]::[lo,hi,.sl .sh (on.map encJ)]::ex,toks:=tkR encFd out,loops:=[]:Heap}) (fun T hT=>(k T hT)))
 |cons x post ih=>
  intro j hd out hol he ex hex T hT
  have hlt:=drop_lt hd
  have hnx:=drop_next hd
  have an:=anyFd (fun y=>cl78 (encSt s).cells (encSt_d s) hl hh (on.map encJ) (tkR encFd out) ex hex x y) out (by omega)
  have ap:=ap_Fd (acc:=out) (x,w) (by omega)
  have al:=addF_len out w x
  have ih':=ih (j+1) hnx (addF out w x) (by omega) he (ex++[[.str x]]) (by rw[List.all_append,hex];rfl)
  have e:(out.any fun y=>y.1==x)=hasF out x:=rfl
  rw[e]at an
  cases h:hasF out x with
  |true=>
   rw[h]at an
   rw[show addF out w x=out by unfold addF;rw[if_pos h]]at ih'
   exact let ζ1:List AV:=[.sl .sh (s.nodes.map encN),.sl .sh (s.pods.map encPd),.sl .sh (s.buds.map encB)];let ζ2:Heap:={boxes:=(encSt s).cells::[lo,hi,.sl .sh (on.map encJ)]::(ex++[[AV.str x]]),toks:=tkR encFd out,loops:=[]:Heap};let ζ3:Heap:={boxes:=ζ1::[lo,hi,.sl .sh (on.map encJ)]::(ex++[[AV.str x]]),toks:=tkR encFd out,loops:=[]:Heap};gG 160 _ hT (.yes (dT ((↑j:Int)<(↑names.length:Int)))<|.idx (show idxA 1 (.sl .sh (List.map .str names)) (.int .i64 ↑j)=some (.ref (AV.str x).cells)from idx_row hd (by rfl))<|.load (rfl:loadA false 1 {boxes:=ζ1::[lo,hi,.sl .sh (on.map encJ)]::ex,toks:=tkR encFd out,loops:=[]:Heap} (.ref [.str x])=some (.str x))<|.store (show storeA 1 {boxes:=ζ1::[lo,hi,.sl .sh (on.map encJ)]::(ex++[[AV.str []]]),toks:=tkR encFd out,loops:=[]:Heap} (.ptr (ζ1::[lo,hi,.sl .sh (on.map encJ)]::ex).length 0) (.str x)=some (ζ3)from store_box2 (cs:=[.str []]) (cs':=[.str x]) (by simp+zetaDelta) rfl (by simp+zetaDelta [List.set_append]))<|.effY an<|.ff<|.bin (iI j)<|.cutQ k32_1 [(2,.ptr 0 0),(3,.ptr 1 0),(5,.sl (skF out) (out.map encFd)),(7,.int .i64 w),(11,.sl .sh (on.map encJ)),(12,.int .i64 (↑on.length)),(13,.int .i64 ↑i),(21,.sl .sh (List.map .str names)),(22,.int .i64 (↑names.length)),(23,.int .i64 (↑(j+1):Int))] (ζ3) (fun T hT=>(ih' T hT)))
  |false=>
   rw[h]at an
   rw[show addF out w x=out++[(x,w)]by unfold addF;rw[if_neg (by simp[h])]]at ih'
   exact let ζ1:List AV:=[.sl .sh (s.nodes.map encN),.sl .sh (s.pods.map encPd),.sl .sh (s.buds.map encB)];let ζ2:Heap:={boxes:=ζ1::[lo,hi,.sl .sh (on.map encJ)]::(ex++[[AV.str x]]),toks:=tkR encFd out,loops:=[]:Heap};let ζ3:Heap:={boxes:=ζ1::[lo,hi,.sl .sh (on.map encJ)]::(ex++[[AV.str x]]),toks:=tkR encFd (out++[(x,w)]),loops:=[]:Heap};let ζ4:Heap:={boxes:=(encSt s).cells::[lo,hi,.sl .sh (on.map encJ)]::(ex++[[AV.str x]]),toks:=tkR encFd out,loops:=[]:Heap};gG 160 _ hT (.yes (dT ((↑j:Int)<(↑names.length:Int)))<|.idx (show idxA 1 (.sl .sh (List.map .str names)) (.int .i64 ↑j)=some (.ref (AV.str x).cells)from idx_row hd (by rfl))<|.load (rfl:loadA false 1 {boxes:=ζ1::[lo,hi,.sl .sh (on.map encJ)]::ex,toks:=tkR encFd out,loops:=[]:Heap} (.ref [.str x])=some (.str x))<|.store (show storeA 1 {boxes:=ζ1::[lo,hi,.sl .sh (on.map encJ)]::(ex++[[AV.str []]]),toks:=tkR encFd out,loops:=[]:Heap} (.ptr (ζ1::[lo,hi,.sl .sh (on.map encJ)]::ex).length 0) (.str x)=some (ζ2)from store_box2 (cs:=[.str []]) (cs':=[.str x]) (by simp+zetaDelta) rfl (by simp+zetaDelta [List.set_append]))<|.effY an<|.tt<|.load (show loadA false 1 ζ2 (.ptr (ζ1::[lo,hi,.sl .sh (on.map encJ)]::ex).length 0)=some (.str x)from load_box (cs:=[.str x]) (by simp+zetaDelta) rfl)<|.append (show appendA 2 24 ζ2 (.sl (skF out) (out.map encFd)) (.sl .full [.agg [.str x,.int .i64 w]])=some ((rowF encFd (out++[(x,w)]),ζ3))from ap _ _)<|.bin (iI j)<|.cutQ k32_1 [(2,.ptr 0 0),(3,.ptr 1 0),(5,.sl (skF (out++[(x,w)])) (List.map encFd (out++[(x,w)]))),(7,.int .i64 w),(11,.sl .sh (on.map encJ)),(12,.int .i64 (↑on.length)),(13,.int .i64 ↑i),(21,.sl .sh (List.map .str names)),(22,.int .i64 (↑names.length)),(23,.int .i64 (↑(j+1):Int))] (ζ3) (fun T hT=>(ih' T hT)))
theorem al_loop(s:St)(h:StB s){lo hi:AV}(hl:Fl lo)(hh:Fl hi)(on:List Int)(hon:on.length≤40)(L:List Fnd):∀(post:List Int)(i:Nat)(hd:on.drop i=post)(out:List Fnd)(ho:out.length≤i*1000)(he:alF s lo hi out post=L)(ex:List (List AV))(hex:ex.all (·.all data0)=true)(T:Env)
 (hT:Has T [(2,.ptr 0 0),(3,.ptr 1 0),(5,rowF encFd out),(11,.sl .sh (on.map encJ)),(12,.int .i64 on.length),(13,.int .i64 i)]),
 Goes cfg a32 k32_0 T ⟨(encSt s).cells::[lo,hi,.sl .sh (on.map encJ)]::ex,tkR encFd out,[]⟩ (IsRet (rowF encFd L)):=by
 haveI:=hl.C
 haveI:=hh.C
 intro post
 induction post with
 |nil=>
  intro i hd out ho he ex hex T hT
  have hge:=drop_ge hd
  have he':out=L:=he
  subst he'
  exact gG 90 _ hT (.no (dF ((↑i:Int)<(↑on.length:Int)))<|.fin ((.ret (.sl (skF out) (out.map encFd)),{boxes:=[.sl .sh (s.nodes.map encN),.sl .sh (s.pods.map encPd),.sl .sh (s.buds.map encB)]::[lo,hi,.sl .sh (on.map encJ)]::ex,toks:=tkR encFd out,loops:=[]:Heap})) rfl)
 |cons w post ih=>
  intro i hd out ho he ex hex T hT
  have hlt:=drop_lt hd
  have hnx:=drop_next hd
  have hxi:idxA 1 (.sl .sh (on.map encJ)) (.int .i64 (i:Nat))=some (.ref [.int .i64 w]):=idx_row (f:=encJ) hd rfl
  have o:=one_any s h hl hh w
  have ol:=oneS_len s lo hi w
  have hp:=h.ins.pods
  have il:=inF_len w (oneS s lo hi w) out
  have inn:=al_inner s hl hh on (by omega) i (by omega) w (oneS s lo hi w) (by omega) out (by omega) (IsRet (rowF encFd L)) (fun ex hex T hT=>ih (i+1) hnx (inF w out (oneS s lo hi w)) (by omega) he ex hex T hT)
   (oneS s lo hi w) 0 rfl out (by omega) rfl ex hex
  generalize oneS s lo hi w=nm at o inn
  exact let ζ2:List AV:=[.sl .sh (s.nodes.map encN),.sl .sh (s.pods.map encPd),.sl .sh (s.buds.map encB)];let ζ1:Heap:={boxes:=ζ2::[lo,hi,.sl .sh (on.map encJ)]::ex,toks:=tkR encFd out,loops:=[]:Heap};gG 160 _ hT (.yes (dT ((↑i:Int)<(↑on.length:Int)))<|.idx hxi<|.load (rfl:loadA false 1 ζ1 (.ref [.int .i64 w])=some (.int .i64 w))<|.load (lB true 3 ζ1 0 0 (.agg ζ2) ζ2)<|.load (lB true 2 ζ1 1 0 (.agg [lo,hi]) [lo,hi,.sl .sh (on.map encJ)])<|.callG ([.agg ζ2,.int .i64 w,.agg [lo,hi]]) (.sl .sh (List.map .str nm)) o Shuts.p Res.p<|.len (lM .sh .str nm)<|.cutQ k32_1 [(2,.ptr 0 0),(3,.ptr 1 0),(5,.sl (skF out) (out.map encFd)),(7,.int .i64 w),(11,.sl .sh (on.map encJ)),(12,.int .i64 (↑on.length)),(13,.int .i64 ↑i),(21,.sl .sh (List.map .str nm)),(22,.int .i64 (↑nm.length)),(23,.int .i64 0)] (ζ1) (fun T hT=>(inn T hT)))
theorem all_fd(s:St)(h:StB s){lo hi:AV}(hl:Fl lo)(hh:Fl hi)(on:List Int)(hon:on.length≤40):Gives cfg 32 [encSt s,.agg [lo,hi,.sl .sh (on.map encJ)]] (rowF encFd (alF s lo hi [] on)):=by
 haveI:=hl.C
 haveI:=hh.C
 refine Gives.run (l32 _ _) ?_
 have lo':=al_loop s h hl hh on hon (alF s lo hi [] on) on 0 rfl [] (by simp) rfl [] rfl
 have e:rowF encFd ([]:List Fnd)=.sl .full []:=rfl
 rw[e,tk_nil]at lo'
 generalize alF s lo hi [] on=L at*
 exact gG 90 [] trivial (.len (lM .sh encJ on)<|.cutQ k32_0 [(2,.ptr 0 0),(3,.ptr 1 0),(5,.sl .full []),(11,.sl .sh (on.map encJ)),(12,.int .i64 (↑on.length)),(13,.int .i64 0)] ({boxes:=[[.sl .sh (s.nodes.map encN),.sl .sh (s.pods.map encPd),.sl .sh (s.buds.map encB)],[lo,hi,.sl .sh (on.map encJ)]],toks:=[],loops:=[]:Heap}) (fun T hT=>(lo' T hT)))
end Go.Aa.T
set_option linter.unusedVariables false
set_option linter.unusedSimpArgs false
set_option maxRecDepth 100000
namespace Go.Aa.T
open Go.Aa Go.Proofs
theorem of_cls0{u c:Int}(h0:0≤u)(h:0<c)(hu:u≤9223372036854775807)(hc:c≤9223372036854775807):cls (ofA u c)=if u=0 then 3 else 4:=by
 rw[ofA_cls (by omega) (by omega),if_neg (by omega)]
 by_cases e:u=0
 ·rw[if_pos e,if_pos e,if_neg (by omega)]
 ·rw[if_neg e,if_neg e,if_neg]
  have a:decide (u<0)=false:=by simpa using h0
  have b:decide (c<0)=false:=by simpa using(by omega:0≤c)
  rw[a,b];decide
structure Us(x:AV):Prop where
 ex:∃u c:Int,x=ofA u c∧0≤u∧u≤c∧0<c∧c≤9223372036854775807
theorem Us.cls{x:AV}(h:Us x):cls x=3∨Go.Aa.T.cls x=4:=by
 obtain⟨u,c,rfl,h0,h1,h2,h3⟩:=h.ex
 rw[of_cls0 h0 h2 (by omega) h3]
 split<;>simp
end Go.Aa.T
set_option linter.unusedVariables false
set_option linter.unusedSimpArgs false
set_option maxRecDepth 100000
namespace Go.Aa.T
open Go.Aa Go.Proofs
theorem known25':Gives cfg 25 [] (.bool true):=by
 obtain⟨H',h⟩:=known_ret25
 exact⟨_,h,rfl⟩
theorem add_n{c:Nat}(h:c≤1000000):binA .add (.int .i64 (c:Int)) (.int .i64 1)=some (.int .i64 ((c+1:Nat):Int)):=by
 have:=addI (a:=(c:Int)) (b:=1) (by omega) (by omega)
 rw[this];simp
theorem stB{s:St}(fs:FewS s)(r:RgS s):StB s:=⟨stIn fs r,by have:=fs.nodes;omega,capl fs,few_nd fs,fun p hp=>few_pd (fs.pod p hp)⟩
end Go.Aa.T
set_option linter.unusedVariables false
set_option linter.unusedSimpArgs false
set_option maxRecDepth 100000
namespace Go.Aa.T
open Go.Aa Go.Proofs
def sk1{X:Type}:List X→SK
 |[]=>.full
 |_::_=>.own 1
instance{X:Type}(l:List X)(xs:List AV):Shut (.sl (sk1 l) xs) (.sl .sh xs):=⟨by cases l<;>exact⟨rfl,rfl⟩⟩
def row1(l:List Fnd):AV:=.sl (sk1 l) (l.map encFd)
instance(l:List Fnd):Shut (row1 l) (.sl .sh (l.map encFd)):=⟨by cases l<;>exact⟨rfl,rfl⟩⟩
theorem alF_len(s:St)(lo hi:AV):∀(l:List Int)(out:List Fnd),(alF s lo hi out l).length≤out.length+l.length*s.pods.length
 |[],out=>by simp[alF]
 |w::l,out=>by
  have h1:=alF_len s lo hi l (inF w out (oneS s lo hi w))
  have h2:=inF_len w (oneS s lo hi w) out
  have h3:=oneS_len s lo hi w
  rw[alF,List.length_cons,Nat.add_mul];omega
end Go.Aa.T
set_option linter.unusedVariables false
set_option linter.unusedSimpArgs false
set_option maxRecDepth 100000
namespace Go.Aa.T
open Go.Aa Go.Proofs
end Go.Aa.T
set_option linter.unusedVariables false
set_option linter.unusedSimpArgs false
set_option maxRecDepth 100000
namespace Go.Aa.T
open Go.Aa Go.Proofs
def sumN:List Nat→Nat
 |[]=>0
 |n::l=>n+sumN l
theorem sum_zip{β:Type}(f g:β→Nat):∀B:List β,sumN (B.map fun b=>f b+g b)=sumN (B.map f)+sumN (B.map g)
 |[]=>rfl
 |b::B=>by
  have:=sum_zip f g B
  simp only[List.map_cons,sumN,this];omega
theorem sum_one{β:Type}(p:β→Bool):∀B:List β,sumN (B.map fun b=>if p b=true then 1 else 0)=(B.filter p).length
 |[]=>rfl
 |b::B=>by
  have:=sum_one p B
  rw[List.filter_cons]
  by_cases h:p b=true
  ·simp only[List.map_cons,sumN,this,if_pos h,List.length_cons];omega
  ·simp only[List.map_cons,sumN,this,if_neg h];omega
theorem sum_zero'{β:Type}:∀B:List β,sumN (B.map fun _=>0)=0
 |[]=>rfl
 |b::B=>by simp only[List.map_cons,sumN,sum_zero' B]
theorem twice{α β:Type}(G:α→β→Bool)(B:List β):∀A:List α,sumN (A.map fun a=>(B.filter (G a)).length)=sumN (B.map fun b=>(A.filter fun a=>G a b).length)
 |[]=>by
  show 0=sumN (B.map fun b=>0)
  rw[sum_zero']
 |a::A=>by
  have ih:=twice G B A
  have e:(fun b=>((a::A).filter fun a=>G a b).length)=fun b=>(if G a b=true then 1 else 0)+(A.filter fun a=>G a b).length:=by
   funext b
   rw[List.filter_cons]
   by_cases h:G a b=true
   ·rw[if_pos h,if_pos h,List.length_cons];omega
   ·rw[if_neg h,if_neg h];omega
  rw[e,sum_zip,sum_one,←ih]
  rfl
theorem sum_congr{β:Type}{f g:β→Nat}{B:List β}(h:∀b∈B,f b=g b):sumN (B.map f)=sumN (B.map g):=by
 rw[List.map_congr_left h]
end Go.Aa.T
