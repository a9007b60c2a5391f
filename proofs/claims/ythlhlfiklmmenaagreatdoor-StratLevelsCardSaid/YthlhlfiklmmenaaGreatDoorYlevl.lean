/-
  WHAT THE LAW LEANS ON, part 12 of 13: a machine of values and its soundness; the functions of the law upon it; what they come to.
-/
import Derived.Test.YthlhlfiklmmenaaGreatDoorYlevk
set_option linter.unusedVariables false
set_option linter.unusedSimpArgs false
set_option maxRecDepth 100000
namespace Go.Aa.T
open Go.Aa Go.Proofs
def nmB(l:List (List UInt8))(s:List UInt8):Bool:=l.any fun x=>x==s
theorem ixS_loop(l:List (List UInt8))(s:List UInt8)(hn:l.length<9223372036854775807):∀(post:List (List UInt8))(i:Nat)(hd:l.drop i=post)(T:Env)
 (hT:Has T [(0,.sl .sh (l.map .str)),(1,.str s),(7,.int .i64 l.length),(8,.int .i64 i)]),
 Goes cfg a216 k216_0 T Heap.nil (IsRet (.int .i64 (fidxB (fun x=>x==s) post i))):=by
 intro post
 induction post with
 |nil=>
  intro i hd T hT
  have hge:=drop_ge hd
  exact gG 60 _ hT (.no (dF ((↑i:Int)<(↑l.length:Int)))<|.fin ((.ret (.int .i64 (-1:Int)),{boxes:=[],toks:=[],loops:=[]:Heap})) rfl)
 |cons x post ih=>
  intro i hd T hT
  have hlt:=drop_lt hd
  have hnx:=drop_next hd
  by_cases h:s=x
  ·have e:fidxB (fun x=>x==s) (x::post) i=i:=by simp[fidxB,h]
   rw[e]
   exact gG 60 _ hT (.yes (dT ((↑i:Int)<(↑l.length:Int)))<|.idx (show idxA 1 (.sl .sh (List.map .str l)) (.int .i64 ↑i)=some (.ref (AV.str x).cells)from idx_row hd (by rfl))<|.yes (show(s==x)=true from(by simpa using h))<|.fin ((.ret (.int .i64 ↑i),{boxes:=[],toks:=[],loops:=[]:Heap})) rfl)
  ·have h':¬x=s:=fun e=>h e.symm
   have e:fidxB (fun x=>x==s) (x::post) i=fidxB (fun x=>x==s) post (i+1):=by simp[fidxB,h']
   rw[e]
   exact gG 60 _ hT (.yes (dT ((↑i:Int)<(↑l.length:Int)))<|.idx (show idxA 1 (.sl .sh (List.map .str l)) (.int .i64 ↑i)=some (.ref (AV.str x).cells)from idx_row hd (by rfl))<|.no (show(s==x)=false from Bool.eq_false_iff.2 (by simpa using h))<|.bin (iI i)<|.cutQ k216_0 [(0,.sl .sh (List.map .str l)),(1,.str s),(7,.int .i64 (↑l.length)),(8,.int .i64 (↑(i+1)))] ({boxes:=[],toks:=[],loops:=[]:Heap}) (fun T hT=>(ih (i+1) hnx T hT)))
theorem ctS_any(l:List (List UInt8))(s:List UInt8)(hn:l.length<9223372036854775807):Gives cfg 139 [.sl .sh (l.map .str),.str s] (.bool (nmB l s)):=by
 refine Gives.run (l139 _ _) ?_
 have h0:Gives cfg 216 [.sl .sh (l.map .str),.str s] (.int .i64 (fidxB (fun x=>x==s) l 0)):=by
  refine Gives.run (l216 _ _) ?_
  have h:=ixS_loop l s hn l 0 rfl
  exact gG 60 [] trivial (.len (lM .sh .str l)<|.cutQ k216_0 [(0,.sl .sh (List.map .str l)),(1,.str s),(7,.int .i64 (↑l.length)),(8,.int .i64 0)] ({boxes:=[],toks:=[],loops:=[]:Heap}) (fun T hT=>(h T hT)))
 have hf:decide (0≤fidxB (fun x=>x==s) l 0)=nmB l s:=fidxB_ge _ l 0
 rw[←hf]
 generalize fidxB (fun x=>x==s) l 0=c at h0⊢
 exact let ζ1:List AV:=[.sl .sh (List.map .str l),.str s];gG 60 [] trivial (.callK (ζ1) (.int .i64 c) h0<|.fin ((.ret (.bool (decide ((0:Int)≤c))),{boxes:=[],toks:=[],loops:=[]:Heap})) rfl)
def badP(s:St)(p:Pod):Bool:= !(p.node==[]||p.key==[])&&(!(skewS s p p.node).2||decide (p.most<(skewS s p p.node).1))
def badL(s:St)(l:List Pod):List (List UInt8):=(l.filter (badP s)).map Pod.name
def badS(s:St):List (List UInt8):=badL s s.pods
theorem badS_len(s:St):(badS s).length≤s.pods.length:=by
 unfold badS badL
 rw[List.length_map];exact List.length_filter_le _ _
theorem bad_yes{s:St}{p:Pod}{l:List Pod}(h:badP s p=true):badL s (p::l)=p.name::badL s l:=by simp[badL,List.filter_cons,h]
theorem bad_no{s:St}{p:Pod}{l:List Pod}(h:badP s p=false):badL s (p::l)=badL s l:=by simp[badL,List.filter_cons,h]
theorem ap_S{acc:List (List UInt8)}(x:List UInt8)(hn:acc.length≤100000)(bs:List (List AV))(ls:List LRec):
 appendA 1 16 ⟨bs,tkR .str acc,ls⟩ (rowF .str acc) (.sl .full [.str x])=some (rowF .str (acc++[x]),⟨bs,tkR .str (acc++[x]),ls⟩):=
 row_append_T AV.str (x:=x) (by simp;omega) (lenOk_map fun _=>rfl) rfl rfl
theorem bad_loop(s:St)(hp:s.pods.length≤1000)(hs:s.nodes.length≤1000)(hl:∀n∈s.nodes,n.labels.length<9223372036854775807):
 ∀(post:List Pod)(i:Nat)(hd:s.pods.drop i=post)(acc:List (List UInt8))(ha:acc.length≤i)(ex:List (List AV))(T:Env)
 (hT:Has T [(1,.ptr 0 0),(3,rowF .str acc),(9,.sl .sh (s.pods.map encPd)),(10,.int .i64 s.pods.length),(11,.int .i64 i)]),
 Goes cfg a137 k137_0 T ⟨(encSt s).cells::ex,tkR .str acc,[]⟩ (IsRet (rowF .str (acc++badL s post))):=by
 intro post
 induction post with
 |nil=>
  intro i hd acc ha ex T hT
  have hge:=drop_ge hd
  rw[show acc++badL s []=acc by simp[badL]]
  exact gG 60 _ hT (.no (dF ((↑i:Int)<(↑s.pods.length:Int)))<|.fin ((.ret (.sl (skF acc) (List.map .str acc)),{boxes:=[.sl .sh (s.nodes.map encN),.sl .sh (s.pods.map encPd),.sl .sh (s.buds.map encB)]::ex,toks:=tkR .str acc,loops:=[]:Heap})) rfl)
 |cons x post ih=>
  intro i hd acc ha ex T hT
  have hlt:=drop_lt hd
  have hnx:=drop_next hd
  have hxi:idxA 11 (.sl .sh (s.pods.map encPd)) (.int .i64 (i:Nat))=some (.ref (encPd x).cells):=idx_row (f:=encPd) hd rfl
  have hk:=skew_any s x x.node hp hs hl
  have ap:=ap_S (acc:=acc) x.name (by omega)
  have no:=fun(h:badP s x=false)=>ih (i+1) hnx acc (by omega) (ex++[(encPd x).cells])
  have yes:=ih (i+1) hnx (acc++[x.name]) (by simp;omega) (ex++[(encPd x).cells])
  by_cases h1:x.node=[]
  ·have e:badP s x=false:=by simp[badP,h1]
   rw[bad_no e]
   have n1:=no e
   exact let ζ1:List AV:=[.str x.name,.str x.owner,.int .i64 x.prio,.sl .sh (x.need.map encA),.sl .sh (x.labels.map encP),.sl .sh (x.sel.map encM),.sl .sh (x.tols.map encL),.str x.key,.int .i64 x.most,.str x.node,.bool x.hold];let ζ2:List AV:=[.sl .sh (s.nodes.map encN),.sl .sh (s.pods.map encPd),.sl .sh (s.buds.map encB)];let ζ3:List AV:=[.str [],.str [],.int .i64 0,.sl .full [],.sl .full [],.sl .full [],.sl .full [],.str [],.int .i64 0,.str [],.bool false];let ζ4:Heap:={boxes:=ζ2::(ex++[ζ1]),toks:=tkR .str acc,loops:=[]:Heap};gG 120 _ hT (.yes (dT ((↑i:Int)<(↑s.pods.length:Int)))<|.idx hxi<|.load (rfl:loadA true 11 {boxes:=ζ2::ex,toks:=tkR .str acc,loops:=[]:Heap} (.ref ζ1)=some (.agg ζ1))<|.store (show storeA 11 {boxes:=ζ2::(ex++[ζ3]),toks:=tkR .str acc,loops:=[]:Heap} (.ptr (ζ2::ex).length 0) (.agg ζ1)=some (ζ4)from store_box2 (cs:=ζ3) (cs':=ζ1) (by simp+zetaDelta) rfl (by simp+zetaDelta [List.set_append]))<|.load (show loadA false 1 ζ4 (.ptr (ζ2::ex).length 9)=some (.str x.node)from load_box (cs:=ζ1) (by simp+zetaDelta) rfl)<|.yes (show(x.node==[])=true from(by simpa using h1))<|.tt<|.bin (iI i)<|.cutQ k137_0 [(1,.ptr 0 0),(3,.sl (skF acc) (List.map .str acc)),(9,.sl .sh (s.pods.map encPd)),(10,.int .i64 (↑s.pods.length)),(11,.int .i64 (↑(i+1)))] (ζ4) (fun T hT=>(n1 T hT)))
  ·by_cases h2:x.key=[]
   ·have e:badP s x=false:=by simp[badP,h2]
    rw[bad_no e]
    have n1:=no e
    exact let ζ1:List AV:=[.str x.name,.str x.owner,.int .i64 x.prio,.sl .sh (x.need.map encA),.sl .sh (x.labels.map encP),.sl .sh (x.sel.map encM),.sl .sh (x.tols.map encL),.str x.key,.int .i64 x.most,.str x.node,.bool x.hold];let ζ2:List AV:=[.sl .sh (s.nodes.map encN),.sl .sh (s.pods.map encPd),.sl .sh (s.buds.map encB)];let ζ3:Heap:={boxes:=ζ2::(ex++[ζ1]),toks:=tkR .str acc,loops:=[]:Heap};let ζ4:List AV:=[.str [],.str [],.int .i64 0,.sl .full [],.sl .full [],.sl .full [],.sl .full [],.str [],.int .i64 0,.str [],.bool false];gG 120 _ hT (.yes (dT ((↑i:Int)<(↑s.pods.length:Int)))<|.idx hxi<|.load (rfl:loadA true 11 {boxes:=ζ2::ex,toks:=tkR .str acc,loops:=[]:Heap} (.ref ζ1)=some (.agg ζ1))<|.store (show storeA 11 {boxes:=ζ2::(ex++[ζ4]),toks:=tkR .str acc,loops:=[]:Heap} (.ptr (ζ2::ex).length 0) (.agg ζ1)=some (ζ3)from store_box2 (cs:=ζ4) (cs':=ζ1) (by simp+zetaDelta) rfl (by simp+zetaDelta [List.set_append]))<|.load (show loadA false 1 ζ3 (.ptr (ζ2::ex).length 9)=some (.str x.node)from load_box (cs:=ζ1) (by simp+zetaDelta) rfl)<|.no (show(x.node==[])=false from Bool.eq_false_iff.2 (by simpa using h1))<|.load (show loadA false 1 ζ3 (.ptr (ζ2::ex).length 7)=some (.str x.key)from load_box (cs:=ζ1) (by simp+zetaDelta) rfl)<|.yes (show(x.key==[])=true from(by simpa using h2))<|.bin (iI i)<|.cutQ k137_0 [(1,.ptr 0 0),(3,.sl (skF acc) (List.map .str acc)),(9,.sl .sh (s.pods.map encPd)),(10,.int .i64 (↑s.pods.length)),(11,.int .i64 (↑(i+1)))] (ζ3) (fun T hT=>(n1 T hT)))
   ·have e:badP s x=(!(skewS s x x.node).2||decide (x.most<(skewS s x x.node).1)):=by simp[badP,h1,h2]
    generalize skewS s x x.node=z at hk e
    obtain⟨k,ok⟩:=z
    simp only at hk e
    cases ok with
    |false=>
     have e':badP s x=true:=by rw[e];rfl
     rw[bad_yes e',show acc++x.name::badL s post=(acc++[x.name])++badL s post by simp]
     exact let ζ1:List AV:=[.str x.name,.str x.owner,.int .i64 x.prio,.sl .sh (x.need.map encA),.sl .sh (x.labels.map encP),.sl .sh (x.sel.map encM),.sl .sh (x.tols.map encL),.str x.key,.int .i64 x.most,.str x.node,.bool x.hold];let ζ2:List AV:=[.sl .sh (s.nodes.map encN),.sl .sh (s.pods.map encPd),.sl .sh (s.buds.map encB)];let ζ3:Heap:={boxes:=ζ2::(ex++[ζ1]),toks:=tkR .str acc,loops:=[]:Heap};let ζ4:List AV:=[.str [],.str [],.int .i64 0,.sl .full [],.sl .full [],.sl .full [],.sl .full [],.str [],.int .i64 0,.str [],.bool false];let ζ5:Heap:={boxes:=ζ2::(ex++[ζ1]),toks:=tkR .str (acc++[x.name]),loops:=[]:Heap};gG 160 _ hT (.yes (dT ((↑i:Int)<(↑s.pods.length:Int)))<|.idx hxi<|.load (rfl:loadA true 11 {boxes:=ζ2::ex,toks:=tkR .str acc,loops:=[]:Heap} (.ref ζ1)=some (.agg ζ1))<|.store (show storeA 11 {boxes:=ζ2::(ex++[ζ4]),toks:=tkR .str acc,loops:=[]:Heap} (.ptr (ζ2::ex).length 0) (.agg ζ1)=some (ζ3)from store_box2 (cs:=ζ4) (cs':=ζ1) (by simp+zetaDelta) rfl (by simp+zetaDelta [List.set_append]))<|.load (show loadA false 1 ζ3 (.ptr (ζ2::ex).length 9)=some (.str x.node)from load_box (cs:=ζ1) (by simp+zetaDelta) rfl)<|.no (show(x.node==[])=false from Bool.eq_false_iff.2 (by simpa using h1))<|.load (show loadA false 1 ζ3 (.ptr (ζ2::ex).length 7)=some (.str x.key)from load_box (cs:=ζ1) (by simp+zetaDelta) rfl)<|.no (show(x.key==[])=false from Bool.eq_false_iff.2 (by simpa using h2))<|.load (lB true 3 ζ3 0 0 (.agg ζ2) ζ2)<|.load (show loadA true 11 ζ3 (.ptr (ζ2::ex).length 0)=some (.agg ζ1)from load_box (cs:=ζ1) (by simp+zetaDelta) rfl)<|.load (show loadA false 1 ζ3 (.ptr (ζ2::ex).length 9)=some (.str x.node)from load_box (cs:=ζ1) (by simp+zetaDelta) rfl)<|.callK ([.agg ζ2,.agg ζ1,.str x.node]) (.tuple [.int .i64 k,.bool false]) hk<|.tt<|.tt<|.load (show loadA false 1 ζ3 (.ptr (ζ2::ex).length 0)=some (.str x.name)from load_box (cs:=ζ1) (by simp+zetaDelta) rfl)<|.append (show appendA 1 16 ζ3 (.sl (skF acc) (List.map .str acc)) (.sl .full [.str x.name])=some ((rowF .str (acc++[x.name]),ζ5))from ap _ _)<|.bin (iI i)<|.cutQ k137_0 [(1,.ptr 0 0),(3,.sl (skF (acc++[x.name])) (List.map .str (acc++[x.name]))),(9,.sl .sh (s.pods.map encPd)),(10,.int .i64 (↑s.pods.length)),(11,.int .i64 (↑(i+1)))] (ζ5) (fun T hT=>(yes T hT)))
    |true=>
     by_cases h3:x.most<k
     ·have e':badP s x=true:=by rw[e];simp[h3]
      rw[bad_yes e',show acc++x.name::badL s post=(acc++[x.name])++badL s post by simp]
      exact let ζ1:List AV:=[.str x.name,.str x.owner,.int .i64 x.prio,.sl .sh (x.need.map encA),.sl .sh (x.labels.map encP),.sl .sh (x.sel.map encM),.sl .sh (x.tols.map encL),.str x.key,.int .i64 x.most,.str x.node,.bool x.hold];let ζ2:List AV:=[.sl .sh (s.nodes.map encN),.sl .sh (s.pods.map encPd),.sl .sh (s.buds.map encB)];let ζ3:Heap:={boxes:=ζ2::(ex++[ζ1]),toks:=tkR .str acc,loops:=[]:Heap};let ζ4:List AV:=[.str [],.str [],.int .i64 0,.sl .full [],.sl .full [],.sl .full [],.sl .full [],.str [],.int .i64 0,.str [],.bool false];let ζ5:Heap:={boxes:=ζ2::(ex++[ζ1]),toks:=tkR .str (acc++[x.name]),loops:=[]:Heap};gG 160 _ hT (.yes (dT ((↑i:Int)<(↑s.pods.length:Int)))<|.idx hxi<|.load (rfl:loadA true 11 {boxes:=ζ2::ex,toks:=tkR .str acc,loops:=[]:Heap} (.ref ζ1)=some (.agg ζ1))<|.store (show storeA 11 {boxes:=ζ2::(ex++[ζ4]),toks:=tkR .str acc,loops:=[]:Heap} (.ptr (ζ2::ex).length 0) (.agg ζ1)=some (ζ3)from store_box2 (cs:=ζ4) (cs':=ζ1) (by simp+zetaDelta) rfl (by simp+zetaDelta [List.set_append]))<|.load (show loadA false 1 ζ3 (.ptr (ζ2::ex).length 9)=some (.str x.node)from load_box (cs:=ζ1) (by simp+zetaDelta) rfl)<|.no (show(x.node==[])=false from Bool.eq_false_iff.2 (by simpa using h1))<|.load (show loadA false 1 ζ3 (.ptr (ζ2::ex).length 7)=some (.str x.key)from load_box (cs:=ζ1) (by simp+zetaDelta) rfl)<|.no (show(x.key==[])=false from Bool.eq_false_iff.2 (by simpa using h2))<|.load (lB true 3 ζ3 0 0 (.agg ζ2) ζ2)<|.load (show loadA true 11 ζ3 (.ptr (ζ2::ex).length 0)=some (.agg ζ1)from load_box (cs:=ζ1) (by simp+zetaDelta) rfl)<|.load (show loadA false 1 ζ3 (.ptr (ζ2::ex).length 9)=some (.str x.node)from load_box (cs:=ζ1) (by simp+zetaDelta) rfl)<|.callK ([.agg ζ2,.agg ζ1,.str x.node]) (.tuple [.int .i64 k,.bool true]) hk<|.ff<|.load (show loadA false 1 ζ3 (.ptr (ζ2::ex).length 8)=some (.int .i64 x.most)from load_box (cs:=ζ1) (by simp+zetaDelta) rfl)<|.yes (dT (x.most<k))<|.load (show loadA false 1 ζ3 (.ptr (ζ2::ex).length 0)=some (.str x.name)from load_box (cs:=ζ1) (by simp+zetaDelta) rfl)<|.append (show appendA 1 16 ζ3 (.sl (skF acc) (List.map .str acc)) (.sl .full [.str x.name])=some ((rowF .str (acc++[x.name]),ζ5))from ap _ _)<|.bin (iI i)<|.cutQ k137_0 [(1,.ptr 0 0),(3,.sl (skF (acc++[x.name])) (List.map .str (acc++[x.name]))),(9,.sl .sh (s.pods.map encPd)),(10,.int .i64 (↑s.pods.length)),(11,.int .i64 (↑(i+1)))] (ζ5) (fun T hT=>(yes T hT)))
     ·have e':badP s x=false:=by rw[e];simp[h3]
      rw[bad_no e']
      have n1:=no e'
      exact let ζ1:List AV:=[.str x.name,.str x.owner,.int .i64 x.prio,.sl .sh (x.need.map encA),.sl .sh (x.labels.map encP),.sl .sh (x.sel.map encM),.sl .sh (x.tols.map encL),.str x.key,.int .i64 x.most,.str x.node,.bool x.hold];let ζ2:List AV:=[.sl .sh (s.nodes.map encN),.sl .sh (s.pods.map encPd),.sl .sh (s.buds.map encB)];let ζ3:Heap:={boxes:=ζ2::(ex++[ζ1]),toks:=tkR .str acc,loops:=[]:Heap};let ζ4:List AV:=[.str [],.str [],.int .i64 0,.sl .full [],.sl .full [],.sl .full [],.sl .full [],.str [],.int .i64 0,.str [],.bool false];gG 160 _ hT (.yes (dT ((↑i:Int)<(↑s.pods.length:Int)))<|.idx hxi<|.load (rfl:loadA true 11 {boxes:=ζ2::ex,toks:=tkR .str acc,loops:=[]:Heap} (.ref ζ1)=some (.agg ζ1))<|.store (show storeA 11 {boxes:=ζ2::(ex++[ζ4]),toks:=tkR .str acc,loops:=[]:Heap} (.ptr (ζ2::ex).length 0) (.agg ζ1)=some (ζ3)from store_box2 (cs:=ζ4) (cs':=ζ1) (by simp+zetaDelta) rfl (by simp+zetaDelta [List.set_append]))<|.load (show loadA false 1 ζ3 (.ptr (ζ2::ex).length 9)=some (.str x.node)from load_box (cs:=ζ1) (by simp+zetaDelta) rfl)<|.no (show(x.node==[])=false from Bool.eq_false_iff.2 (by simpa using h1))<|.load (show loadA false 1 ζ3 (.ptr (ζ2::ex).length 7)=some (.str x.key)from load_box (cs:=ζ1) (by simp+zetaDelta) rfl)<|.no (show(x.key==[])=false from Bool.eq_false_iff.2 (by simpa using h2))<|.load (lB true 3 ζ3 0 0 (.agg ζ2) ζ2)<|.load (show loadA true 11 ζ3 (.ptr (ζ2::ex).length 0)=some (.agg ζ1)from load_box (cs:=ζ1) (by simp+zetaDelta) rfl)<|.load (show loadA false 1 ζ3 (.ptr (ζ2::ex).length 9)=some (.str x.node)from load_box (cs:=ζ1) (by simp+zetaDelta) rfl)<|.callK ([.agg ζ2,.agg ζ1,.str x.node]) (.tuple [.int .i64 k,.bool true]) hk<|.ff<|.load (show loadA false 1 ζ3 (.ptr (ζ2::ex).length 8)=some (.int .i64 x.most)from load_box (cs:=ζ1) (by simp+zetaDelta) rfl)<|.no (dF (x.most<k))<|.bin (iI i)<|.cutQ k137_0 [(1,.ptr 0 0),(3,.sl (skF acc) (List.map .str acc)),(9,.sl .sh (s.pods.map encPd)),(10,.int .i64 (↑s.pods.length)),(11,.int .i64 (↑(i+1)))] (ζ3) (fun T hT=>(n1 T hT)))
theorem bad_any(s:St)(hp:s.pods.length≤1000)(hs:s.nodes.length≤1000)(hl:∀n∈s.nodes,n.labels.length<9223372036854775807):Gives cfg 137 [encSt s] (rowF .str (badS s)):=by
 refine Gives.run (l137 _ _) ?_
 have h:=bad_loop s hp hs hl s.pods 0 rfl [] (by simp) []
 have e:rowF AV.str ([]:List (List UInt8))=.sl .full []:=rfl
 rw[e,tk_nil,List.nil_append]at h
 rw[show badS s=badL s s.pods from rfl]
 exact gG 60 [] trivial (.len (lM .sh encPd s.pods)<|.cutQ k137_0 [(1,.ptr 0 0),(3,.sl .full []),(9,.sl .sh (s.pods.map encPd)),(10,.int .i64 (↑s.pods.length)),(11,.int .i64 0)] ({boxes:=[[.sl .sh (s.nodes.map encN),.sl .sh (s.pods.map encPd),.sl .sh (s.buds.map encB)]],toks:=[],loops:=[]:Heap}) (fun T hT=>(h T hT)))
end Go.Aa.T
set_option linter.unusedVariables false
set_option linter.unusedSimpArgs false
set_option maxRecDepth 100000
namespace Go.Aa.T
open Go.Aa Go.Proofs
theorem trunc_fn{B:List (List AV)}{nb k o:Nat}{g:FuncId}{cs:List AV}(hl:nb≤k):trunc nb 0 (.func g (.ptr k o::cs)) ⟨B,[],[]⟩=⟨B,[],[]⟩:=by
 unfold trunc
 have hw:within nb 0 (.func g (.ptr k o::cs))=false:=by
  have:¬k<nb:=by omega
  simp[within,in2,in1,in0,this]
 simp only[hw,List.length_nil,List.all_nil,Bool.true_and,Bool.and_false,Bool.false_and,Bool.false_eq_true,if_false,List.take_zero,ite_self]
theorem does_cl{B ex:List (List AV)}{tk:List Nat}{g:FuncId}{k o:Nat}{cs:List AV}{x:AV}{b:Bool}(h:lim cfg (.fn g) ([x]++(.ptr k o::cs)) ⟨B,tk,[]⟩=some (.ret (.bool b),⟨B++ex,tk,[]⟩))(hx:shutA x=x)(hB:B.all (·.all data0)=true):
 Does cfg (.call (.c (.func g (.ptr k o::cs))) [.c x]) ⟨B,tk,[]⟩ (.bool b) ⟨B,tk,[]⟩:=by
 have hd:=does_callE (xs:=[x]) (caps:=.ptr k o::cs) h (by show [shutA x]=[x];rw[hx]) (by show(([x].all isData)&&(Go.Aa.data0 (.ptr k o)&&cs.all data0))=false;rw[show Go.Aa.data0 (.ptr k o)=false from rfl,Bool.false_and,Bool.and_false])
 rw[show shutA (.bool b)=.bool b from rfl,show(⟨B,tk,[]⟩:Heap).boxes.length=B.length from rfl,show(⟨B,tk,[]⟩:Heap).toks.length=tk.length from rfl,trunc_plain hB]at hd
 exact hd
section
variable{H:Heap}{g:FuncId}{k:Nat}{p:Pod→Bool}
theorem idxPd_loop(hd:∀y:Pod,Does cfg (.call (.c (.func g [.ptr k 0])) [.c (encPd y)]) H (.bool (p y)) H)(l:List Pod)(hn:l.length<9223372036854775807):∀(post:List Pod)(i:Nat)(hdr:l.drop i=post)(T:Env)
 (hT:Has T [(0,.sl .sh (l.map encPd)),(1,.func g [.ptr k 0]),(7,.int .i64 l.length),(8,.int .i64 i)]),
 Goes cfg a217 k217_0 T H (fun r=>r=(.ret (.int .i64 (fidxB p post i)),H)):=by
 intro post
 induction post with
 |nil=>
  intro i hdr T hT
  have hge:=drop_ge hdr
  exact gG 60 _ hT (.no (dF ((↑i:Int)<(↑l.length:Int)))<|.fin ((.ret (.int .i64 (-1:Int)),H)) rfl)
 |cons x post ih=>
  intro i hdr T hT
  have hlt:=drop_lt hdr
  have hnx:=drop_next hdr
  have hdx:=hd x
  cases hp:p x with
  |true=>
   rw[hp]at hdx
   have e:fidxB p (x::post) i=i:=by simp[fidxB,hp]
   rw[e]
   exact let ζ1:List AV:=[.str x.name,.str x.owner,.int .i64 x.prio,.sl .sh (x.need.map encA),.sl .sh (x.labels.map encP),.sl .sh (x.sel.map encM),.sl .sh (x.tols.map encL),.str x.key,.int .i64 x.most,.str x.node,.bool x.hold];gG 60 _ hT (.yes (dT ((↑i:Int)<(↑l.length:Int)))<|.idx (iR 11 encPd hdr)<|.load (rfl:loadA true 11 H (.ref ζ1)=some (.agg ζ1))<|.effY hdx<|.tt<|.fin ((.ret (.int .i64 ↑i),H)) rfl)
  |false=>
   rw[hp]at hdx
   have e:fidxB p (x::post) i=fidxB p post (i+1):=by simp[fidxB,hp]
   rw[e]
   exact let ζ1:List AV:=[.str x.name,.str x.owner,.int .i64 x.prio,.sl .sh (x.need.map encA),.sl .sh (x.labels.map encP),.sl .sh (x.sel.map encM),.sl .sh (x.tols.map encL),.str x.key,.int .i64 x.most,.str x.node,.bool x.hold];gG 60 _ hT (.yes (dT ((↑i:Int)<(↑l.length:Int)))<|.idx (iR 11 encPd hdr)<|.load (rfl:loadA true 11 H (.ref ζ1)=some (.agg ζ1))<|.effY hdx<|.ff<|.bin (iI i)<|.cutQ k217_0 [(0,.sl .sh (l.map encPd)),(1,.func g [.ptr k 0]),(7,.int .i64 (↑l.length)),(8,.int .i64 (↑(i+1)))] (H) (fun T hT=>(ih (i+1) hnx T hT)))
theorem anyPd(hd:∀y:Pod,Does cfg (.call (.c (.func g [.ptr k 0])) [.c (encPd y)]) H (.bool (p y)) H)(l:List Pod)(hn:l.length<9223372036854775807):
 Does cfg (.call (.c (.func 141 [])) [.c (.sl .sh (l.map encPd)),.c (.func g [.ptr k 0])]) H (.bool (l.any p)) H:=by
 have hl:lim cfg (.fn 217) [.sl .sh (l.map encPd),.func g [.ptr k 0]] H=some (.ret (.int .i64 (fidxB p l 0)),H):=by
  rw[l217]
  have h:=idxPd_loop hd l hn l 0 rfl
  have key:Goes cfg a217 [.c c217] (initEnv [.sl .sh (l.map encPd),.func g [.ptr k 0]]) H (fun r=>r=(.ret (.int .i64 (fidxB p l 0)),H)):=by
   exact gG 60 [] trivial (.len (lM .sh encPd l)<|.cutQ k217_0 [(0,.sl .sh (l.map encPd)),(1,.func g [.ptr k 0]),(7,.int .i64 (↑l.length)),(8,.int .i64 0)] (H) (fun T hT=>(h T hT)))
  obtain⟨r,h,rfl⟩:=key
  exact h
 have h0:=does_callE (xs:=[.sl .sh (l.map encPd),.func g [.ptr k 0]]) (caps:=[]) hl rfl rfl
 rw[show shutA (.int .i64 (fidxB p l 0))=.int .i64 (fidxB p l 0)from rfl,trunc_self]at h0
 have hf:decide (0≤fidxB p l 0)=l.any p:=fidxB_ge p l 0
 have key:Goes cfg a141 [.c c141] (initEnv [.sl .sh (l.map encPd),.func g [.ptr k 0]]) H (fun r=>r=(.ret (.bool (l.any p)),H)):=by
  rw[←hf]
  generalize fidxB p l 0=c at h0
  exact gG 60 [] trivial (.effY h0<|.fin ((.ret (.bool (decide ((0:Int)≤c))),H)) rfl)
 obtain⟨r,h,rfl⟩:=key
 have h2:lim cfg (.fn 141) ([.sl .sh (l.map encPd),.func g [.ptr k 0]]++[]) H=some (.ret (.bool (l.any p)),H):=by
  rw[l141];exact h
 have h3:=does_callE (xs:=[.sl .sh (l.map encPd),.func g [.ptr k 0]]) (caps:=[]) h2 rfl rfl
 rwa [show shutA (.bool (l.any p))=.bool (l.any p)from rfl,trunc_self]at h3
end
section
variable{H:Heap}{g:FuncId}{k j:Nat}{p:Node→Bool}
theorem idxNd_loop(hd:∀y:Node,Does cfg (.call (.c (.func g [.ptr k 0,.ptr j 0])) [.c (encN y)]) H (.bool (p y)) H)(l:List Node)(hn:l.length<9223372036854775807):∀(post:List Node)(i:Nat)(hdr:l.drop i=post)(T:Env)
 (hT:Has T [(0,.sl .sh (l.map encN)),(1,.func g [.ptr k 0,.ptr j 0]),(7,.int .i64 l.length),(8,.int .i64 i)]),
 Goes cfg a218 k218_0 T H (fun r=>r=(.ret (.int .i64 (fidxB p post i)),H)):=by
 intro post
 induction post with
 |nil=>
  intro i hdr T hT
  have hge:=drop_ge hdr
  exact gG 60 _ hT (.no (dF ((↑i:Int)<(↑l.length:Int)))<|.fin ((.ret (.int .i64 (-1:Int)),H)) rfl)
 |cons x post ih=>
  intro i hdr T hT
  have hlt:=drop_lt hdr
  have hnx:=drop_next hdr
  have hdx:=hd x
  cases hp:p x with
  |true=>
   rw[hp]at hdx
   have e:fidxB p (x::post) i=i:=by simp[fidxB,hp]
   rw[e]
   exact let ζ1:List AV:=[.str x.name,.sl .sh (x.cap.map encA),.sl .sh (x.labels.map encP),.sl .sh (x.taints.map encT),.bool x.cordon];gG 60 _ hT (.yes (dT ((↑i:Int)<(↑l.length:Int)))<|.idx (iR 5 encN hdr)<|.load (rfl:loadA true 5 H (.ref ζ1)=some (.agg ζ1))<|.effY hdx<|.tt<|.fin ((.ret (.int .i64 ↑i),H)) rfl)
  |false=>
   rw[hp]at hdx
   have e:fidxB p (x::post) i=fidxB p post (i+1):=by simp[fidxB,hp]
   rw[e]
   exact let ζ1:List AV:=[.str x.name,.sl .sh (x.cap.map encA),.sl .sh (x.labels.map encP),.sl .sh (x.taints.map encT),.bool x.cordon];let ζ2:List AV:=[.ptr k 0,.ptr j 0];gG 60 _ hT (.yes (dT ((↑i:Int)<(↑l.length:Int)))<|.idx (iR 5 encN hdr)<|.load (rfl:loadA true 5 H (.ref ζ1)=some (.agg ζ1))<|.effY hdx<|.ff<|.bin (iI i)<|.cutQ k218_0 [(0,.sl .sh (l.map encN)),(1,.func g ζ2),(7,.int .i64 (↑l.length)),(8,.int .i64 (↑(i+1)))] (H) (fun T hT=>(ih (i+1) hnx T hT)))
theorem anyNd(hd:∀y:Node,Does cfg (.call (.c (.func g [.ptr k 0,.ptr j 0])) [.c (encN y)]) H (.bool (p y)) H)(l:List Node)(hn:l.length<9223372036854775807):
 Does cfg (.call (.c (.func 144 [])) [.c (.sl .sh (l.map encN)),.c (.func g [.ptr k 0,.ptr j 0])]) H (.bool (l.any p)) H:=by
 have hl:lim cfg (.fn 218) [.sl .sh (l.map encN),.func g [.ptr k 0,.ptr j 0]] H=some (.ret (.int .i64 (fidxB p l 0)),H):=by
  rw[l218]
  have h:=idxNd_loop hd l hn l 0 rfl
  have key:Goes cfg a218 [.c c218] (initEnv [.sl .sh (l.map encN),.func g [.ptr k 0,.ptr j 0]]) H (fun r=>r=(.ret (.int .i64 (fidxB p l 0)),H)):=by
   exact gG 60 [] trivial (.len (lM .sh encN l)<|.cutQ k218_0 [(0,.sl .sh (l.map encN)),(1,.func g [.ptr k 0,.ptr j 0]),(7,.int .i64 (↑l.length)),(8,.int .i64 0)] (H) (fun T hT=>(h T hT)))
  obtain⟨r,h,rfl⟩:=key
  exact h
 have h0:=does_callE (xs:=[.sl .sh (l.map encN),.func g [.ptr k 0,.ptr j 0]]) (caps:=[]) hl rfl rfl
 rw[show shutA (.int .i64 (fidxB p l 0))=.int .i64 (fidxB p l 0)from rfl,trunc_self]at h0
 have hf:decide (0≤fidxB p l 0)=l.any p:=fidxB_ge p l 0
 have key:Goes cfg a144 [.c c144] (initEnv [.sl .sh (l.map encN),.func g [.ptr k 0,.ptr j 0]]) H (fun r=>r=(.ret (.bool (l.any p)),H)):=by
  rw[←hf]
  generalize fidxB p l 0=c at h0
  exact gG 60 [] trivial (.effY h0<|.fin ((.ret (.bool (decide ((0:Int)≤c))),H)) rfl)
 obtain⟨r,h,rfl⟩:=key
 have h2:lim cfg (.fn 144) ([.sl .sh (l.map encN),.func g [.ptr k 0,.ptr j 0]]++[]) H=some (.ret (.bool (l.any p)),H):=by
  rw[l144];exact h
 have h3:=does_callE (xs:=[.sl .sh (l.map encN),.func g [.ptr k 0,.ptr j 0]]) (caps:=[]) h2 rfl rfl
 rwa [show shutA (.bool (l.any p))=.bool (l.any p)from rfl,trunc_self]at h3
end
def wtB(s:St)(p:Pod):Bool:=(worstB p.tols ((findG Node.name s.nodes p.node).getD noN).taints).isSome
def twP(p x:Pod):Bool:=x.owner==p.owner&&(!x.hold&&Op.bytesLess x.name p.name)
def twB(s:St)(p:Pod):Bool:= !(p.owner==[])&&(onS s p.node).any (twP p)
structure StB(s:St):Prop where
 ins:StIn s
 nodes:s.nodes.length≤500
 cap:∀n∈s.nodes,n.cap.length≤1000
 nd:∀n∈s.nodes,NdIn n
 pd:∀p∈s.pods,PdIn p
theorem hp4(s:St){lo hi:AV}(hl:Fl lo)(hh:Fl hi){ex:List (List AV)}(he:ex.all (·.all data0)=true):((encSt s).cells::[lo,hi]::ex).all (·.all data0)=true:=by
 rw[List.all_cons,List.all_cons,he,encSt_d]
 show(true&&((Go.Aa.data0 lo&&(Go.Aa.data0 hi&&true))&&true))=true
 rw[hl.d0,hh.d0];rfl
theorem hp2(s:St){lo hi:AV}(hl:Fl lo)(hh:Fl hi){ex:List (List AV)}(he:ex.all (·.all data0)=true):((encSt s).cells::[lo,hi]::(encSt s).cells::[lo,hi]::ex).all (·.all data0)=true:=
 hp4 s hl hh (hp4 s hl hh he)
theorem cl136(s:St)(h:StB s){lo hi:AV}(hl:Fl lo)(hh:Fl hi)(tk:List Nat)(ex:List (List AV))(he:ex.all (·.all data0)=true)(x:Pod)(hx:PdIn x):
 Does cfg (.call (.c (.func 136 [.ptr 2 0])) [.c (encPd x)]) ⟨(encSt s).cells::[lo,hi]::(encSt s).cells::[lo,hi]::ex,tk,[]⟩ (.bool (wtB s x)) ⟨(encSt s).cells::[lo,hi]::(encSt s).cells::[lo,hi]::ex,tk,[]⟩:=by
 have f:=findN_any s.nodes x.node h.ins.nodes
 cases hf:findG Node.name s.nodes x.node with
 |none=>
  rw[hf]at f
  have w:=worst_any x.tols noN.taints hx.tols (by simp[noN])
  have e:wtB s x=(worstB x.tols noN.taints).isSome:=by unfold wtB;rw[hf];rfl
  have key:Goes cfg a136 [.c c136] (initEnv [encPd x,.ptr 2 0]) ⟨(encSt s).cells::[lo,hi]::(encSt s).cells::[lo,hi]::ex,tk,[]⟩ (fun r=>r=(.ret (.bool (wtB s x)),⟨(encSt s).cells::[lo,hi]::(encSt s).cells::[lo,hi]::(ex++[(encPd x).cells,(encN noN).cells,(encT ((worstB x.tols noN.taints).getD noT)).cells]),tk,[]⟩)):=by
   rw[e]
   have w:Gives cfg 84 [.sl .sh (x.tols.map encL),.sl .sh []] (worstV (worstB x.tols noN.taints)):=w
   unfold worstV at w
   generalize worstB x.tols noN.taints=q at w⊢
   exact let ζ1:List AV:=[.str x.name,.str x.owner,.int .i64 x.prio,.sl .sh (x.need.map encA),.sl .sh (x.labels.map encP),.sl .sh (x.sel.map encM),.sl .sh (x.tols.map encL),.str x.key,.int .i64 x.most,.str x.node,.bool x.hold];let ζ2:List AV:=[.sl .sh (s.nodes.map encN),.sl .sh (s.pods.map encPd),.sl .sh (s.buds.map encB)];let ζ3:List AV:=[.str [],.sl .sh [],.sl .sh [],.sl .sh [],.bool false];let ζ4:List AV:=[.str (q.getD noT).key,.str (q.getD noT).val,.bool (q.getD noT).hard];let ζ5:Heap:={boxes:=ζ2::[lo,hi]::ζ2::[lo,hi]::(ex++[ζ1,ζ3]),toks:=tk,loops:=[]:Heap};let ζ6:Heap:={boxes:=ζ2::[lo,hi]::ζ2::[lo,hi]::(ex++[ζ1,ζ3,ζ4]),toks:=tk,loops:=[]:Heap};let ζ7:Heap:={boxes:=ζ2::[lo,hi]::ζ2::[lo,hi]::(ex++[ζ1]),toks:=tk,loops:=[]:Heap};let ζ8:List AV:=[.str [],.sl .full [],.sl .full [],.sl .full [],.bool false];let ζ9:List AV:=[.sl .sh (s.nodes.map encN),.str x.node];let ζ10:List AV:=[.sl .sh (x.tols.map encL),.sl .sh []];gG 120 [] trivial (.load (lB false 1 ζ7 2 0 (.sl .sh (s.nodes.map encN)) ζ2)<|.load (show loadA false 1 ζ7 (.ptr (ζ2::[lo,hi]::ζ2::[lo,hi]::ex).length 9)=some (.str x.node)from load_box (cs:=ζ1) (by simp+zetaDelta) rfl)<|.callK (ζ9) (.tuple [.agg ζ3,.bool false]) f<|.store (show storeA 5 {boxes:=ζ2::[lo,hi]::ζ2::[lo,hi]::(ex++[ζ1]++[ζ8]),toks:=tk,loops:=[]:Heap} (.ptr (ζ2::[lo,hi]::ζ2::[lo,hi]::(ex++[ζ1])).length 0) (.agg ζ3)=some (ζ5)from store_box2 (cs:=ζ8) (cs':=ζ3) (by simp+zetaDelta) rfl (by simp+zetaDelta [List.set_append]))<|.load (show loadA false 1 ζ5 (.ptr (ζ2::[lo,hi]::ζ2::[lo,hi]::ex).length 6)=some (.sl .sh (x.tols.map encL))from load_box (cs:=ζ1) (by simp+zetaDelta) rfl)<|.load (show loadA false 1 ζ5 (.ptr (ζ2::[lo,hi]::ζ2::[lo,hi]::(ex++[ζ1])).length 3)=some (.sl .sh [])from load_box (cs:=ζ3) (by simp+zetaDelta) rfl)<|.callK (ζ10) (.tuple [.agg ζ4,.bool q.isSome]) w<|.store (show storeA 3 {boxes:=ζ2::[lo,hi]::ζ2::[lo,hi]::(ex++[ζ1,ζ3]++[[AV.str [],.str [],.bool false]]),toks:=tk,loops:=[]:Heap} (.ptr (ζ2::[lo,hi]::ζ2::[lo,hi]::(ex++[ζ1,ζ3])).length 0) (.agg ζ4)=some (ζ6)from store_box2 (cs:=[.str [],.str [],.bool false]) (cs':=ζ4) (by simp+zetaDelta) rfl (by simp+zetaDelta [List.set_append]))<|.fin ((.ret (.bool q.isSome),ζ6)) rfl)
  obtain⟨r,h1,rfl⟩:=key
  exact does_cl (ex:=[(encPd x).cells,(encN noN).cells,(encT ((worstB x.tols noN.taints).getD noT)).cells]) (by rw[show [encPd x]++[AV.ptr 2 0]=[encPd x,.ptr 2 0]from rfl,l136,h1];simp) rfl (hp2 s hl hh he)
 |some n=>
  rw[hf]at f
  have w:=worst_any x.tols n.taints hx.tols (h.nd n (find_in hf)).taints
  have e:wtB s x=(worstB x.tols n.taints).isSome:=by unfold wtB;rw[hf];rfl
  have key:Goes cfg a136 [.c c136] (initEnv [encPd x,.ptr 2 0]) ⟨(encSt s).cells::[lo,hi]::(encSt s).cells::[lo,hi]::ex,tk,[]⟩ (fun r=>r=(.ret (.bool (wtB s x)),⟨(encSt s).cells::[lo,hi]::(encSt s).cells::[lo,hi]::(ex++[(encPd x).cells,(encN n).cells,(encT ((worstB x.tols n.taints).getD noT)).cells]),tk,[]⟩)):=by
   rw[e]
   unfold worstV at w
   generalize worstB x.tols n.taints=q at w⊢
   exact let ζ1:List AV:=[.str x.name,.str x.owner,.int .i64 x.prio,.sl .sh (x.need.map encA),.sl .sh (x.labels.map encP),.sl .sh (x.sel.map encM),.sl .sh (x.tols.map encL),.str x.key,.int .i64 x.most,.str x.node,.bool x.hold];let ζ2:List AV:=[.sl .sh (s.nodes.map encN),.sl .sh (s.pods.map encPd),.sl .sh (s.buds.map encB)];let ζ3:List AV:=[.str n.name,.sl .sh (n.cap.map encA),.sl .sh (n.labels.map encP),.sl .sh (n.taints.map encT),.bool n.cordon];let ζ4:List AV:=[.str (q.getD noT).key,.str (q.getD noT).val,.bool (q.getD noT).hard];let ζ5:Heap:={boxes:=ζ2::[lo,hi]::ζ2::[lo,hi]::(ex++[ζ1,ζ3]),toks:=tk,loops:=[]:Heap};let ζ6:Heap:={boxes:=ζ2::[lo,hi]::ζ2::[lo,hi]::(ex++[ζ1,ζ3,ζ4]),toks:=tk,loops:=[]:Heap};let ζ7:Heap:={boxes:=ζ2::[lo,hi]::ζ2::[lo,hi]::(ex++[ζ1]),toks:=tk,loops:=[]:Heap};let ζ8:List AV:=[.str [],.sl .full [],.sl .full [],.sl .full [],.bool false];let ζ9:List AV:=[.sl .sh (x.tols.map encL),.sl .sh (n.taints.map encT)];let ζ10:List AV:=[.sl .sh (s.nodes.map encN),.str x.node];gG 120 [] trivial (.load (lB false 1 ζ7 2 0 (.sl .sh (s.nodes.map encN)) ζ2)<|.load (show loadA false 1 ζ7 (.ptr (ζ2::[lo,hi]::ζ2::[lo,hi]::ex).length 9)=some (.str x.node)from load_box (cs:=ζ1) (by simp+zetaDelta) rfl)<|.callK (ζ10) (.tuple [.agg ζ3,.bool true]) f<|.store (show storeA 5 {boxes:=ζ2::[lo,hi]::ζ2::[lo,hi]::(ex++[ζ1]++[ζ8]),toks:=tk,loops:=[]:Heap} (.ptr (ζ2::[lo,hi]::ζ2::[lo,hi]::(ex++[ζ1])).length 0) (.agg ζ3)=some (ζ5)from store_box2 (cs:=ζ8) (cs':=ζ3) (by simp+zetaDelta) rfl (by simp+zetaDelta [List.set_append]))<|.load (show loadA false 1 ζ5 (.ptr (ζ2::[lo,hi]::ζ2::[lo,hi]::ex).length 6)=some (.sl .sh (x.tols.map encL))from load_box (cs:=ζ1) (by simp+zetaDelta) rfl)<|.load (show loadA false 1 ζ5 (.ptr (ζ2::[lo,hi]::ζ2::[lo,hi]::(ex++[ζ1])).length 3)=some (.sl .sh (n.taints.map encT))from load_box (cs:=ζ3) (by simp+zetaDelta) rfl)<|.callK (ζ9) (.tuple [.agg ζ4,.bool q.isSome]) w<|.store (show storeA 3 {boxes:=ζ2::[lo,hi]::ζ2::[lo,hi]::(ex++[ζ1,ζ3]++[[AV.str [],.str [],.bool false]]),toks:=tk,loops:=[]:Heap} (.ptr (ζ2::[lo,hi]::ζ2::[lo,hi]::(ex++[ζ1,ζ3])).length 0) (.agg ζ4)=some (ζ6)from store_box2 (cs:=[.str [],.str [],.bool false]) (cs':=ζ4) (by simp+zetaDelta) rfl (by simp+zetaDelta [List.set_append]))<|.fin ((.ret (.bool q.isSome),ζ6)) rfl)
  obtain⟨r,h1,rfl⟩:=key
  exact does_cl (ex:=[(encPd x).cells,(encN n).cells,(encT ((worstB x.tols n.taints).getD noT)).cells]) (by rw[show [encPd x]++[AV.ptr 2 0]=[encPd x,.ptr 2 0]from rfl,l136,h1];simp) rfl (hp2 s hl hh he)
theorem cl138(s:St)(h:StB s){lo hi:AV}(hl:Fl lo)(hh:Fl hi)(tk:List Nat)(l:List (List UInt8))(hn:l.length<9223372036854775807)(ex:List (List AV))(he:ex.all (·.all data0)=true)(x:Pod):
 Does cfg (.call (.c (.func 138 [.ptr 4 0])) [.c (encPd x)]) ⟨(encSt s).cells::[lo,hi]::(encSt s).cells::[lo,hi]::[.sl .sh (l.map .str)]::ex,tk,[]⟩ (.bool (nmB l x.name)) ⟨(encSt s).cells::[lo,hi]::(encSt s).cells::[lo,hi]::[.sl .sh (l.map .str)]::ex,tk,[]⟩:=by
 have c:=ctS_any l x.name hn
 have key:Goes cfg a138 [.c c138] (initEnv [encPd x,.ptr 4 0]) ⟨(encSt s).cells::[lo,hi]::(encSt s).cells::[lo,hi]::[.sl .sh (l.map .str)]::ex,tk,[]⟩ (fun r=>r=(.ret (.bool (nmB l x.name)),⟨(encSt s).cells::[lo,hi]::(encSt s).cells::[lo,hi]::[.sl .sh (l.map .str)]::(ex++[(encPd x).cells]),tk,[]⟩)):=by
  exact let ζ2:List AV:=[.sl .sh (s.nodes.map encN),.sl .sh (s.pods.map encPd),.sl .sh (s.buds.map encB)];let ζ1:Heap:={boxes:=ζ2::[lo,hi]::ζ2::[lo,hi]::[.sl .sh (List.map .str l)]::(ex++[[AV.str x.name,.str x.owner,.int .i64 x.prio,.sl .sh (x.need.map encA),.sl .sh (x.labels.map encP),.sl .sh (x.sel.map encM),.sl .sh (x.tols.map encL),.str x.key,.int .i64 x.most,.str x.node,.bool x.hold]]),toks:=tk,loops:=[]:Heap};let ζ3:List AV:=[.sl .sh (List.map .str l),.str x.name];gG 120 [] trivial (.load (lB false 1 ζ1 4 0 (.sl .sh (List.map .str l)) [.sl .sh (List.map .str l)])<|.load (show loadA false 1 ζ1 (.ptr (ζ2::[lo,hi]::ζ2::[lo,hi]::[.sl .sh (List.map .str l)]::ex).length 0)=some (.str x.name)from load_box (cs:=[.str x.name,.str x.owner,.int .i64 x.prio,.sl .sh (x.need.map encA),.sl .sh (x.labels.map encP),.sl .sh (x.sel.map encM),.sl .sh (x.tols.map encL),.str x.key,.int .i64 x.most,.str x.node,.bool x.hold]) (by simp+zetaDelta) rfl)<|.callK (ζ3) (.bool (nmB l x.name)) c<|.fin ((.ret (.bool (nmB l x.name)),ζ1)) rfl)
 obtain⟨r,h1,rfl⟩:=key
 exact does_cl (ex:=[(encPd x).cells]) (by rw[show [encPd x]++[AV.ptr 4 0]=[encPd x,.ptr 4 0]from rfl,l138,h1];simp) rfl (hp2 s hl hh (by rw[List.all_cons,he];rfl))
theorem cl142(s:St)(h:StB s){lo hi:AV}(hl:Fl lo)(hh:Fl hi)(tk:List Nat)(ex:List (List AV))(he:ex.all (·.all data0)=true)(p x:Pod):
 Does cfg (.call (.c (.func 142 [.ptr (ex.length+4) 0])) [.c (encPd x)]) ⟨(encSt s).cells::[lo,hi]::(encSt s).cells::[lo,hi]::(ex++[(encPd p).cells]),tk,[]⟩ (.bool (twP p x)) ⟨(encSt s).cells::[lo,hi]::(encSt s).cells::[lo,hi]::(ex++[(encPd p).cells]),tk,[]⟩:=by
 have key:Goes cfg a142 [.c c142] (initEnv [encPd x,.ptr (ex.length+4) 0]) ⟨(encSt s).cells::[lo,hi]::(encSt s).cells::[lo,hi]::(ex++[(encPd p).cells]),tk,[]⟩ (fun r=>r=(.ret (.bool (twP p x)),⟨(encSt s).cells::[lo,hi]::(encSt s).cells::[lo,hi]::(ex++[(encPd p).cells]++[(encPd x).cells]),tk,[]⟩)):=by
  by_cases h1:x.owner=p.owner
  ·cases h2:x.hold with
   |true=>
    have e:twP p x=false:=by simp[twP,h1,h2]
    rw[e]
    exact let ζ2:List AV:=[.str p.name,.str p.owner,.int .i64 p.prio,.sl .sh (p.need.map encA),.sl .sh (p.labels.map encP),.sl .sh (p.sel.map encM),.sl .sh (p.tols.map encL),.str p.key,.int .i64 p.most,.str p.node,.bool p.hold];let ζ3:List AV:=[.sl .sh (s.nodes.map encN),.sl .sh (s.pods.map encPd),.sl .sh (s.buds.map encB)];let ζ4:List AV:=[.str x.name,.str x.owner,.int .i64 x.prio,.sl .sh (x.need.map encA),.sl .sh (x.labels.map encP),.sl .sh (x.sel.map encM),.sl .sh (x.tols.map encL),.str x.key,.int .i64 x.most,.str x.node,.bool x.hold];let ζ1:Heap:={boxes:=ζ3::[lo,hi]::ζ3::[lo,hi]::(ex++[ζ2]++[ζ4]),toks:=tk,loops:=[]:Heap};gG 120 [] trivial (.load (show loadA false 1 ζ1 (.ptr (ζ3::[lo,hi]::ζ3::[lo,hi]::(ex++[ζ2])).length 1)=some (.str x.owner)from load_box (cs:=ζ4) (by simp+zetaDelta) rfl)<|.load (lB false 1 ζ1 (ex.length+4) 1 (.str p.owner) ζ2)<|.yes (show(x.owner==p.owner)=true from(by simpa using h1))<|.load (show loadA false 1 ζ1 (.ptr (ζ3::[lo,hi]::ζ3::[lo,hi]::(ex++[ζ2])).length 10)=some (.bool x.hold)from load_box (cs:=ζ4) (by simp+zetaDelta) rfl)<|.no (show(!x.hold)=false from by have hh:x.hold=true:=(by simp+zetaDelta [h2]);simp[hh])<|.fin ((.ret (.bool false),ζ1)) rfl)
   |false=>
    have e:twP p x=Op.bytesLess x.name p.name:=by simp[twP,h1,h2]
    rw[e]
    exact let ζ2:List AV:=[.str p.name,.str p.owner,.int .i64 p.prio,.sl .sh (p.need.map encA),.sl .sh (p.labels.map encP),.sl .sh (p.sel.map encM),.sl .sh (p.tols.map encL),.str p.key,.int .i64 p.most,.str p.node,.bool p.hold];let ζ3:List AV:=[.sl .sh (s.nodes.map encN),.sl .sh (s.pods.map encPd),.sl .sh (s.buds.map encB)];let ζ4:List AV:=[.str x.name,.str x.owner,.int .i64 x.prio,.sl .sh (x.need.map encA),.sl .sh (x.labels.map encP),.sl .sh (x.sel.map encM),.sl .sh (x.tols.map encL),.str x.key,.int .i64 x.most,.str x.node,.bool x.hold];let ζ1:Heap:={boxes:=ζ3::[lo,hi]::ζ3::[lo,hi]::(ex++[ζ2]++[ζ4]),toks:=tk,loops:=[]:Heap};gG 120 [] trivial (.load (show loadA false 1 ζ1 (.ptr (ζ3::[lo,hi]::ζ3::[lo,hi]::(ex++[ζ2])).length 1)=some (.str x.owner)from load_box (cs:=ζ4) (by simp+zetaDelta) rfl)<|.load (lB false 1 ζ1 (ex.length+4) 1 (.str p.owner) ζ2)<|.yes (show(x.owner==p.owner)=true from(by simpa using h1))<|.load (show loadA false 1 ζ1 (.ptr (ζ3::[lo,hi]::ζ3::[lo,hi]::(ex++[ζ2])).length 10)=some (.bool x.hold)from load_box (cs:=ζ4) (by simp+zetaDelta) rfl)<|.yes (show(!x.hold)=true from by have hh:¬(x.hold=true):=(by simp+zetaDelta [h2]);simp[hh])<|.load (show loadA false 1 ζ1 (.ptr (ζ3::[lo,hi]::ζ3::[lo,hi]::(ex++[ζ2])).length 0)=some (.str x.name)from load_box (cs:=ζ4) (by simp+zetaDelta) rfl)<|.load (lB false 1 ζ1 (ex.length+4) 0 (.str p.name) ζ2)<|.fin ((.ret (.bool (Op.bytesLess x.name p.name)),ζ1)) rfl)
  ·have e:twP p x=false:=by simp[twP,h1]
   rw[e]
   exact let ζ2:List AV:=[.str p.name,.str p.owner,.int .i64 p.prio,.sl .sh (p.need.map encA),.sl .sh (p.labels.map encP),.sl .sh (p.sel.map encM),.sl .sh (p.tols.map encL),.str p.key,.int .i64 p.most,.str p.node,.bool p.hold];let ζ3:List AV:=[.sl .sh (s.nodes.map encN),.sl .sh (s.pods.map encPd),.sl .sh (s.buds.map encB)];let ζ1:Heap:={boxes:=ζ3::[lo,hi]::ζ3::[lo,hi]::(ex++[ζ2]++[[AV.str x.name,.str x.owner,.int .i64 x.prio,.sl .sh (x.need.map encA),.sl .sh (x.labels.map encP),.sl .sh (x.sel.map encM),.sl .sh (x.tols.map encL),.str x.key,.int .i64 x.most,.str x.node,.bool x.hold]]),toks:=tk,loops:=[]:Heap};gG 120 [] trivial (.load (show loadA false 1 ζ1 (.ptr (ζ3::[lo,hi]::ζ3::[lo,hi]::(ex++[ζ2])).length 1)=some (.str x.owner)from load_box (cs:=[.str x.name,.str x.owner,.int .i64 x.prio,.sl .sh (x.need.map encA),.sl .sh (x.labels.map encP),.sl .sh (x.sel.map encM),.sl .sh (x.tols.map encL),.str x.key,.int .i64 x.most,.str x.node,.bool x.hold]) (by simp+zetaDelta) rfl)<|.load (lB false 1 ζ1 (ex.length+4) 1 (.str p.owner) ζ2)<|.no (show(x.owner==p.owner)=false from Bool.eq_false_iff.2 (by simpa using h1))<|.ff<|.fin ((.ret (.bool false),ζ1)) rfl)
 obtain⟨r,h1,rfl⟩:=key
 exact does_cl (ex:=[(encPd x).cells]) (by rw[show [encPd x]++[AV.ptr (ex.length+4) 0]=[encPd x,.ptr (ex.length+4) 0]from rfl,l142,h1];simp) rfl (hp2 s hl hh (by rw[List.all_append,he];rfl))
theorem cl140(s:St)(h:StB s){lo hi:AV}(hl:Fl lo)(hh:Fl hi)(tk:List Nat)(ex:List (List AV))(he:ex.all (·.all data0)=true)(x:Pod):
 Does cfg (.call (.c (.func 140 [.ptr 2 0])) [.c (encPd x)]) ⟨(encSt s).cells::[lo,hi]::(encSt s).cells::[lo,hi]::ex,tk,[]⟩ (.bool (twB s x)) ⟨(encSt s).cells::[lo,hi]::(encSt s).cells::[lo,hi]::ex,tk,[]⟩:=by
 have o:=on_any s x.node h.ins.pods
 have hlen:=on_len s x.node
 have hp:=h.ins.pods
 have a:=anyPd (fun y=>cl142 s h hl hh tk ex he x y) (onS s x.node) (by omega)
 have key:Goes cfg a140 [.c c140] (initEnv [encPd x,.ptr 2 0]) ⟨(encSt s).cells::[lo,hi]::(encSt s).cells::[lo,hi]::ex,tk,[]⟩ (fun r=>r=(.ret (.bool (twB s x)),⟨(encSt s).cells::[lo,hi]::(encSt s).cells::[lo,hi]::(ex++[(encPd x).cells]),tk,[]⟩)):=by
  by_cases h1:x.owner=[]
  ·have e:twB s x=false:=by simp[twB,h1]
   rw[e]
   exact let ζ2:List AV:=[.sl .sh (s.nodes.map encN),.sl .sh (s.pods.map encPd),.sl .sh (s.buds.map encB)];let ζ1:Heap:={boxes:=ζ2::[lo,hi]::ζ2::[lo,hi]::(ex++[[AV.str x.name,.str x.owner,.int .i64 x.prio,.sl .sh (x.need.map encA),.sl .sh (x.labels.map encP),.sl .sh (x.sel.map encM),.sl .sh (x.tols.map encL),.str x.key,.int .i64 x.most,.str x.node,.bool x.hold]]),toks:=tk,loops:=[]:Heap};gG 120 [] trivial (.load (show loadA false 1 ζ1 (.ptr (ζ2::[lo,hi]::ζ2::[lo,hi]::ex).length 1)=some (.str x.owner)from load_box (cs:=[.str x.name,.str x.owner,.int .i64 x.prio,.sl .sh (x.need.map encA),.sl .sh (x.labels.map encP),.sl .sh (x.sel.map encM),.sl .sh (x.tols.map encL),.str x.key,.int .i64 x.most,.str x.node,.bool x.hold]) (by simp+zetaDelta) rfl)<|.no (show(!x.owner==[])=false from by have hh:(x.owner==[])=true:=(by simpa using h1);simp[hh])<|.fin ((.ret (.bool false),ζ1)) rfl)
  ·have e:twB s x=(onS s x.node).any (twP x):=by simp[twB,h1]
   rw[e]
   generalize(onS s x.node).any (twP x)=b at a⊢
   generalize onS s x.node=l at a o
   exact let ζ2:List AV:=[.sl .sh (s.nodes.map encN),.sl .sh (s.pods.map encPd),.sl .sh (s.buds.map encB)];let ζ3:List AV:=[.str x.name,.str x.owner,.int .i64 x.prio,.sl .sh (x.need.map encA),.sl .sh (x.labels.map encP),.sl .sh (x.sel.map encM),.sl .sh (x.tols.map encL),.str x.key,.int .i64 x.most,.str x.node,.bool x.hold];let ζ1:Heap:={boxes:=ζ2::[lo,hi]::ζ2::[lo,hi]::(ex++[ζ3]),toks:=tk,loops:=[]:Heap};let ζ4:Heap:={boxes:=(encSt s).cells::[lo,hi]::(encSt s).cells::[lo,hi]::(ex++[(encPd x).cells]),toks:=tk,loops:=[]:Heap};gG 120 [] trivial (.load (show loadA false 1 ζ1 (.ptr (ζ2::[lo,hi]::ζ2::[lo,hi]::ex).length 1)=some (.str x.owner)from load_box (cs:=ζ3) (by simp+zetaDelta) rfl)<|.yes (show(!x.owner==[])=true from by have hh:¬((x.owner==[])=true):=(by simpa using h1);simp[hh])<|.load (lB true 3 ζ1 2 0 (.agg ζ2) ζ2)<|.load (show loadA false 1 ζ1 (.ptr (ζ2::[lo,hi]::ζ2::[lo,hi]::ex).length 9)=some (.str x.node)from load_box (cs:=ζ3) (by simp+zetaDelta) rfl)<|.callG ([.agg ζ2,.str x.node]) (.sl .sh (l.map encPd)) o ⟨rfl,rfl⟩ Res.p<|.effY a<|.fin ((.ret (.bool b),ζ1)) rfl)
 obtain⟨r,h1,rfl⟩:=key
 exact does_cl (ex:=[(encPd x).cells]) (by rw[show [encPd x]++[AV.ptr 2 0]=[encPd x,.ptr 2 0]from rfl,l140,h1];simp) rfl (hp2 s hl hh he)
theorem cl143(s:St)(h:StB s){lo hi:AV}(hl:Fl lo)(hh:Fl hi)(tk:List Nat)(ex:List (List AV))(he:ex.all (·.all data0)=true)(x:Pod):
 Does cfg (.call (.c (.func 143 [.ptr 2 0,.ptr 3 0])) [.c (encPd x)]) ⟨(encSt s).cells::[lo,hi]::(encSt s).cells::[lo,hi]::ex,tk,[]⟩ (.bool (lvN s x.node lo hi==2)) ⟨(encSt s).cells::[lo,hi]::(encSt s).cells::[lo,hi]::ex,tk,[]⟩:=by
 haveI:=hl.C
 haveI:=hh.C
 have f:=lv_any s h.ins h.cap x.node hl hh
 have key:Goes cfg a143 [.c c143] (initEnv [encPd x,.ptr 2 0,.ptr 3 0]) ⟨(encSt s).cells::[lo,hi]::(encSt s).cells::[lo,hi]::ex,tk,[]⟩ (fun r=>r=(.ret (.bool (lvN s x.node lo hi==2)),⟨(encSt s).cells::[lo,hi]::(encSt s).cells::[lo,hi]::(ex++[(encPd x).cells]),tk,[]⟩)):=by
  generalize lvN s x.node lo hi=c at f⊢
  exact let ζ2:List AV:=[.sl .sh (s.nodes.map encN),.sl .sh (s.pods.map encPd),.sl .sh (s.buds.map encB)];let ζ1:Heap:={boxes:=ζ2::[lo,hi]::ζ2::[lo,hi]::(ex++[[AV.str x.name,.str x.owner,.int .i64 x.prio,.sl .sh (x.need.map encA),.sl .sh (x.labels.map encP),.sl .sh (x.sel.map encM),.sl .sh (x.tols.map encL),.str x.key,.int .i64 x.most,.str x.node,.bool x.hold]]),toks:=tk,loops:=[]:Heap};gG 120 [] trivial (.load (lB true 3 ζ1 2 0 (.agg ζ2) ζ2)<|.load (show loadA false 1 ζ1 (.ptr (ζ2::[lo,hi]::ζ2::[lo,hi]::ex).length 9)=some (.str x.node)from load_box (cs:=[.str x.name,.str x.owner,.int .i64 x.prio,.sl .sh (x.need.map encA),.sl .sh (x.labels.map encP),.sl .sh (x.sel.map encM),.sl .sh (x.tols.map encL),.str x.key,.int .i64 x.most,.str x.node,.bool x.hold]) (by simp+zetaDelta) rfl)<|.load (lB true 2 ζ1 3 0 (.agg [lo,hi]) [lo,hi])<|.callG ([.agg ζ2,.str x.node,.agg [lo,hi]]) (.int .i64 c) f Shuts.p ⟨rfl,rfl⟩<|.fin ((.ret (.bool (c==(2:Int))),ζ1)) rfl)
 obtain⟨r,h1,rfl⟩:=key
 exact does_cl (ex:=[(encPd x).cells]) (by rw[show [encPd x]++[AV.ptr 2 0,.ptr 3 0]=[encPd x,.ptr 2 0,.ptr 3 0]from rfl,l143,h1];simp) rfl (hp2 s hl hh he)
theorem cl146(s:St)(h:StB s){lo hi:AV}(hl:Fl lo)(hh:Fl hi)(tk:List Nat)(m:Bool)(ex:List (List AV))(he:ex.all (·.all data0)=true)(x:Pod):
 Does cfg (.call (.c (.func 146 [.ptr 4 0,.ptr 2 0,.ptr 3 0])) [.c (encPd x)]) ⟨(encSt s).cells::[lo,hi]::(encSt s).cells::[lo,hi]::[.bool m]::ex,tk,[]⟩ (.bool (m&&(lvN s x.node lo hi==0))) ⟨(encSt s).cells::[lo,hi]::(encSt s).cells::[lo,hi]::[.bool m]::ex,tk,[]⟩:=by
 haveI:=hl.C
 haveI:=hh.C
 have f:=lv_any s h.ins h.cap x.node hl hh
 have key:Goes cfg a146 [.c c146] (initEnv [encPd x,.ptr 4 0,.ptr 2 0,.ptr 3 0]) ⟨(encSt s).cells::[lo,hi]::(encSt s).cells::[lo,hi]::[.bool m]::ex,tk,[]⟩ (fun r=>r=(.ret (.bool (m&&(lvN s x.node lo hi==0))),⟨(encSt s).cells::[lo,hi]::(encSt s).cells::[lo,hi]::[.bool m]::(ex++[(encPd x).cells]),tk,[]⟩)):=by
  generalize lvN s x.node lo hi=c at f⊢
  cases m with
  |true=>
   rw[Bool.true_and]
   exact let ζ2:List AV:=[.sl .sh (s.nodes.map encN),.sl .sh (s.pods.map encPd),.sl .sh (s.buds.map encB)];let ζ1:Heap:={boxes:=ζ2::[lo,hi]::ζ2::[lo,hi]::[.bool true]::(ex++[[AV.str x.name,.str x.owner,.int .i64 x.prio,.sl .sh (x.need.map encA),.sl .sh (x.labels.map encP),.sl .sh (x.sel.map encM),.sl .sh (x.tols.map encL),.str x.key,.int .i64 x.most,.str x.node,.bool x.hold]]),toks:=tk,loops:=[]:Heap};gG 120 [] trivial (.load (lB false 1 ζ1 4 0 (.bool true) [.bool true])<|.tt<|.load (lB true 3 ζ1 2 0 (.agg ζ2) ζ2)<|.load (show loadA false 1 ζ1 (.ptr (ζ2::[lo,hi]::ζ2::[lo,hi]::[.bool true]::ex).length 9)=some (.str x.node)from load_box (cs:=[.str x.name,.str x.owner,.int .i64 x.prio,.sl .sh (x.need.map encA),.sl .sh (x.labels.map encP),.sl .sh (x.sel.map encM),.sl .sh (x.tols.map encL),.str x.key,.int .i64 x.most,.str x.node,.bool x.hold]) (by simp+zetaDelta) rfl)<|.load (lB true 2 ζ1 3 0 (.agg [lo,hi]) [lo,hi])<|.callG ([.agg ζ2,.str x.node,.agg [lo,hi]]) (.int .i64 c) f Shuts.p ⟨rfl,rfl⟩<|.fin ((.ret (.bool (c==(0:Int))),ζ1)) rfl)
  |false=>
   rw[Bool.false_and]
   exact let ζ1:Heap:={boxes:=[.sl .sh (s.nodes.map encN),.sl .sh (s.pods.map encPd),.sl .sh (s.buds.map encB)]::[lo,hi]::[.sl .sh (s.nodes.map encN),.sl .sh (s.pods.map encPd),.sl .sh (s.buds.map encB)]::[lo,hi]::[.bool false]::(ex++[[AV.str x.name,.str x.owner,.int .i64 x.prio,.sl .sh (x.need.map encA),.sl .sh (x.labels.map encP),.sl .sh (x.sel.map encM),.sl .sh (x.tols.map encL),.str x.key,.int .i64 x.most,.str x.node,.bool x.hold]]),toks:=tk,loops:=[]:Heap};gG 120 [] trivial (.load (lB false 1 ζ1 4 0 (.bool false) [.bool false])<|.ff<|.fin ((.ret (.bool false),ζ1)) rfl)
 obtain⟨r,h1,rfl⟩:=key
 exact does_cl (ex:=[(encPd x).cells]) (by rw[show [encPd x]++[AV.ptr 4 0,.ptr 2 0,.ptr 3 0]=[encPd x,.ptr 4 0,.ptr 2 0,.ptr 3 0]from rfl,l146,h1];simp) rfl (hp2 s hl hh (by rw[List.all_cons,he];rfl))
def mrP(s:St)(lo hi:AV)(n:Node):Bool:= !n.cordon&& !(lvN s n.name lo hi==0)
theorem cl145(s:St)(h:StB s){lo hi:AV}(hl:Fl lo)(hh:Fl hi)(tk:List Nat)(x:Node):
 Does cfg (.call (.c (.func 145 [.ptr 0 0,.ptr 1 0])) [.c (encN x)]) ⟨[(encSt s).cells,[lo,hi]],[],[]⟩ (.bool (mrP s lo hi x)) ⟨[(encSt s).cells,[lo,hi]],[],[]⟩:=by
 haveI:=hl.C
 haveI:=hh.C
 have f:=lv_any s h.ins h.cap x.name hl hh
 have key:Goes cfg a145 [.c c145] (initEnv [encN x,.ptr 0 0,.ptr 1 0]) ⟨[(encSt s).cells,[lo,hi]],[],[]⟩ (fun r=>r=(.ret (.bool (mrP s lo hi x)),⟨[(encSt s).cells,[lo,hi],(encN x).cells],[],[]⟩)):=by
  unfold mrP
  generalize lvN s x.name lo hi=c at f⊢
  cases h1:x.cordon with
  |true=>
   rw[Bool.not_true,Bool.false_and]
   exact gG 120 [] trivial (.no (show(!x.cordon)=false from by have hh:x.cordon=true:=(by simp[h1]);simp[hh])<|.fin ((.ret (.bool false),{boxes:=[[.sl .sh (s.nodes.map encN),.sl .sh (s.pods.map encPd),.sl .sh (s.buds.map encB)],[lo,hi],[.str x.name,.sl .sh (x.cap.map encA),.sl .sh (x.labels.map encP),.sl .sh (x.taints.map encT),.bool x.cordon]],toks:=[],loops:=[]:Heap})) rfl)
  |false=>
   rw[Bool.not_false,Bool.true_and]
   exact let ζ1:List AV:=[.sl .sh (s.nodes.map encN),.sl .sh (s.pods.map encPd),.sl .sh (s.buds.map encB)];gG 120 [] trivial (.yes (show(!x.cordon)=true from by have hh:¬(x.cordon=true):=(by simp+zetaDelta [h1]);simp[hh])<|.callG ([.agg ζ1,.str x.name,.agg [lo,hi]]) (.int .i64 c) f Shuts.p ⟨rfl,rfl⟩<|.fin ((.ret (.bool (c !=(0:Int))),{boxes:=[ζ1,[lo,hi],[.str x.name,.sl .sh (x.cap.map encA),.sl .sh (x.labels.map encP),.sl .sh (x.taints.map encT),.bool x.cordon]],toks:=[],loops:=[]:Heap})) rfl)
 obtain⟨r,h1,rfl⟩:=key
 exact does_cl (B:=[(encSt s).cells,[lo,hi]]) (ex:=[(encN x).cells]) (by rw[show [encN x]++[AV.ptr 0 0,.ptr 1 0]=[encN x,.ptr 0 0,.ptr 1 0]from rfl,l145,h1];simp) rfl (hp4 s hl hh rfl)
theorem cl145b(s:St)(h:StB s){lo hi:AV}(hl:Fl lo)(hh:Fl hi)(tk:List Nat)(x:Node):
 Does cfg (.call (.c (.func 145 [.ptr 2 0,.ptr 3 0])) [.c (encN x)]) ⟨[(encSt s).cells,[lo,hi],(encSt s).cells,[lo,hi]],[],[]⟩ (.bool (mrP s lo hi x)) ⟨[(encSt s).cells,[lo,hi],(encSt s).cells,[lo,hi]],[],[]⟩:=by
 haveI:=hl.C
 haveI:=hh.C
 have f:=lv_any s h.ins h.cap x.name hl hh
 have key:Goes cfg a145 [.c c145] (initEnv [encN x,.ptr 2 0,.ptr 3 0]) ⟨[(encSt s).cells,[lo,hi],(encSt s).cells,[lo,hi]],[],[]⟩ (fun r=>r=(.ret (.bool (mrP s lo hi x)),⟨[(encSt s).cells,[lo,hi],(encSt s).cells,[lo,hi],(encN x).cells],[],[]⟩)):=by
  unfold mrP
  generalize lvN s x.name lo hi=c at f⊢
  cases h1:x.cordon with
  |true=>
   rw[Bool.not_true,Bool.false_and]
   exact let ζ1:List AV:=[.sl .sh (s.nodes.map encN),.sl .sh (s.pods.map encPd),.sl .sh (s.buds.map encB)];gG 120 [] trivial (.no (show(!x.cordon)=false from by have hh:x.cordon=true:=(by simp+zetaDelta [h1]);simp[hh])<|.fin ((.ret (.bool false),{boxes:=[ζ1,[lo,hi],ζ1,[lo,hi],[.str x.name,.sl .sh (x.cap.map encA),.sl .sh (x.labels.map encP),.sl .sh (x.taints.map encT),.bool x.cordon]],toks:=[],loops:=[]:Heap})) rfl)
  |false=>
   rw[Bool.not_false,Bool.true_and]
   exact let ζ1:List AV:=[.sl .sh (s.nodes.map encN),.sl .sh (s.pods.map encPd),.sl .sh (s.buds.map encB)];gG 120 [] trivial (.yes (show(!x.cordon)=true from by have hh:¬(x.cordon=true):=(by simp+zetaDelta [h1]);simp[hh])<|.callG ([.agg ζ1,.str x.name,.agg [lo,hi]]) (.int .i64 c) f Shuts.p ⟨rfl,rfl⟩<|.fin ((.ret (.bool (c !=(0:Int))),{boxes:=[ζ1,[lo,hi],ζ1,[lo,hi],[.str x.name,.sl .sh (x.cap.map encA),.sl .sh (x.labels.map encP),.sl .sh (x.taints.map encT),.bool x.cordon]],toks:=[],loops:=[]:Heap})) rfl)
 obtain⟨r,h1,rfl⟩:=key
 exact does_cl (B:=[(encSt s).cells,[lo,hi],(encSt s).cells,[lo,hi]]) (ex:=[(encN x).cells]) (by rw[show [encN x]++[AV.ptr 2 0,.ptr 3 0]=[encN x,.ptr 2 0,.ptr 3 0]from rfl,l145,h1];simp) rfl (hp2 s hl hh rfl)
end Go.Aa.T
set_option linter.unusedVariables false
set_option linter.unusedSimpArgs false
set_option maxRecDepth 100000
namespace Go.Aa.T
open Go.Aa Go.Proofs
def isB(s:St)(lo hi:AV)(why:Int)(p:Pod):Bool:=
 if why=1 then wtB s p else if why=2 then nmB (badS s) p.name else if why=3 then twB s p else if why=4 then lvN s p.node lo hi==2
 else if why=5 then s.nodes.any (mrP s lo hi)&&lvN s p.node lo hi==0 else false
def foundB(s:St)(lo hi:AV)(why:Int)(p:Pod):Bool:= !(p.node==[])&&(!p.hold&&isB s lo hi why p)
def oneL(s:St)(lo hi:AV)(why:Int)(l:List Pod):List (List UInt8):=(l.filter (foundB s lo hi why)).map Pod.name
def oneS(s:St)(lo hi:AV)(why:Int):List (List UInt8):=oneL s lo hi why s.pods
theorem one_yes{s:St}{lo hi:AV}{why:Int}{p:Pod}{l:List Pod}(h:foundB s lo hi why p=true):oneL s lo hi why (p::l)=p.name::oneL s lo hi why l:=by simp[oneL,List.filter_cons,h]
theorem one_no{s:St}{lo hi:AV}{why:Int}{p:Pod}{l:List Pod}(h:foundB s lo hi why p=false):oneL s lo hi why (p::l)=oneL s lo hi why l:=by simp[oneL,List.filter_cons,h]
theorem oneS_len(s:St)(lo hi:AV)(why:Int):(oneS s lo hi why).length≤s.pods.length:=by
 unfold oneS oneL
 rw[List.length_map];exact List.length_filter_le _ _
theorem bad_call{s:St}{lo hi:AV}{why:Int}{g:FuncId}{k1 k2 o1 o2:Nat}{c1 c2:List AV}{B1 B2:List (List AV)}(hl:Fl lo)(hh:Fl hi)(h0:lim cfg (.fn 70) [encSt s,.int .i64 why,.agg [lo,hi]] Heap.nil=some (.ret (.func g (.ptr k1 o1::c1)),⟨B1,[],[]⟩))
 (h1:lim cfg (.fn 70) [encSt s,.int .i64 why,.agg [lo,hi]] ⟨[(encSt s).cells,[lo,hi]],[],[]⟩=some (.ret (.func g (.ptr k2 o2::c2)),⟨B2,[],[]⟩))(hk:2≤k2):
 Does cfg (.call (.c (.func 70 [])) [.c (encSt s),.c (.int .i64 why),.c (.agg [lo,hi])]) ⟨[(encSt s).cells,[lo,hi]],[],[]⟩ (.func g (.ptr k2 o2::c2)) ⟨B2,[],[]⟩:=by
 have hd:=_root_.Go.Aa.does_callN (cfg:=cfg) (xs:=[encSt s,.int .i64 why,.agg [lo,hi]]) h0 (by rfl) h1 (by
  show [encSt s,.int .i64 why,.agg [Go.Aa.shut1 lo,Go.Aa.shut1 hi]]=_
  rw[hl.sh1,hh.sh1]) (by
  show(true&&(true&&((Go.Aa.data0 lo&&(Go.Aa.data0 hi&&true))&&true)))=true
  rw[hl.d0,hh.d0];rfl)
 rw[show shutA (.func g (.ptr k2 o2::c2))=.func g (.ptr k2 o2::c2)from rfl]at hd
 rw[show(⟨[(encSt s).cells,[lo,hi]],[],[]⟩:Heap).boxes.length=2 from rfl,show(⟨[(encSt s).cells,[lo,hi]],[],[]⟩:Heap).toks.length=0 from rfl,trunc_fn hk]at hd
 exact hd
theorem bad_1(s:St){lo hi:AV}(hl:Fl lo)(hh:Fl hi):Does cfg (.call (.c (.func 70 [])) [.c (encSt s),.c (.int .i64 1),.c (.agg [lo,hi])]) ⟨[(encSt s).cells,[lo,hi]],[],[]⟩ (.func 136 [.ptr 2 0]) ⟨[(encSt s).cells,[lo,hi],(encSt s).cells,[lo,hi]],[],[]⟩:=by
 have k0:Goes cfg a70 [.c c70] (initEnv [encSt s,.int .i64 1,.agg [lo,hi]]) Heap.nil (fun r=>r=(.ret (.func 136 [.ptr 0 0]),⟨[(encSt s).cells,[lo,hi]],[],[]⟩)):=by
  exact gG 120 [] trivial (.tt<|.fin ((.ret (.func 136 [.ptr 0 0]),{boxes:=[[.sl .sh (s.nodes.map encN),.sl .sh (s.pods.map encPd),.sl .sh (s.buds.map encB)],[lo,hi]],toks:=[],loops:=[]:Heap})) rfl)
 have k1:Goes cfg a70 [.c c70] (initEnv [encSt s,.int .i64 1,.agg [lo,hi]]) ⟨[(encSt s).cells,[lo,hi]],[],[]⟩ (fun r=>r=(.ret (.func 136 [.ptr 2 0]),⟨[(encSt s).cells,[lo,hi],(encSt s).cells,[lo,hi]],[],[]⟩)):=by
  exact let ζ1:List AV:=[.sl .sh (s.nodes.map encN),.sl .sh (s.pods.map encPd),.sl .sh (s.buds.map encB)];gG 120 [] trivial (.tt<|.fin ((.ret (.func 136 [.ptr 2 0]),{boxes:=[ζ1,[lo,hi],ζ1,[lo,hi]],toks:=[],loops:=[]:Heap})) rfl)
 obtain⟨_,h0,rfl⟩:=k0
 obtain⟨_,h1,rfl⟩:=k1
 exact bad_call hl hh (by rw[l70];exact h0) (by rw[l70];exact h1) (by omega)
theorem bad_2(s:St){lo hi:AV}(hl:Fl lo)(hh:Fl hi)(hb:Gives cfg 137 [encSt s] (rowF .str (badS s))):Does cfg (.call (.c (.func 70 [])) [.c (encSt s),.c (.int .i64 2),.c (.agg [lo,hi])]) ⟨[(encSt s).cells,[lo,hi]],[],[]⟩ (.func 138 [.ptr 4 0]) ⟨[(encSt s).cells,[lo,hi],(encSt s).cells,[lo,hi],[.sl .sh ((badS s).map .str)]],[],[]⟩:=by
 generalize badS s=l at hb⊢
 have k0:Goes cfg a70 [.c c70] (initEnv [encSt s,.int .i64 2,.agg [lo,hi]]) Heap.nil (fun r=>r=(.ret (.func 138 [.ptr 2 0]),⟨[(encSt s).cells,[lo,hi],[.sl .sh (l.map .str)]],[],[]⟩)):=by
  exact let ζ1:List AV:=[.sl .sh (s.nodes.map encN),.sl .sh (s.pods.map encPd),.sl .sh (s.buds.map encB)];gG 120 [] trivial (.ff<|.tt<|.callG ([.agg ζ1]) (.sl .sh (List.map .str l)) hb ⟨rfl,rfl⟩ Res.p<|.fin ((.ret (.func 138 [.ptr 2 0]),{boxes:=[ζ1,[lo,hi],[.sl .sh (List.map .str l)]],toks:=[],loops:=[]:Heap})) rfl)
 have k1:Goes cfg a70 [.c c70] (initEnv [encSt s,.int .i64 2,.agg [lo,hi]]) ⟨[(encSt s).cells,[lo,hi]],[],[]⟩ (fun r=>r=(.ret (.func 138 [.ptr 4 0]),⟨[(encSt s).cells,[lo,hi],(encSt s).cells,[lo,hi],[.sl .sh (l.map .str)]],[],[]⟩)):=by
  exact let ζ1:List AV:=[.sl .sh (s.nodes.map encN),.sl .sh (s.pods.map encPd),.sl .sh (s.buds.map encB)];gG 120 [] trivial (.ff<|.tt<|.callG ([.agg ζ1]) (.sl .sh (List.map .str l)) hb ⟨rfl,rfl⟩ Res.p<|.fin ((.ret (.func 138 [.ptr 4 0]),{boxes:=[ζ1,[lo,hi],ζ1,[lo,hi],[.sl .sh (List.map .str l)]],toks:=[],loops:=[]:Heap})) rfl)
 obtain⟨_,h0,rfl⟩:=k0
 obtain⟨_,h1,rfl⟩:=k1
 exact bad_call hl hh (by rw[l70];exact h0) (by rw[l70];exact h1) (by omega)
theorem bad_3(s:St){lo hi:AV}(hl:Fl lo)(hh:Fl hi):Does cfg (.call (.c (.func 70 [])) [.c (encSt s),.c (.int .i64 3),.c (.agg [lo,hi])]) ⟨[(encSt s).cells,[lo,hi]],[],[]⟩ (.func 140 [.ptr 2 0]) ⟨[(encSt s).cells,[lo,hi],(encSt s).cells,[lo,hi]],[],[]⟩:=by
 have k0:Goes cfg a70 [.c c70] (initEnv [encSt s,.int .i64 3,.agg [lo,hi]]) Heap.nil (fun r=>r=(.ret (.func 140 [.ptr 0 0]),⟨[(encSt s).cells,[lo,hi]],[],[]⟩)):=by
  exact gG 120 [] trivial (.ff<|.ff<|.tt<|.fin ((.ret (.func 140 [.ptr 0 0]),{boxes:=[[.sl .sh (s.nodes.map encN),.sl .sh (s.pods.map encPd),.sl .sh (s.buds.map encB)],[lo,hi]],toks:=[],loops:=[]:Heap})) rfl)
 have k1:Goes cfg a70 [.c c70] (initEnv [encSt s,.int .i64 3,.agg [lo,hi]]) ⟨[(encSt s).cells,[lo,hi]],[],[]⟩ (fun r=>r=(.ret (.func 140 [.ptr 2 0]),⟨[(encSt s).cells,[lo,hi],(encSt s).cells,[lo,hi]],[],[]⟩)):=by
  exact let ζ1:List AV:=[.sl .sh (s.nodes.map encN),.sl .sh (s.pods.map encPd),.sl .sh (s.buds.map encB)];gG 120 [] trivial (.ff<|.ff<|.tt<|.fin ((.ret (.func 140 [.ptr 2 0]),{boxes:=[ζ1,[lo,hi],ζ1,[lo,hi]],toks:=[],loops:=[]:Heap})) rfl)
 obtain⟨_,h0,rfl⟩:=k0
 obtain⟨_,h1,rfl⟩:=k1
 exact bad_call hl hh (by rw[l70];exact h0) (by rw[l70];exact h1) (by omega)
theorem bad_4(s:St){lo hi:AV}(hl:Fl lo)(hh:Fl hi):Does cfg (.call (.c (.func 70 [])) [.c (encSt s),.c (.int .i64 4),.c (.agg [lo,hi])]) ⟨[(encSt s).cells,[lo,hi]],[],[]⟩ (.func 143 [.ptr 2 0,.ptr 3 0]) ⟨[(encSt s).cells,[lo,hi],(encSt s).cells,[lo,hi]],[],[]⟩:=by
 have k0:Goes cfg a70 [.c c70] (initEnv [encSt s,.int .i64 4,.agg [lo,hi]]) Heap.nil (fun r=>r=(.ret (.func 143 [.ptr 0 0,.ptr 1 0]),⟨[(encSt s).cells,[lo,hi]],[],[]⟩)):=by
  exact gG 120 [] trivial (.ff<|.ff<|.ff<|.tt<|.fin ((.ret (.func 143 [.ptr 0 0,.ptr 1 0]),{boxes:=[[.sl .sh (s.nodes.map encN),.sl .sh (s.pods.map encPd),.sl .sh (s.buds.map encB)],[lo,hi]],toks:=[],loops:=[]:Heap})) rfl)
 have k1:Goes cfg a70 [.c c70] (initEnv [encSt s,.int .i64 4,.agg [lo,hi]]) ⟨[(encSt s).cells,[lo,hi]],[],[]⟩ (fun r=>r=(.ret (.func 143 [.ptr 2 0,.ptr 3 0]),⟨[(encSt s).cells,[lo,hi],(encSt s).cells,[lo,hi]],[],[]⟩)):=by
  exact let ζ1:List AV:=[.sl .sh (s.nodes.map encN),.sl .sh (s.pods.map encPd),.sl .sh (s.buds.map encB)];gG 120 [] trivial (.ff<|.ff<|.ff<|.tt<|.fin ((.ret (.func 143 [.ptr 2 0,.ptr 3 0]),{boxes:=[ζ1,[lo,hi],ζ1,[lo,hi]],toks:=[],loops:=[]:Heap})) rfl)
 obtain⟨_,h0,rfl⟩:=k0
 obtain⟨_,h1,rfl⟩:=k1
 exact bad_call hl hh (by rw[l70];exact h0) (by rw[l70];exact h1) (by omega)
theorem bad_5(s:St)(h:StB s){lo hi:AV}(hl:Fl lo)(hh:Fl hi):Does cfg (.call (.c (.func 70 [])) [.c (encSt s),.c (.int .i64 5),.c (.agg [lo,hi])]) ⟨[(encSt s).cells,[lo,hi]],[],[]⟩ (.func 146 [.ptr 4 0,.ptr 2 0,.ptr 3 0]) ⟨[(encSt s).cells,[lo,hi],(encSt s).cells,[lo,hi],[.bool (s.nodes.any (mrP s lo hi))]],[],[]⟩:=by
 have d0:=anyNd (fun y=>cl145 s h hl hh [] y) s.nodes h.ins.nodes
 have d1:=anyNd (fun y=>cl145b s h hl hh [] y) s.nodes h.ins.nodes
 generalize s.nodes.any (mrP s lo hi)=m at d0 d1⊢
 have k0:Goes cfg a70 [.c c70] (initEnv [encSt s,.int .i64 5,.agg [lo,hi]]) Heap.nil (fun r=>r=(.ret (.func 146 [.ptr 2 0,.ptr 0 0,.ptr 1 0]),⟨[(encSt s).cells,[lo,hi],[.bool m]],[],[]⟩)):=by
  exact let ζ1:Heap:={boxes:=[(encSt s).cells,[lo,hi]],toks:=[],loops:=[]:Heap};gG 120 [] trivial (.ff<|.ff<|.ff<|.ff<|.tt<|.effY d0<|.fin ((.ret (.func 146 [.ptr 2 0,.ptr 0 0,.ptr 1 0]),{boxes:=[[.sl .sh (s.nodes.map encN),.sl .sh (s.pods.map encPd),.sl .sh (s.buds.map encB)],[lo,hi],[.bool m]],toks:=[],loops:=[]:Heap})) rfl)
 have k1:Goes cfg a70 [.c c70] (initEnv [encSt s,.int .i64 5,.agg [lo,hi]]) ⟨[(encSt s).cells,[lo,hi]],[],[]⟩ (fun r=>r=(.ret (.func 146 [.ptr 4 0,.ptr 2 0,.ptr 3 0]),⟨[(encSt s).cells,[lo,hi],(encSt s).cells,[lo,hi],[.bool m]],[],[]⟩)):=by
  exact let ζ1:List AV:=[.sl .sh (s.nodes.map encN),.sl .sh (s.pods.map encPd),.sl .sh (s.buds.map encB)];let ζ2:Heap:={boxes:=[(encSt s).cells,[lo,hi],(encSt s).cells,[lo,hi]],toks:=[],loops:=[]:Heap};gG 120 [] trivial (.ff<|.ff<|.ff<|.ff<|.tt<|.effY d1<|.fin ((.ret (.func 146 [.ptr 4 0,.ptr 2 0,.ptr 3 0]),{boxes:=[ζ1,[lo,hi],ζ1,[lo,hi],[.bool m]],toks:=[],loops:=[]:Heap})) rfl)
 obtain⟨_,h0,rfl⟩:=k0
 obtain⟨_,h1,rfl⟩:=k1
 exact bad_call hl hh (by rw[l70];exact h0) (by rw[l70];exact h1) (by omega)
theorem bad_0(s:St)(h:StB s){lo hi:AV}(hl:Fl lo)(hh:Fl hi){why:Int}(h1:¬why=1)(h2:¬why=2)(h3:¬why=3)(h4:¬why=4)(h5:¬why=5):Gives cfg 70 [encSt s,.int .i64 why,.agg [lo,hi]] (.func 147 []):=by
 refine Gives.run (l70 _ _) ?_
 exact gG 120 [] trivial (.no (show(why==(1:Int))=false from Bool.eq_false_iff.2 (by simp[h1]))<|.no (show(why==(2:Int))=false from Bool.eq_false_iff.2 (by simp[h2]))<|.no (show(why==(3:Int))=false from Bool.eq_false_iff.2 (by simp[h3]))<|.no (show(why==(4:Int))=false from Bool.eq_false_iff.2 (by simp[h4]))<|.no (show(why==(5:Int))=false from Bool.eq_false_iff.2 (by simp[h5]))<|.fin ((.ret (.func 147 []),{boxes:=[[.sl .sh (s.nodes.map encN),.sl .sh (s.pods.map encPd),.sl .sh (s.buds.map encB)],[lo,hi]],toks:=[],loops:=[]:Heap})) rfl)
theorem cl147(x:Pod):Gives cfg 147 [encPd x] (.bool false):=by
 refine Gives.run (l147 _ _) ?_
 exact gG 30 [] trivial (.fin ((.ret (.bool false),{boxes:=[[.str x.name,.str x.owner,.int .i64 x.prio,.sl .sh (x.need.map encA),.sl .sh (x.labels.map encP),.sl .sh (x.sel.map encM),.sl .sh (x.tols.map encL),.str x.key,.int .i64 x.most,.str x.node,.bool x.hold]],toks:=[],loops:=[]:Heap})) rfl)
theorem one_loop(s:St)(hs:s.pods.length≤1000){lo hi:AV}(fv:AV)(why:Int)(Pr:List (List AV)→Prop)(hP:∀ex(x:Pod),Pr ex→Pr (ex++[(encPd x).cells]))
 (hc:∀tk ex(x:Pod),Pr ex→x∈s.pods→Does cfg (.call (.c fv) [.c (encPd x)]) ⟨(encSt s).cells::[lo,hi]::ex,tk,[]⟩ (.bool (isB s lo hi why x)) ⟨(encSt s).cells::[lo,hi]::ex,tk,[]⟩):
 ∀(post:List Pod)(i:Nat)(hd:s.pods.drop i=post)(acc:List (List UInt8))(ha:acc.length≤i)(ex:List (List AV))(he:Pr ex)(T:Env)
 (hT:Has T [(3,.ptr 0 0),(7,fv),(8,rowF .str acc),(16,.sl .sh (s.pods.map encPd)),(17,.int .i64 s.pods.length),(18,.int .i64 i)]),
 Goes cfg a30 k30_0 T ⟨(encSt s).cells::[lo,hi]::ex,tkR .str acc,[]⟩ (IsRet (rowF .str (acc++oneL s lo hi why post))):=by
 intro post
 induction post with
 |nil=>
  intro i hd acc ha ex he T hT
  have hge:=drop_ge hd
  rw[show acc++oneL s lo hi why []=acc by simp[oneL]]
  exact gG 60 _ hT (.no (dF ((↑i:Int)<(↑s.pods.length:Int)))<|.fin ((.ret (.sl (skF acc) (List.map .str acc)),{boxes:=[.sl .sh (s.nodes.map encN),.sl .sh (s.pods.map encPd),.sl .sh (s.buds.map encB)]::[lo,hi]::ex,toks:=tkR .str acc,loops:=[]:Heap})) rfl)
 |cons x post ih=>
  intro i hd acc ha ex he T hT
  have hlt:=drop_lt hd
  have hnx:=drop_next hd
  have hxi:idxA 11 (.sl .sh (s.pods.map encPd)) (.int .i64 (i:Nat))=some (.ref (encPd x).cells):=idx_row (f:=encPd) hd rfl
  have he':=hP ex x he
  have ap:=ap_S (acc:=acc) x.name (by omega)
  have no:=ih (i+1) hnx acc (by omega) (ex++[(encPd x).cells]) he'
  have yes:=ih (i+1) hnx (acc++[x.name]) (by simp;omega) (ex++[(encPd x).cells]) he'
  by_cases h1:x.node=[]
  ·have e:foundB s lo hi why x=false:=by simp[foundB,h1]
   rw[one_no e]
   exact let ζ1:List AV:=[.str x.name,.str x.owner,.int .i64 x.prio,.sl .sh (x.need.map encA),.sl .sh (x.labels.map encP),.sl .sh (x.sel.map encM),.sl .sh (x.tols.map encL),.str x.key,.int .i64 x.most,.str x.node,.bool x.hold];let ζ2:List AV:=[.sl .sh (s.nodes.map encN),.sl .sh (s.pods.map encPd),.sl .sh (s.buds.map encB)];let ζ3:Heap:={boxes:=ζ2::[lo,hi]::(ex++[ζ1]),toks:=tkR .str acc,loops:=[]:Heap};let ζ4:List AV:=[.str [],.str [],.int .i64 0,.sl .full [],.sl .full [],.sl .full [],.sl .full [],.str [],.int .i64 0,.str [],.bool false];gG 160 _ hT (.yes (dT ((↑i:Int)<(↑s.pods.length:Int)))<|.idx hxi<|.load (rfl:loadA true 11 {boxes:=ζ2::[lo,hi]::ex,toks:=tkR .str acc,loops:=[]:Heap} (.ref ζ1)=some (.agg ζ1))<|.store (show storeA 11 {boxes:=ζ2::[lo,hi]::(ex++[ζ4]),toks:=tkR .str acc,loops:=[]:Heap} (.ptr (ζ2::[lo,hi]::ex).length 0) (.agg ζ1)=some (ζ3)from store_box2 (cs:=ζ4) (cs':=ζ1) (by simp+zetaDelta) rfl (by simp+zetaDelta [List.set_append]))<|.load (show loadA false 1 ζ3 (.ptr (ζ2::[lo,hi]::ex).length 9)=some (.str x.node)from load_box (cs:=ζ1) (by simp+zetaDelta) rfl)<|.no (show(!x.node==[])=false from by have hh:(x.node==[])=true:=(by simpa using h1);simp[hh])<|.ff<|.ff<|.bin (iI i)<|.cutQ k30_0 [(3,.ptr 0 0),(7,fv),(8,.sl (skF acc) (List.map .str acc)),(16,.sl .sh (s.pods.map encPd)),(17,.int .i64 (↑s.pods.length)),(18,.int .i64 (↑(i+1)))] (ζ3) (fun T hT=>(no T hT)))
  ·cases h2:x.hold with
   |true=>
    have e:foundB s lo hi why x=false:=by simp[foundB,h2]
    rw[one_no e]
    exact let ζ1:List AV:=[.str x.name,.str x.owner,.int .i64 x.prio,.sl .sh (x.need.map encA),.sl .sh (x.labels.map encP),.sl .sh (x.sel.map encM),.sl .sh (x.tols.map encL),.str x.key,.int .i64 x.most,.str x.node,.bool x.hold];let ζ2:List AV:=[.sl .sh (s.nodes.map encN),.sl .sh (s.pods.map encPd),.sl .sh (s.buds.map encB)];let ζ3:Heap:={boxes:=ζ2::[lo,hi]::(ex++[ζ1]),toks:=tkR .str acc,loops:=[]:Heap};let ζ4:List AV:=[.str [],.str [],.int .i64 0,.sl .full [],.sl .full [],.sl .full [],.sl .full [],.str [],.int .i64 0,.str [],.bool false];gG 160 _ hT (.yes (dT ((↑i:Int)<(↑s.pods.length:Int)))<|.idx hxi<|.load (rfl:loadA true 11 {boxes:=ζ2::[lo,hi]::ex,toks:=tkR .str acc,loops:=[]:Heap} (.ref ζ1)=some (.agg ζ1))<|.store (show storeA 11 {boxes:=ζ2::[lo,hi]::(ex++[ζ4]),toks:=tkR .str acc,loops:=[]:Heap} (.ptr (ζ2::[lo,hi]::ex).length 0) (.agg ζ1)=some (ζ3)from store_box2 (cs:=ζ4) (cs':=ζ1) (by simp+zetaDelta) rfl (by simp+zetaDelta [List.set_append]))<|.load (show loadA false 1 ζ3 (.ptr (ζ2::[lo,hi]::ex).length 9)=some (.str x.node)from load_box (cs:=ζ1) (by simp+zetaDelta) rfl)<|.yes (show(!x.node==[])=true from by have hh:¬((x.node==[])=true):=(by simpa using h1);simp[hh])<|.load (show loadA false 1 ζ3 (.ptr (ζ2::[lo,hi]::ex).length 10)=some (.bool x.hold)from load_box (cs:=ζ1) (by simp+zetaDelta) rfl)<|.no (show(!x.hold)=false from by have hh:x.hold=true:=(by omega);simp[hh])<|.ff<|.bin (iI i)<|.cutQ k30_0 [(3,.ptr 0 0),(7,fv),(8,.sl (skF acc) (List.map .str acc)),(16,.sl .sh (s.pods.map encPd)),(17,.int .i64 (↑s.pods.length)),(18,.int .i64 (↑(i+1)))] (ζ3) (fun T hT=>(no T hT)))
   |false=>
    have d:=hc (tkR .str acc) (ex++[(encPd x).cells]) x he' (drop_mem hd)
    cases h3:isB s lo hi why x with
    |true=>
     have e:foundB s lo hi why x=true:=by simp[foundB,h1,h2,h3]
     rw[one_yes e,show acc++x.name::oneL s lo hi why post=(acc++[x.name])++oneL s lo hi why post by simp]
     rw[h3]at d
     exact let ζ1:List AV:=[.str x.name,.str x.owner,.int .i64 x.prio,.sl .sh (x.need.map encA),.sl .sh (x.labels.map encP),.sl .sh (x.sel.map encM),.sl .sh (x.tols.map encL),.str x.key,.int .i64 x.most,.str x.node,.bool x.hold];let ζ2:List AV:=[.sl .sh (s.nodes.map encN),.sl .sh (s.pods.map encPd),.sl .sh (s.buds.map encB)];let ζ3:Heap:={boxes:=ζ2::[lo,hi]::(ex++[ζ1]),toks:=tkR .str acc,loops:=[]:Heap};let ζ4:List AV:=[.str [],.str [],.int .i64 0,.sl .full [],.sl .full [],.sl .full [],.sl .full [],.str [],.int .i64 0,.str [],.bool false];let ζ5:Heap:={boxes:=(encSt s).cells::[lo,hi]::(ex++[(encPd x).cells]),toks:=tkR .str acc,loops:=[]:Heap};let ζ6:Heap:={boxes:=ζ2::[lo,hi]::(ex++[ζ1]),toks:=tkR .str (acc++[x.name]),loops:=[]:Heap};gG 160 _ hT (.yes (dT ((↑i:Int)<(↑s.pods.length:Int)))<|.idx hxi<|.load (rfl:loadA true 11 {boxes:=ζ2::[lo,hi]::ex,toks:=tkR .str acc,loops:=[]:Heap} (.ref ζ1)=some (.agg ζ1))<|.store (show storeA 11 {boxes:=ζ2::[lo,hi]::(ex++[ζ4]),toks:=tkR .str acc,loops:=[]:Heap} (.ptr (ζ2::[lo,hi]::ex).length 0) (.agg ζ1)=some (ζ3)from store_box2 (cs:=ζ4) (cs':=ζ1) (by simp+zetaDelta) rfl (by simp+zetaDelta [List.set_append]))<|.load (show loadA false 1 ζ3 (.ptr (ζ2::[lo,hi]::ex).length 9)=some (.str x.node)from load_box (cs:=ζ1) (by simp+zetaDelta) rfl)<|.yes (show(!x.node==[])=true from by have hh:¬((x.node==[])=true):=(by simpa using h1);simp[hh])<|.load (show loadA false 1 ζ3 (.ptr (ζ2::[lo,hi]::ex).length 10)=some (.bool x.hold)from load_box (cs:=ζ1) (by simp+zetaDelta) rfl)<|.yes (show(!x.hold)=true from by have hh:¬(x.hold=true):=(by simp+zetaDelta [h2]);simp[hh])<|.load (show loadA true 11 ζ3 (.ptr (ζ2::[lo,hi]::ex).length 0)=some (.agg ζ1)from load_box (cs:=ζ1) (by simp+zetaDelta) rfl)<|.effY d<|.tt<|.load (show loadA false 1 ζ3 (.ptr (ζ2::[lo,hi]::ex).length 0)=some (.str x.name)from load_box (cs:=ζ1) (by simp+zetaDelta) rfl)<|.append (show appendA 1 16 ζ3 (.sl (skF acc) (List.map .str acc)) (.sl .full [.str x.name])=some ((rowF .str (acc++[x.name]),ζ6))from ap _ _)<|.bin (iI i)<|.cutQ k30_0 [(3,.ptr 0 0),(7,fv),(8,.sl (skF (acc++[x.name])) (List.map .str (acc++[x.name]))),(16,.sl .sh (s.pods.map encPd)),(17,.int .i64 (↑s.pods.length)),(18,.int .i64 (↑(i+1)))] (ζ6) (fun T hT=>(yes T hT)))
    |false=>
     have e:foundB s lo hi why x=false:=by simp[foundB,h3]
     rw[one_no e]
     rw[h3]at d
     exact let ζ1:List AV:=[.str x.name,.str x.owner,.int .i64 x.prio,.sl .sh (x.need.map encA),.sl .sh (x.labels.map encP),.sl .sh (x.sel.map encM),.sl .sh (x.tols.map encL),.str x.key,.int .i64 x.most,.str x.node,.bool x.hold];let ζ2:List AV:=[.sl .sh (s.nodes.map encN),.sl .sh (s.pods.map encPd),.sl .sh (s.buds.map encB)];let ζ3:Heap:={boxes:=ζ2::[lo,hi]::(ex++[ζ1]),toks:=tkR .str acc,loops:=[]:Heap};let ζ4:List AV:=[.str [],.str [],.int .i64 0,.sl .full [],.sl .full [],.sl .full [],.sl .full [],.str [],.int .i64 0,.str [],.bool false];let ζ5:Heap:={boxes:=(encSt s).cells::[lo,hi]::(ex++[(encPd x).cells]),toks:=tkR .str acc,loops:=[]:Heap};gG 160 _ hT (.yes (dT ((↑i:Int)<(↑s.pods.length:Int)))<|.idx hxi<|.load (rfl:loadA true 11 {boxes:=ζ2::[lo,hi]::ex,toks:=tkR .str acc,loops:=[]:Heap} (.ref ζ1)=some (.agg ζ1))<|.store (show storeA 11 {boxes:=ζ2::[lo,hi]::(ex++[ζ4]),toks:=tkR .str acc,loops:=[]:Heap} (.ptr (ζ2::[lo,hi]::ex).length 0) (.agg ζ1)=some (ζ3)from store_box2 (cs:=ζ4) (cs':=ζ1) (by simp+zetaDelta) rfl (by simp+zetaDelta [List.set_append]))<|.load (show loadA false 1 ζ3 (.ptr (ζ2::[lo,hi]::ex).length 9)=some (.str x.node)from load_box (cs:=ζ1) (by simp+zetaDelta) rfl)<|.yes (show(!x.node==[])=true from by have hh:¬((x.node==[])=true):=(by simpa using h1);simp[hh])<|.load (show loadA false 1 ζ3 (.ptr (ζ2::[lo,hi]::ex).length 10)=some (.bool x.hold)from load_box (cs:=ζ1) (by simp+zetaDelta) rfl)<|.yes (show(!x.hold)=true from by have hh:¬(x.hold=true):=(by simp+zetaDelta [h2]);simp[hh])<|.load (show loadA true 11 ζ3 (.ptr (ζ2::[lo,hi]::ex).length 0)=some (.agg ζ1)from load_box (cs:=ζ1) (by simp+zetaDelta) rfl)<|.effY d<|.ff<|.bin (iI i)<|.cutQ k30_0 [(3,.ptr 0 0),(7,fv),(8,.sl (skF acc) (List.map .str acc)),(16,.sl .sh (s.pods.map encPd)),(17,.int .i64 (↑s.pods.length)),(18,.int .i64 (↑(i+1)))] (ζ3) (fun T hT=>(no T hT)))
def PreB(pre ex:List (List AV)):Prop:=∃r,ex=pre++r∧r.all (·.all data0)=true
theorem preB_snoc{pre:List (List AV)}(ex:List (List AV))(x:Pod)(h:PreB pre ex):PreB pre (ex++[(encPd x).cells]):=by
 obtain⟨r,rfl,hr⟩:=h
 exact⟨r++[(encPd x).cells],by simp,by rw[List.all_append,hr];rfl⟩
theorem one_end(s:St)(hs:s.pods.length≤1000){lo hi:AV}(hl:Fl lo)(hh:Fl hi){fv:AV}{why:Int}{pre:List (List AV)}(hb:Does cfg (.call (.c (.func 70 [])) [.c (encSt s),.c (.int .i64 why),.c (.agg [lo,hi])]) ⟨[(encSt s).cells,[lo,hi]],[],[]⟩ fv ⟨(encSt s).cells::[lo,hi]::pre,[],[]⟩)
 (hc:∀tk r(x:Pod),r.all (·.all data0)=true→x∈s.pods→Does cfg (.call (.c fv) [.c (encPd x)]) ⟨(encSt s).cells::[lo,hi]::(pre++r),tk,[]⟩ (.bool (isB s lo hi why x)) ⟨(encSt s).cells::[lo,hi]::(pre++r),tk,[]⟩):
 Gives cfg 30 [encSt s,.int .i64 why,.agg [lo,hi]] (rowF .str (oneS s lo hi why)):=by
 refine Gives.run (l30 _ _) ?_
 have lo':=one_loop s hs (lo:=lo) (hi:=hi) fv why (PreB pre) (fun ex x=>preB_snoc ex x) (fun tk ex x he hx=>by
  obtain⟨r,rfl,hr⟩:=he
  exact hc tk r x hr hx) s.pods 0 rfl [] (by simp) pre ⟨[],by simp,rfl⟩
 have e:rowF AV.str ([]:List (List UInt8))=.sl .full []:=rfl
 rw[e,tk_nil,List.nil_append]at lo'
 rw[show oneS s lo hi why=oneL s lo hi why s.pods from rfl]
 exact let ζ1:List AV:=[.sl .sh (s.nodes.map encN),.sl .sh (s.pods.map encPd),.sl .sh (s.buds.map encB)];let ζ2:Heap:={boxes:=ζ1::[lo,hi]::pre,toks:=[],loops:=[]:Heap};gG 120 [] trivial (.effY hb<|.load (lB false 1 ζ2 0 1 (.sl .sh (s.pods.map encPd)) ζ1)<|.len (lM .sh encPd s.pods)<|.cutQ k30_0 [(3,.ptr 0 0),(7,fv),(8,.sl .full []),(16,.sl .sh (s.pods.map encPd)),(17,.int .i64 (↑s.pods.length)),(18,.int .i64 0)] (ζ2) (fun T hT=>(lo' T hT)))
theorem one_any(s:St)(h:StB s){lo hi:AV}(hl:Fl lo)(hh:Fl hi)(why:Int):Gives cfg 30 [encSt s,.int .i64 why,.agg [lo,hi]] (rowF .str (oneS s lo hi why)):=by
 have hp:=h.ins.pods
 have hn:=h.nodes
 by_cases h1:why=1
 ·subst h1
  refine one_end s hp hl hh (bad_1 s hl hh) fun tk r x hr hx=> ?_
  rw[show isB s lo hi 1 x=wtB s x from rfl]
  exact cl136 s h hl hh tk r hr x (h.pd x hx)
 by_cases h2:why=2
 ·subst h2
  have hb:=bad_any s hp (by omega) fun n hn=>(h.nd n hn).labels
  refine one_end s hp hl hh (bad_2 s hl hh hb) fun tk r x hr hx=> ?_
  rw[show isB s lo hi 2 x=nmB (badS s) x.name from rfl]
  have:=badS_len s
  exact cl138 s h hl hh tk (badS s) (by omega) r hr x
 by_cases h3:why=3
 ·subst h3
  refine one_end s hp hl hh (bad_3 s hl hh) fun tk r x hr hx=> ?_
  rw[show isB s lo hi 3 x=twB s x from rfl]
  exact cl140 s h hl hh tk r hr x
 by_cases h4:why=4
 ·subst h4
  refine one_end s hp hl hh (bad_4 s hl hh) fun tk r x hr hx=> ?_
  rw[show isB s lo hi 4 x=(lvN s x.node lo hi==2)from rfl]
  exact cl143 s h hl hh tk r hr x
 by_cases h5:why=5
 ·subst h5
  refine one_end s hp hl hh (bad_5 s h hl hh) fun tk r x hr hx=> ?_
  rw[show isB s lo hi 5 x=(s.nodes.any (mrP s lo hi)&&lvN s x.node lo hi==0)from rfl]
  exact cl146 s h hl hh tk _ r hr x
 refine one_end (fv:=.func 147 []) (pre:=[]) s hp hl hh ?_ fun tk r x hr hx=> ?_
 ·have g:=bad_0 s h hl hh h1 h2 h3 h4 h5
  obtain⟨H',hg⟩:=g.ret
  intro T
  have hd:=(does_data (g:=70) ⟨_,hg,rfl⟩ [encSt s,.int .i64 why,.agg [lo,hi]] (by
   show [encSt s,.int .i64 why,.agg [Go.Aa.shut1 lo,Go.Aa.shut1 hi]]=_
   rw[hl.sh1,hh.sh1]) (by
   show(true&&(true&&((Go.Aa.data0 lo&&(Go.Aa.data0 hi&&true))&&true)))=true
   rw[hl.d0,hh.d0];rfl) rfl rfl ⟨[(encSt s).cells,[lo,hi]],[],[]⟩).1
  exact hd T
 ·rw[show isB s lo hi why x=false by simp[isB,h1,h2,h3,h4,h5]]
  exact(does_data (cl147 x) [encPd x] rfl rfl rfl rfl _).1
end Go.Aa.T
set_option linter.unusedVariables false
set_option linter.unusedSimpArgs false
set_option maxRecDepth 100000
namespace Go.Aa.T
open Go.Aa Go.Proofs
instance(o:Option Node):Res (findNV o) (.tuple [encN (o.getD noN),.bool o.isSome]):=⟨by cases o<;>exact⟨rfl,rfl⟩⟩
end Go.Aa.T
set_option linter.unusedVariables false
set_option linter.unusedSimpArgs false
set_option maxRecDepth 100000
namespace Go.Aa.T
open Go.Aa Go.Proofs
theorem cutE_mono{n m g:Nat}(hg:0<g)(h:n≤m):cutE n g≤cutE m g:=by
 unfold cutE
 have q:=Nat.div_le_div_right (c:=g) h
 by_cases e:n/g=m/g
 ·have h1:=Nat.div_add_mod n g
  have h2:=Nat.div_add_mod m g
  rw[e]at h1⊢
  have hr:n%g≤m%g:=by omega
  refine Nat.add_le_add_left ?_ _
  by_cases a:g<2*(n%g)
  ·have b:g<2*(m%g):=by omega
   simp[a,b]
  ·by_cases c:g=2*(n%g)
   ·by_cases b:g<2*(m%g)
    ·simp only[b,decide_true,Bool.true_or,Bool.toNat_true]
     exact Bool.toNat_le _
    ·have d:g=2*(m%g):=by omega
     have d':(g==2*(n%g))=(g==2*(m%g)):=by rw[show(g==2*(n%g))=true by simpa using c,show(g==2*(m%g))=true by simpa using d]
     rw[decide_eq_false a,decide_eq_false b,d']
     exact Nat.le_refl _
   ·have c':(g==2*(n%g))=false:=by simpa using c
    rw[decide_eq_false a,c']
    simp
 ·have:n/g+1≤m/g:=by omega
  have hb:=Bool.toNat_le (decide (g<2*(n%g))||(g==2*(n%g)&&n/g%2==1))
  omega
theorem rung_mono{a b:Nat}(ha:a≠0)(h:a≤b)(hb:b.log2<1000):rung a 0≤rung b 0:=by
 have hb0:b≠0:=by omega
 have hl:a.log2≤b.log2:=(Nat.le_log2 hb0).2 (Nat.le_trans (Nat.log2_self_le ha) h)
 obtain⟨k,e1,k1,k2,k3,k4⟩:=rung_normal (p:=0) ha (L:=a.log2+1022) (by omega) (by omega)
 obtain⟨j,f1,j1,j2,j3,j4⟩:=rung_normal (p:=0) hb0 (L:=b.log2+1022) (by omega) (by omega)
 rw[e1,f1]
 by_cases e:a.log2=b.log2
 ·rw[e]
  refine Nat.add_le_add_left ?_ _
  by_cases c:b.log2≤52
  ·rw[k3 (by omega),j3 c,e]
   exact Nat.mul_le_mul_right _ h
  ·rw[k4 (by omega),j4 (by omega),e]
   exact cutE_mono (Nat.two_pow_pos _) h
 ·omega
theorem of_le_one{u c:Int}(h0:0<u)(h:u≤c)(hc:c≤9223372036854775807):cmp (ofA u c) (.flt 4607182418800017408)≤0:=by
 have na:u.natAbs≠0:=by omega
 have nb:c.natAbs≠0:=by omega
 have ga:u.natAbs.log2<64:=(Nat.log2_lt na).2 (by omega)
 have gb:c.natAbs.log2<64:=(Nat.log2_lt nb).2 (by omega)
 obtain⟨a1,a2,a3,a4⟩:=rung_log na (by omega)
 obtain⟨b1,b2,b3,b4⟩:=rung_log nb (by omega)
 have w0:∀r,r≠0→worth r≠0:=fun r hr=>by
  have:=worth_lt (show 0<r by omega)
  omega
 obtain⟨R,e,p1,p2,_,p4,_⟩:=div_spec (s:=false) (t:=false) a1 b1 (w0 _ a2) (w0 _ b2) (by omega) (by omega)
 have hm:=rung_mono na (show u.natAbs≤c.natAbs by omega) (by omega)
 have hw:=worth_le hm
 have hR:=p4 4607182418800017408 (by rw[one_worth,Nat.mul_comm];exact Nat.mul_le_mul_left _ hw)
 have ho:ofA u c=.flt (wrd false R):=by
  unfold ofA
  rw[fi_eq,fi_eq,show decide (u<0)=false by simpa using(by omega:0≤u),show decide (c<0)=false by simpa using(by omega:0≤c),e]
  rfl
 rw[ho,show(4607182418800017408:Nat)=wrd false 4607182418800017408 from rfl,cmp_pos p1 p2 (by omega) (by omega)]
 unfold sgn
 (repeat' split)<;>omega
theorem of_cls0{u c:Int}(h0:0≤u)(h:0<c)(hu:u≤9223372036854775807)(hc:c≤9223372036854775807):cls (ofA u c)=if u=0 then 3 else 4:=by
 rw[ofA_cls (by omega) (by omega),if_neg (by omega)]
 by_cases e:u=0
 ·rw[if_pos e,if_pos e,if_neg (by omega)]
 ·rw[if_neg e,if_neg e,if_neg]
  have a:decide (u<0)=false:=by simpa using h0
  have b:decide (c<0)=false:=by simpa using(by omega:0≤c)
  rw[a,b];decide
theorem fl_zero:Fl (.flt 0):=.flt 0 nn0 (by omega)
theorem fl_one:Fl (.flt 4607182418800017408):=.flt _ rfl (by omega)
theorem fl_neg1:Fl (.flt 13830554455654793216):=.flt _ rfl (by omega)
theorem fl_neg2:Fl (.flt 13835058055282163712):=.flt _ rfl (by omega)
structure Us(x:AV):Prop where
 ex:∃u c:Int,x=ofA u c∧0≤u∧u≤c∧0<c∧c≤9223372036854775807
theorem Us.cls{x:AV}(h:Us x):cls x=3∨Go.Aa.T.cls x=4:=by
 obtain⟨u,c,rfl,h0,h1,h2,h3⟩:=h.ex
 rw[of_cls0 h0 h2 (by omega) h3]
 split<;>simp
theorem Us.le1{x:AV}(h:Us x):ovB (.flt 4607182418800017408) x=false:=by
 have hcl:=h.cls
 obtain⟨u,c,rfl,h0,h1,h2,h3⟩:=h.ex
 refine decide_eq_false ?_
 by_cases e:u=0
 ·have:Go.Aa.T.cls (ofA u c)=3:=by rw[of_cls0 h0 h2 (by omega) h3,if_pos e]
  have c4:Go.Aa.T.cls (.flt 4607182418800017408)=4:=rfl
  unfold cmp
  rw[this,c4];simp[sgn]
 ·have:=of_le_one (u:=u) (c:=c) (by omega) h1 h3
  omega
theorem Us.ge0{x:AV}(h:Us x):geB (.flt 0) x=true:=by
 have c3:Go.Aa.T.cls (.flt 0)=3:=rfl
 refine decide_eq_true ?_
 unfold cmp
 rcases h.cls with e|e<;>rw[e,c3]<;>simp[sgn]
theorem Us.gtm{x:AV}(h:Us x):ovB (.flt 13830554455654793216) x=true:=by
 have c1:Go.Aa.T.cls (.flt 13830554455654793216)=1:=rfl
 refine decide_eq_true ?_
 unfold cmp
 rcases h.cls with e|e<;>rw[e,c1]<;>simp[sgn]
theorem us_at{s:St}(g:GdS s)(r:RgS s){n:Node}(hn:n∈s.nodes){x:Amount}(hx:x∈n.cap):Us (usF s n.name x.name):=by
 obtain⟨u,hu,ou,_,_,hf⟩:=g.at_ hn
 have oc:=g.cap n hn
 have h1:=(fits_get ou.p oc.p).1 hf x.name
 have h2:=getQ_mem oc.rise x hx
 have h3:=oc.pos x hx
 have h4:=(r.cap n hn x hx).2
 refine⟨getQ u x.name,x.n,?_,getQ_nn ou _,by omega,h3,h4⟩
 unfold usF
 rw[g.find n hn,hu]
 show ofA (getQ u x.name) (getQ n.cap x.name)=_
 rw[h2]
theorem usL_at{s:St}(g:GdS s)(r:RgS s)(nm:List UInt8):∀x∈usL s nm,Us x:=fun x hx=>by
 unfold usL at hx
 cases hf:findG Node.name s.nodes nm with
 |none=>rw[hf]at hx;cases hx
 |some n=>
  rw[hf]at hx
  have hn:=find_in hf
  have hnm:n.name=nm:=by simpa using List.find?_some hf
  obtain⟨y,hy,rfl⟩:=List.mem_map.1 hx
  rw[←hnm]
  exact us_at g r hn hy
theorem lv_calm{s:St}(g:GdS s)(r:RgS s)(nm:List UInt8):lvN s nm (.flt 0) (.flt 4607182418800017408)=1:=by
 have h:=usL_at g r nm
 unfold lvN lvS
 generalize usL s nm=us at h
 have a:¬us.any (ovB (.flt 4607182418800017408))=true:=by
  simp only[List.any_eq_true,not_exists,not_and,Bool.not_eq_true]
  exact fun x hx=>(h x hx).le1
 rw[if_neg a]
 cases us with
 |nil=>rfl
 |cons x l=>
  rw[if_neg (by simp),if_pos]
  rw[List.any_cons,(h x (by simp)).ge0,Bool.true_or]
theorem lv_all{s:St}(g:GdS s)(r:RgS s){nm:List UInt8}{n:Node}(hf:findG Node.name s.nodes nm=some n)(lo:AV):(lvN s nm lo (.flt 13830554455654793216)==2)=decide (0<n.cap.length):=by
 have h:=usL_at g r nm
 have e:usL s nm=usM s nm n.cap:=by unfold usL;rw[hf]
 unfold lvN
 rw[e]at h⊢
 unfold lvS
 cases hc:n.cap with
 |nil=>rfl
 |cons x l=>
  rw[hc]at h
  have:(usM s nm (x::l)).any (ovB (.flt 13830554455654793216))=true:=by
   show(ovB _ (usF s nm x.name)||_)=true
   rw[(h _ (by simp[usM])).gtm,Bool.true_or]
  rw[if_pos this]
  simp
theorem one_calm4{s:St}(g:GdS s)(r:RgS s):oneS s (.flt 0) (.flt 4607182418800017408) 4=[]:=by
 unfold oneS oneL
 rw[List.map_eq_nil_iff,List.filter_eq_nil_iff]
 intro p hp
 have:isB s (.flt 0) (.flt 4607182418800017408) 4 p=false:=by
  show(lvN s p.node _ _==2)=false
  rw[lv_calm g r];rfl
 simp[foundB,this]
theorem one_calm5{s:St}(g:GdS s)(r:RgS s):oneS s (.flt 0) (.flt 4607182418800017408) 5=[]:=by
 unfold oneS oneL
 rw[List.map_eq_nil_iff,List.filter_eq_nil_iff]
 intro p hp
 have:isB s (.flt 0) (.flt 4607182418800017408) 5 p=false:=by
  show(s.nodes.any _&&lvN s p.node _ _==0)=false
  rw[lv_calm g r]
  simp
 simp[foundB,this]
def qN(p:Pod)(n:Node):Bool:=n.name==p.node&&decide (0<n.cap.length)
def cnP(s:St)(p:Pod):Nat:=if p.node=[]∨p.hold=true then 0 else(s.nodes.filter (qN p)).length
def cnL(s:St):List Pod→Nat
 |[]=>0
 |p::l=>cnP s p+cnL s l
theorem nodes_ne{s:St}(h:ckAll 32 ckN Node.name s.nodes=0):s.nodes.Pairwise fun a b=>a.name≠b.name:=by
 rw[List.pairwise_iff_getElem]
 intro i j hi hj hij e
 obtain⟨d,rfl⟩:∃d,j=i+d+1:=⟨j-i-1,by omega⟩
 have:=names_ltX h d i _ _ (List.getElem?_eq_getElem hi) (List.getElem?_eq_getElem hj)
 rw[e]at this
 have hirr:=less_lt.1 this
 exact absurd hirr (List.lt_irrefl _)
theorem filter_one{n:Node}:∀{l:List Node},l.Pairwise (fun a b=>a.name≠b.name)→n∈l→l.filter (fun m=>m.name==n.name)=[n]
 |m::l,hp,hm=>by
  obtain⟨h1,h2⟩:=List.pairwise_cons.1 hp
  rcases List.mem_cons.1 hm with rfl|hm
  ·rw[List.filter_cons,if_pos (by simp)]
   congr 1
   rw[List.filter_eq_nil_iff]
   intro x hx
   have:=h1 x hx
   simpa using fun e=>this e.symm
  ·have:=h1 n hm
   rw[List.filter_cons,if_neg (by simpa using this)]
   exact filter_one h2 hm
theorem qN_len{s:St}(h:ckAll 32 ckN Node.name s.nodes=0){p:Pod}{n:Node}(hf:findG Node.name s.nodes p.node=some n):(s.nodes.filter (qN p)).length=if 0<n.cap.length then 1 else 0:=by
 have hn:=find_in hf
 have hnm:n.name=p.node:=by simpa using List.find?_some hf
 have e:s.nodes.filter (qN p)=(s.nodes.filter (fun m=>m.name==n.name)).filter fun m=>decide (0<m.cap.length):=by
  rw[List.filter_filter]
  congr 1
  funext m
  rw[hnm,qN,Bool.and_comm]
 rw[e,filter_one (nodes_ne h) hn]
 by_cases c:0<n.cap.length<;>simp[List.filter_cons,c]
theorem one_cnt{s:St}(g:GdS s)(r:RgS s)(h:ckAll 32 ckN Node.name s.nodes=0)(hp:podsE s s.pods=0)(lo:AV):∀{l:List Pod},(∀p∈l,p∈s.pods)→(oneL s lo (.flt 13830554455654793216) 4 l).length=cnL s l
 |[],_=>rfl
 |p::l,hm=>by
  have ih:=one_cnt g r h hp lo (l:=l) fun q hq=>hm q (List.mem_cons_of_mem _ hq)
  unfold cnL cnP
  by_cases h1:p.node=[]
  ·rw[one_no (by simp[foundB,h1]),ih,if_pos (.inl h1)];omega
  ·cases h2:p.hold with
   |true=>rw[one_no (by simp[foundB,h2]),ih,if_pos (.inr rfl)];omega
   |false=>
    rw[if_neg (by simp[h1])]
    obtain⟨n,hf⟩:=pods_at hp p (hm p (by simp)) h1
    rw[qN_len h hf]
    have e:isB s lo (.flt 13830554455654793216) 4 p=decide (0<n.cap.length):=lv_all g r hf lo
    by_cases c:0<n.cap.length
    ·rw[one_yes (by simp[foundB,h1,h2,e,c]),if_pos c,List.length_cons,ih];omega
    ·rw[one_no (by simp only[foundB,e,decide_eq_false c,Bool.and_false]),if_neg c,ih];omega
end Go.Aa.T
set_option linter.unusedVariables false
set_option linter.unusedSimpArgs false
set_option maxRecDepth 100000
namespace Go.Aa.T
open Go.Aa Go.Proofs
theorem capl{s:St}(fs:FewS s):∀n∈s.nodes,n.cap.length≤1000:=fun n hn=>by have:=(fewNd (fs.node n hn)).cap;omega
end Go.Aa.T
set_option linter.unusedVariables false
set_option linter.unusedSimpArgs false
set_option maxRecDepth 100000
namespace Go.Aa.T
open Go.Aa Go.Proofs
theorem known25':Gives cfg 25 [] (.bool true):=by
 obtain⟨H',h⟩:=known_ret25
 exact⟨_,h,rfl⟩
def cntN(p:Pod):List Node→Nat→Nat
 |[],c=>c
 |n::l,c=>cntN p l (if qN p n=true then c+1 else c)
theorem cntN_eq(p:Pod):∀(l:List Node)(c:Nat),cntN p l c=c+(l.filter (qN p)).length
 |[],c=>rfl
 |n::l,c=>by
  rw[cntN,cntN_eq p l,List.filter_cons]
  by_cases h:qN p n=true
  ·rw[if_pos h,if_pos h,List.length_cons];omega
  ·rw[if_neg h,if_neg h]
theorem add_n{c:Nat}(h:c≤1000000):binA .add (.int .i64 (c:Int)) (.int .i64 1)=some (.int .i64 ((c+1:Nat):Int)):=by
 have:=addI (a:=(c:Int)) (b:=1) (by omega) (by omega)
 rw[this];simp
theorem sl_inner(s:St)(hs:s.pods.length≤1000)(hn:s.nodes.length≤500)(M L:List AV)(p:Pod)(i:Nat)(hi:i<s.pods.length)(hp:s.pods.drop i=p::s.pods.drop (i+1))(c0:Nat)(hc0:c0≤600000)(R:ARes×Heap→Prop)
 (K:∀(c:Nat)(T:Env),c=cntN p s.nodes c0→Has T [(1,.ptr 0 0),(4,.sl .sh L),(5,.int .i64 (c:Nat)),(6,.int .i64 ((i+1:Nat):Int))]→Goes cfg a7 k7_0 T ⟨[(encSt s).cells,M],[],[]⟩ R):
 ∀(post:List Node)(j:Nat)(hd:s.nodes.drop j=post)(c:Nat)(hc:c≤c0+j)(he:cntN p post c=cntN p s.nodes c0)(T:Env)
 (hT:Has T [(1,.ptr 0 0),(4,.sl .sh L),(5,.int .i64 (c:Nat)),(6,.int .i64 i),(7,.int .i64 j)]),
 Goes cfg a7 k7_1 T ⟨[(encSt s).cells,M],[],[]⟩ R:=by
 intro post
 induction post with
 |nil=>
  intro j hd c hc he T hT
  have hge:=drop_ge hd
  have k:=K c
  have inc:=inc_i (i:=i) (by omega)
  exact gG 120 _ hT (.len (lM .sh encN s.nodes)<|.no (dF ((↑j:Int)<(↑s.nodes.length:Int)))<|.bin inc<|.cutQ k7_0 [(1,.ptr 0 0),(4,.sl .sh L),(5,.int .i64 ↑c),(6,.int .i64 (↑(i+1)))] ({boxes:=[[.sl .sh (s.nodes.map encN),.sl .sh (s.pods.map encPd),.sl .sh (s.buds.map encB)],M],toks:=[],loops:=[]:Heap}) (fun T hT=>(k T he hT)))
 |cons x post ih=>
  intro j hd c hc he T hT
  have hlt:=drop_lt hd
  have hnx:=drop_next hd
  have hxi:idxA 5 (.sl .sh (s.nodes.map encN)) (.int .i64 (j:Nat))=some (.ref (encN x).cells):=idx_row (f:=encN) hd rfl
  have hpi:idxA 11 (.sl .sh (s.pods.map encPd)) (.int .i64 (i:Nat))=some (.ref (encPd p).cells):=idx_row (f:=encPd) hp rfl
  have inc:=inc_i (i:=j) (by omega)
  have ac:=add_n (c:=c) (by omega)
  rw[show cntN p (x::post) c=cntN p post (if qN p x=true then c+1 else c)from rfl]at he
  by_cases h1:x.name=p.node
  ·by_cases h2:0<x.cap.length
   ·have e:qN p x=true:=by simp[qN,h1,h2]
    rw[if_pos e]at he
    have ih':=ih (j+1) hnx (c+1) (by omega) he
    exact gG 160 _ hT (.len (lM .sh encN s.nodes)<|.yes (dT ((↑j:Int)<(↑s.nodes.length:Int)))<|.idx hxi<|.idx hpi<|.yes (show(x.name==p.node)=true from(by simpa using h1))<|.idx hxi<|.len (lM .sh encA x.cap)<|.yes (dT ((0:Int)<(↑x.cap.length:Int)))<|.bin ac<|.bin inc<|.cutQ k7_1 [(1,.ptr 0 0),(4,.sl .sh L),(5,.int .i64 (↑(c+1):Int)),(6,.int .i64 ↑i),(7,.int .i64 (↑(j+1):Int))] ({boxes:=[[.sl .sh (s.nodes.map encN),.sl .sh (s.pods.map encPd),.sl .sh (s.buds.map encB)],M],toks:=[],loops:=[]:Heap}) (fun T hT=>(ih' T hT)))
   ·have e:¬qN p x=true:=by simp[qN,h1,h2]
    rw[if_neg e]at he
    have ih':=ih (j+1) hnx c (by omega) he
    exact gG 160 _ hT (.len (lM .sh encN s.nodes)<|.yes (dT ((↑j:Int)<(↑s.nodes.length:Int)))<|.idx hxi<|.idx hpi<|.yes (show(x.name==p.node)=true from(by simpa using h1))<|.idx hxi<|.len (lM .sh encA x.cap)<|.no (dF ((0:Int)<(↑x.cap.length:Int)))<|.bin inc<|.cutQ k7_1 [(1,.ptr 0 0),(4,.sl .sh L),(5,.int .i64 ↑c),(6,.int .i64 ↑i),(7,.int .i64 (↑(j+1):Int))] ({boxes:=[[.sl .sh (s.nodes.map encN),.sl .sh (s.pods.map encPd),.sl .sh (s.buds.map encB)],M],toks:=[],loops:=[]:Heap}) (fun T hT=>(ih' T hT)))
  ·have e:¬qN p x=true:=by simp[qN,h1]
   rw[if_neg e]at he
   have ih':=ih (j+1) hnx c (by omega) he
   exact gG 160 _ hT (.len (lM .sh encN s.nodes)<|.yes (dT ((↑j:Int)<(↑s.nodes.length:Int)))<|.idx hxi<|.idx hpi<|.no (show(x.name==p.node)=false from Bool.eq_false_iff.2 (by simpa using h1))<|.ff<|.bin inc<|.cutQ k7_1 [(1,.ptr 0 0),(4,.sl .sh L),(5,.int .i64 ↑c),(6,.int .i64 ↑i),(7,.int .i64 (↑(j+1):Int))] ({boxes:=[[.sl .sh (s.nodes.map encN),.sl .sh (s.pods.map encPd),.sl .sh (s.buds.map encB)],M],toks:=[],loops:=[]:Heap}) (fun T hT=>(ih' T hT)))
theorem cnP_le(s:St)(p:Pod):cnP s p≤s.nodes.length:=by
 unfold cnP
 split
 ·omega
 ·exact List.length_filter_le _ _
theorem sl_outer(s:St)(hs:s.pods.length≤1000)(hn:s.nodes.length≤500)(M L:List AV)(n:Nat)(hL:L.length=n)(hn2:n≤1000):
 ∀(post:List Pod)(i:Nat)(hd:s.pods.drop i=post)(c:Nat)(hc:c≤i*500)(he:c+cnL s post=n)(T:Env)
 (hT:Has T [(1,.ptr 0 0),(4,.sl .sh L),(5,.int .i64 (c:Nat)),(6,.int .i64 i)]),
 Goes cfg a7 k7_0 T ⟨[(encSt s).cells,M],[],[]⟩ (IsRet (.bool true)):=by
 intro post
 induction post with
 |nil=>
  intro i hd c hc he T hT
  have hge:=drop_ge hd
  have he':c=n:=by simpa[cnL]using he
  subst he'
  have hb:((L.length:Nat):Int)=(c:Nat):=by rw[hL]
  exact gG 120 _ hT (.len (lM .sh encPd s.pods)<|.no (dF ((↑i:Int)<(↑s.pods.length:Int)))<|.len (show lenA false (.sl .sh L)=some (.int .i64 (↑L.length))from len_sl _ _)<|.fin ((.ret (.bool ((↑L.length:Int)==(↑c:Int))),{boxes:=[[.sl .sh (s.nodes.map encN),.sl .sh (s.pods.map encPd),.sl .sh (s.buds.map encB)],M],toks:=[],loops:=[]:Heap})) (by exact ret_b (by simp[hL])))
 |cons x post ih=>
  intro i hd c hc he T hT
  have hlt:=drop_lt hd
  have hnx:=drop_next hd
  have hxi:idxA 11 (.sl .sh (s.pods.map encPd)) (.int .i64 (i:Nat))=some (.ref (encPd x).cells):=idx_row (f:=encPd) hd rfl
  have inc:=inc_i (i:=i) (by omega)
  have hcx:=cnP_le s x
  unfold cnL at he
  by_cases h1:x.node=[]
  ·have e:cnP s x=0:=by unfold cnP;rw[if_pos (.inl h1)]
   have ih':=ih (i+1) hnx c (by omega) (by omega)
   exact gG 160 _ hT (.len (lM .sh encPd s.pods)<|.yes (dT ((↑i:Int)<(↑s.pods.length:Int)))<|.idx hxi<|.yes (show(x.node==[])=true from(by simpa using h1))<|.tt<|.bin inc<|.cutQ k7_0 [(1,.ptr 0 0),(4,.sl .sh L),(5,.int .i64 ↑c),(6,.int .i64 (↑(i+1)))] ({boxes:=[[.sl .sh (s.nodes.map encN),.sl .sh (s.pods.map encPd),.sl .sh (s.buds.map encB)],M],toks:=[],loops:=[]:Heap}) (fun T hT=>(ih' T hT)))
  ·cases h2:x.hold with
   |true=>
    have e:cnP s x=0:=by unfold cnP;rw[if_pos (.inr h2)]
    have ih':=ih (i+1) hnx c (by omega) (by omega)
    exact gG 160 _ hT (.len (lM .sh encPd s.pods)<|.yes (dT ((↑i:Int)<(↑s.pods.length:Int)))<|.idx hxi<|.no (show(x.node==[])=false from Bool.eq_false_iff.2 (by simpa using h1))<|.idx hxi<|.yes (show(x.hold)=true from(by omega))<|.bin inc<|.cutQ k7_0 [(1,.ptr 0 0),(4,.sl .sh L),(5,.int .i64 ↑c),(6,.int .i64 (↑(i+1)))] ({boxes:=[[.sl .sh (s.nodes.map encN),.sl .sh (s.pods.map encPd),.sl .sh (s.buds.map encB)],M],toks:=[],loops:=[]:Heap}) (fun T hT=>(ih' T hT)))
   |false=>
    have e:cnP s x=(s.nodes.filter (qN x)).length:=by unfold cnP;rw[if_neg (by simp[h1,h2])]
    have e2:=cntN_eq x s.nodes c
    have ih':=fun(c':Nat)(T:Env)(h:c'=cntN x s.nodes c)hT=>ih (i+1) hnx c' (by omega) (by omega) T hT
    have inn:=sl_inner s hs hn M L x i hlt (by rw[hd,hnx]) c (by omega) (IsRet (.bool true)) ih' s.nodes 0 rfl c (by omega) rfl
    exact gG 160 _ hT (.len (lM .sh encPd s.pods)<|.yes (dT ((↑i:Int)<(↑s.pods.length:Int)))<|.idx hxi<|.no (show(x.node==[])=false from Bool.eq_false_iff.2 (by simpa using h1))<|.idx hxi<|.no (show(x.hold)=false from Bool.eq_false_iff.2 (by simp[h2]))<|.cutQ k7_1 [(1,.ptr 0 0),(4,.sl .sh L),(5,.int .i64 ↑c),(6,.int .i64 ↑i),(7,.int .i64 0)] ({boxes:=[[.sl .sh (s.nodes.map encN),.sl .sh (s.pods.map encPd),.sl .sh (s.buds.map encB)],M],toks:=[],loops:=[]:Heap}) (fun T hT=>(inn T hT)))
theorem stB{s:St}(fs:FewS s)(r:RgS s):StB s:=⟨stIn fs r,by have:=fs.nodes;omega,capl fs,few_nd fs,fun p hp=>few_pd (fs.pod p hp)⟩
theorem stratLevels(s:St)(r:RgS s):Gives cfg 7 [encSt s] (.bool true):=by
 refine Gives.run (l7 _ _) ?_
 have g:=good_any s r
 cases hg:(fewSt s&&ckSt s==0)with
 |false=>
  rw[hg]at g
  exact let ζ1:List AV:=[.sl .sh (s.nodes.map encN),.sl .sh (s.pods.map encPd),.sl .sh (s.buds.map encB)];gG 90 [] trivial (.callK ([]) (.bool true) known25'<|.ff<|.callK ([.agg ζ1]) (.bool false) g<|.tt<|.fin ((.ret (.bool true),{boxes:=[ζ1],toks:=[],loops:=[]:Heap})) rfl)
 |true=>
  rw[hg]at g
  simp only[Bool.and_eq_true,beq_iff_eq]at hg
  obtain⟨hg1,hg2⟩:=hg
  have fs:=fewS hg1
  have fn:=fs.nodes
  have fp:=fs.pods
  have gd:=gdS hg2
  have h1:ckAll 32 ckN Node.name s.nodes=0:=firstE_zero hg2 _ (by simp)
  have hpo:podsE s s.pods=0:=firstE_zero hg2 _ (by simp)
  have b:=stB fs r
  have a4:=one_any s b fl_zero fl_one 4
  have a5:=one_any s b fl_zero fl_one 5
  rw[one_calm4 gd r]at a4
  rw[one_calm5 gd r]at a5
  have a6:=one_any s b fl_neg2 fl_neg1 4
  have cn:=one_cnt gd r h1 hpo (.flt 13835058055282163712) (l:=s.pods) fun _ h=>h
  rw[show oneL s (.flt 13835058055282163712) (.flt 13830554455654793216) 4 s.pods=oneS s (.flt 13835058055282163712) (.flt 13830554455654793216) 4 from rfl]at cn
  have hle:=oneS_len s (.flt 13835058055282163712) (.flt 13830554455654793216) 4
  generalize oneS s (.flt 13835058055282163712) (.flt 13830554455654793216) 4=l at*
  have lo:=sl_outer s (by omega) (by omega) [.flt 0,.flt 4607182418800017408] (l.map .str) (cnL s s.pods) (by rw[List.length_map];exact cn) (by omega) s.pods 0 rfl 0 (by omega) (by omega)
  exact let ζ1:List AV:=[.sl .sh (s.nodes.map encN),.sl .sh (s.pods.map encPd),.sl .sh (s.buds.map encB)];let ζ2:List AV:=[AV.flt 0,AV.flt 4607182418800017408];let ζ3:List AV:=[AV.flt 13835058055282163712,AV.flt 13830554455654793216];gG 300 [] trivial (.callK ([]) (.bool true) known25'<|.ff<|.callK ([.agg ζ1]) (.bool true) g<|.ff<|.callK ([.agg ζ1,.int .i64 4,.agg ζ2]) (.sl .sh []) a4<|.len (show lenA false (.sl .sh [])=some (.int .i64 (↑[].length:Int))from len_sl _ _)<|.ff<|.callK ([.agg ζ1,.int .i64 5,.agg ζ2]) (.sl .sh []) a5<|.len (show lenA false (.sl .sh [])=some (.int .i64 (↑[].length:Int))from len_sl _ _)<|.ff<|.callG ([.agg ζ1,.int .i64 4,.agg ζ3]) (.sl .sh (List.map .str l)) a6 ⟨rfl,rfl⟩ Res.p<|.cutQ k7_0 [(1,.ptr 0 0),(4,.sl .sh (List.map .str l)),(5,.int .i64 0),(6,.int .i64 0)] ({boxes:=[ζ1,ζ2],toks:=[],loops:=[]:Heap}) (fun T hT=>(lo T hT)))
end Go.Aa.T
set_option linter.unusedVariables false
set_option linter.unusedSimpArgs false
set_option maxRecDepth 100000
namespace Go.Aa.T
open Go.Aa Go.Proofs
theorem law7(xs:List AV)(h:TyAll Tryz.prog 6 [26] xs)(hz:SzAll Tryz.prog [26] xs):∃H',lim cfg (.fn 7) xs Heap.nil=some (.ret (.bool true),H'):=by
 obtain⟨x1,rfl,h1⟩:=tyall_1 h
 obtain⟨a,rfl,r,-⟩:=ty26 (k:=0) h1
 exact(stratLevels a r).ret
end Go.Aa.T
