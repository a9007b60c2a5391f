/-
  WHAT THE LAW LEANS ON, part 12 of 13: a machine of values and its soundness; the functions of the law upon it; what they come to.
-/
import Derived.Test.YthlhlfiklmmenaaGreatDoorYtwik
set_option linter.unusedVariables false
set_option linter.unusedSimpArgs false
set_option maxRecDepth 100000
namespace Go.Aa.T
open Go.Aa Go.Proofs
def nmB(l:List (List UInt8))(s:List UInt8):Bool:=l.any fun x=>x==s
theorem ixS_loop(l:List (List UInt8))(s:List UInt8)(hn:l.length<9223372036854775807):∀(post:List (List UInt8))(i:Nat)(hd:l.drop i=post)(T:Env)
 (hT:Has T [(0,.sl .sh (l.map .str)),(1,.str s),(7,.int .i64 l.length),(8,.int .i64 i)]),
 Goes cfg a216 k216_0 T Heap.nil (IsRet (.int .i64 (fidxB (fun x=>x==s) post i))):=by
 intro post
 induction post with
 |nil=>
  intro i hd T hT
  have hge:=drop_ge hd
  exact gG 60 _ hT (.no (dF ((↑i:Int)<(↑l.length:Int)))<|.fin ((.ret (.int .i64 (-1:Int)),{boxes:=[],toks:=[],loops:=[]:Heap})) rfl)
 |cons x post ih=>
  intro i hd T hT
  have hlt:=drop_lt hd
  have hnx:=drop_next hd
  by_cases h:s=x
  ·have e:fidxB (fun x=>x==s) (x::post) i=i:=by simp[fidxB,h]
   rw[e]
   exact gG 60 _ hT (.yes (dT ((↑i:Int)<(↑l.length:Int)))<|.idx (show idxA 1 (.sl .sh (List.map .str l)) (.int .i64 ↑i)=some (.ref (AV.str x).cells)from idx_row hd (by rfl))<|.yes (show(s==x)=true from(by simpa using h))<|.fin ((.ret (.int .i64 ↑i),{boxes:=[],toks:=[],loops:=[]:Heap})) rfl)
  ·have h':¬x=s:=fun e=>h e.symm
   have e:fidxB (fun x=>x==s) (x::post) i=fidxB (fun x=>x==s) post (i+1):=by simp[fidxB,h']
   rw[e]
   exact gG 60 _ hT (.yes (dT ((↑i:Int)<(↑l.length:Int)))<|.idx (show idxA 1 (.sl .sh (List.map .str l)) (.int .i64 ↑i)=some (.ref (AV.str x).cells)from idx_row hd (by rfl))<|.no (show(s==x)=false from Bool.eq_false_iff.2 (by simpa using h))<|.bin (iI i)<|.cutQ k216_0 [(0,.sl .sh (List.map .str l)),(1,.str s),(7,.int .i64 (↑l.length)),(8,.int .i64 (↑(i+1)))] ({boxes:=[],toks:=[],loops:=[]:Heap}) (fun T hT=>(ih (i+1) hnx T hT)))
theorem ctS_any(l:List (List UInt8))(s:List UInt8)(hn:l.length<9223372036854775807):Gives cfg 139 [.sl .sh (l.map .str),.str s] (.bool (nmB l s)):=by
 refine Gives.run (l139 _ _) ?_
 have h0:Gives cfg 216 [.sl .sh (l.map .str),.str s] (.int .i64 (fidxB (fun x=>x==s) l 0)):=by
  refine Gives.run (l216 _ _) ?_
  have h:=ixS_loop l s hn l 0 rfl
  exact gG 60 [] trivial (.len (lM .sh .str l)<|.cutQ k216_0 [(0,.sl .sh (List.map .str l)),(1,.str s),(7,.int .i64 (↑l.length)),(8,.int .i64 0)] ({boxes:=[],toks:=[],loops:=[]:Heap}) (fun T hT=>(h T hT)))
 have hf:decide (0≤fidxB (fun x=>x==s) l 0)=nmB l s:=fidxB_ge _ l 0
 rw[←hf]
 generalize fidxB (fun x=>x==s) l 0=c at h0⊢
 exact let ζ1:List AV:=[.sl .sh (List.map .str l),.str s];gG 60 [] trivial (.callK (ζ1) (.int .i64 c) h0<|.fin ((.ret (.bool (decide ((0:Int)≤c))),{boxes:=[],toks:=[],loops:=[]:Heap})) rfl)
def badP(s:St)(p:Pod):Bool:= !(p.node==[]||p.key==[])&&(!(skewS s p p.node).2||decide (p.most<(skewS s p p.node).1))
def badL(s:St)(l:List Pod):List (List UInt8):=(l.filter (badP s)).map Pod.name
def badS(s:St):List (List UInt8):=badL s s.pods
theorem badS_len(s:St):(badS s).length≤s.pods.length:=by
 unfold badS badL
 rw[List.length_map];exact List.length_filter_le _ _
theorem bad_yes{s:St}{p:Pod}{l:List Pod}(h:badP s p=true):badL s (p::l)=p.name::badL s l:=by simp[badL,List.filter_cons,h]
theorem bad_no{s:St}{p:Pod}{l:List Pod}(h:badP s p=false):badL s (p::l)=badL s l:=by simp[badL,List.filter_cons,h]
theorem ap_S{acc:List (List UInt8)}(x:List UInt8)(hn:acc.length≤100000)(bs:List (List AV))(ls:List LRec):
 appendA 1 16 ⟨bs,tkR .str acc,ls⟩ (rowF .str acc) (.sl .full [.str x])=some (rowF .str (acc++[x]),⟨bs,tkR .str (acc++[x]),ls⟩):=
 row_append_T AV.str (x:=x) (by simp;omega) (lenOk_map fun _=>rfl) rfl rfl
theorem bad_loop(s:St)(hp:s.pods.length≤1000)(hs:s.nodes.length≤1000)(hl:∀n∈s.nodes,n.labels.length<9223372036854775807):
 ∀(post:List Pod)(i:Nat)(hd:s.pods.drop i=post)(acc:List (List UInt8))(ha:acc.length≤i)(ex:List (List AV))(T:Env)
 (hT:Has T [(1,.ptr 0 0),(3,rowF .str acc),(9,.sl .sh (s.pods.map encPd)),(10,.int .i64 s.pods.length),(11,.int .i64 i)]),
 Goes cfg a137 k137_0 T ⟨(encSt s).cells::ex,tkR .str acc,[]⟩ (IsRet (rowF .str (acc++badL s post))):=by
 intro post
 induction post with
 |nil=>
  intro i hd acc ha ex T hT
  have hge:=drop_ge hd
  rw[show acc++badL s []=acc by simp[badL]]
  exact gG 60 _ hT (.no (dF ((↑i:Int)<(↑s.pods.length:Int)))<|.fin ((.ret (.sl (skF acc) (List.map .str acc)),{boxes:=[.sl .sh (s.nodes.map encN),.sl .sh (s.pods.map encPd),.sl .sh (s.buds.map encB)]::ex,toks:=tkR .str acc,loops:=[]:Heap})) rfl)
 |cons x post ih=>
  intro i hd acc ha ex T hT
  have hlt:=drop_lt hd
  have hnx:=drop_next hd
  have hxi:idxA 11 (.sl .sh (s.pods.map encPd)) (.int .i64 (i:Nat))=some (.ref (encPd x).cells):=idx_row (f:=encPd) hd rfl
  have hk:=skew_any s x x.node hp hs hl
  have ap:=ap_S (acc:=acc) x.name (by omega)
  have no:=fun(h:badP s x=false)=>ih (i+1) hnx acc (by omega) (ex++[(encPd x).cells])
  have yes:=ih (i+1) hnx (acc++[x.name]) (by simp;omega) (ex++[(encPd x).cells])
  by_cases h1:x.node=[]
  ·have e:badP s x=false:=by simp[badP,h1]
   rw[bad_no e]
   have n1:=no e
   exact let ζ1:List AV:=[.str x.name,.str x.owner,.int .i64 x.prio,.sl .sh (x.need.map encA),.sl .sh (x.labels.map encP),.sl .sh (x.sel.map encM),.sl .sh (x.tols.map encL),.str x.key,.int .i64 x.most,.str x.node,.bool x.hold];let ζ2:List AV:=[.sl .sh (s.nodes.map encN),.sl .sh (s.pods.map encPd),.sl .sh (s.buds.map encB)];let ζ3:List AV:=[.str [],.str [],.int .i64 0,.sl .full [],.sl .full [],.sl .full [],.sl .full [],.str [],.int .i64 0,.str [],.bool false];let ζ4:Heap:={boxes:=ζ2::(ex++[ζ1]),toks:=tkR .str acc,loops:=[]:Heap};gG 120 _ hT (.yes (dT ((↑i:Int)<(↑s.pods.length:Int)))<|.idx hxi<|.load (rfl:loadA true 11 {boxes:=ζ2::ex,toks:=tkR .str acc,loops:=[]:Heap} (.ref ζ1)=some (.agg ζ1))<|.store (show storeA 11 {boxes:=ζ2::(ex++[ζ3]),toks:=tkR .str acc,loops:=[]:Heap} (.ptr (ζ2::ex).length 0) (.agg ζ1)=some (ζ4)from store_box2 (cs:=ζ3) (cs':=ζ1) (by simp+zetaDelta) rfl (by simp+zetaDelta [List.set_append]))<|.load (show loadA false 1 ζ4 (.ptr (ζ2::ex).length 9)=some (.str x.node)from load_box (cs:=ζ1) (by simp+zetaDelta) rfl)<|.yes (show(x.node==[])=true from(by simpa using h1))<|.tt<|.bin (iI i)<|.cutQ k137_0 [(1,.ptr 0 0),(3,.sl (skF acc) (List.map .str acc)),(9,.sl .sh (s.pods.map encPd)),(10,.int .i64 (↑s.pods.length)),(11,.int .i64 (↑(i+1)))] (ζ4) (fun T hT=>(n1 T hT)))
  ·by_cases h2:x.key=[]
   ·have e:badP s x=false:=by simp[badP,h2]
    rw[bad_no e]
    have n1:=no e
    exact let ζ1:List AV:=[.str x.name,.str x.owner,.int .i64 x.prio,.sl .sh (x.need.map encA),.sl .sh (x.labels.map encP),.sl .sh (x.sel.map encM),.sl .sh (x.tols.map encL),.str x.key,.int .i64 x.most,.str x.node,.bool x.hold];let ζ2:List AV:=[.sl .sh (s.nodes.map encN),.sl .sh (s.pods.map encPd),.sl .sh (s.buds.map encB)];let ζ3:Heap:={boxes:=ζ2::(ex++[ζ1]),toks:=tkR .str acc,loops:=[]:Heap};let ζ4:List AV:=[.str [],.str [],.int .i64 0,.sl .full [],.sl .full [],.sl .full [],.sl .full [],.str [],.int .i64 0,.str [],.bool false];gG 120 _ hT (.yes (dT ((↑i:Int)<(↑s.pods.length:Int)))<|.idx hxi<|.load (rfl:loadA true 11 {boxes:=ζ2::ex,toks:=tkR .str acc,loops:=[]:Heap} (.ref ζ1)=some (.agg ζ1))<|.store (show storeA 11 {boxes:=ζ2::(ex++[ζ4]),toks:=tkR .str acc,loops:=[]:Heap} (.ptr (ζ2::ex).length 0) (.agg ζ1)=some (ζ3)from store_box2 (cs:=ζ4) (cs':=ζ1) (by simp+zetaDelta) rfl (by simp+zetaDelta [List.set_append]))<|.load (show loadA false 1 ζ3 (.ptr (ζ2::ex).length 9)=some (.str x.node)from load_box (cs:=ζ1) (by simp+zetaDelta) rfl)<|.no (show(x.node==[])=false from Bool.eq_false_iff.2 (by simpa using h1))<|.load (show loadA false 1 ζ3 (.ptr (ζ2::ex).length 7)=some (.str x.key)from load_box (cs:=ζ1) (by simp+zetaDelta) rfl)<|.yes (show(x.key==[])=true from(by simpa using h2))<|.bin (iI i)<|.cutQ k137_0 [(1,.ptr 0 0),(3,.sl (skF acc) (List.map .str acc)),(9,.sl .sh (s.pods.map encPd)),(10,.int .i64 (↑s.pods.length)),(11,.int .i64 (↑(i+1)))] (ζ3) (fun T hT=>(n1 T hT)))
   ·have e:badP s x=(!(skewS s x x.node).2||decide (x.most<(skewS s x x.node).1)):=by simp[badP,h1,h2]
    generalize skewS s x x.node=z at hk e
    obtain⟨k,ok⟩:=z
    simp only at hk e
    cases ok with
    |false=>
     have e':badP s x=true:=by rw[e];rfl
     rw[bad_yes e',show acc++x.name::badL s post=(acc++[x.name])++badL s post by simp]
     exact let ζ1:List AV:=[.str x.name,.str x.owner,.int .i64 x.prio,.sl .sh (x.need.map encA),.sl .sh (x.labels.map encP),.sl .sh (x.sel.map encM),.sl .sh (x.tols.map encL),.str x.key,.int .i64 x.most,.str x.node,.bool x.hold];let ζ2:List AV:=[.sl .sh (s.nodes.map encN),.sl .sh (s.pods.map encPd),.sl .sh (s.buds.map encB)];let ζ3:Heap:={boxes:=ζ2::(ex++[ζ1]),toks:=tkR .str acc,loops:=[]:Heap};let ζ4:List AV:=[.str [],.str [],.int .i64 0,.sl .full [],.sl .full [],.sl .full [],.sl .full [],.str [],.int .i64 0,.str [],.bool false];let ζ5:Heap:={boxes:=ζ2::(ex++[ζ1]),toks:=tkR .str (acc++[x.name]),loops:=[]:Heap};gG 160 _ hT (.yes (dT ((↑i:Int)<(↑s.pods.length:Int)))<|.idx hxi<|.load (rfl:loadA true 11 {boxes:=ζ2::ex,toks:=tkR .str acc,loops:=[]:Heap} (.ref ζ1)=some (.agg ζ1))<|.store (show storeA 11 {boxes:=ζ2::(ex++[ζ4]),toks:=tkR .str acc,loops:=[]:Heap} (.ptr (ζ2::ex).length 0) (.agg ζ1)=some (ζ3)from store_box2 (cs:=ζ4) (cs':=ζ1) (by simp+zetaDelta) rfl (by simp+zetaDelta [List.set_append]))<|.load (show loadA false 1 ζ3 (.ptr (ζ2::ex).length 9)=some (.str x.node)from load_box (cs:=ζ1) (by simp+zetaDelta) rfl)<|.no (show(x.node==[])=false from Bool.eq_false_iff.2 (by simpa using h1))<|.load (show loadA false 1 ζ3 (.ptr (ζ2::ex).length 7)=some (.str x.key)from load_box (cs:=ζ1) (by simp+zetaDelta) rfl)<|.no (show(x.key==[])=false from Bool.eq_false_iff.2 (by simpa using h2))<|.load (lB true 3 ζ3 0 0 (.agg ζ2) ζ2)<|.load (show loadA true 11 ζ3 (.ptr (ζ2::ex).length 0)=some (.agg ζ1)from load_box (cs:=ζ1) (by simp+zetaDelta) rfl)<|.load (show loadA false 1 ζ3 (.ptr (ζ2::ex).length 9)=some (.str x.node)from load_box (cs:=ζ1) (by simp+zetaDelta) rfl)<|.callK ([.agg ζ2,.agg ζ1,.str x.node]) (.tuple [.int .i64 k,.bool false]) hk<|.tt<|.tt<|.load (show loadA false 1 ζ3 (.ptr (ζ2::ex).length 0)=some (.str x.name)from load_box (cs:=ζ1) (by simp+zetaDelta) rfl)<|.append (show appendA 1 16 ζ3 (.sl (skF acc) (List.map .str acc)) (.sl .full [.str x.name])=some ((rowF .str (acc++[x.name]),ζ5))from ap _ _)<|.bin (iI i)<|.cutQ k137_0 [(1,.ptr 0 0),(3,.sl (skF (acc++[x.name])) (List.map .str (acc++[x.name]))),(9,.sl .sh (s.pods.map encPd)),(10,.int .i64 (↑s.pods.length)),(11,.int .i64 (↑(i+1)))] (ζ5) (fun T hT=>(yes T hT)))
    |true=>
     by_cases h3:x.most<k
     ·have e':badP s x=true:=by rw[e];simp[h3]
      rw[bad_yes e',show acc++x.name::badL s post=(acc++[x.name])++badL s post by simp]
      exact let ζ1:List AV:=[.str x.name,.str x.owner,.int .i64 x.prio,.sl .sh (x.need.map encA),.sl .sh (x.labels.map encP),.sl .sh (x.sel.map encM),.sl .sh (x.tols.map encL),.str x.key,.int .i64 x.most,.str x.node,.bool x.hold];let ζ2:List AV:=[.sl .sh (s.nodes.map encN),.sl .sh (s.pods.map encPd),.sl .sh (s.buds.map encB)];let ζ3:Heap:={boxes:=ζ2::(ex++[ζ1]),toks:=tkR .str acc,loops:=[]:Heap};let ζ4:List AV:=[.str [],.str [],.int .i64 0,.sl .full [],.sl .full [],.sl .full [],.sl .full [],.str [],.int .i64 0,.str [],.bool false];let ζ5:Heap:={boxes:=ζ2::(ex++[ζ1]),toks:=tkR .str (acc++[x.name]),loops:=[]:Heap};gG 160 _ hT (.yes (dT ((↑i:Int)<(↑s.pods.length:Int)))<|.idx hxi<|.load (rfl:loadA true 11 {boxes:=ζ2::ex,toks:=tkR .str acc,loops:=[]:Heap} (.ref ζ1)=some (.agg ζ1))<|.store (show storeA 11 {boxes:=ζ2::(ex++[ζ4]),toks:=tkR .str acc,loops:=[]:Heap} (.ptr (ζ2::ex).length 0) (.agg ζ1)=some (ζ3)from store_box2 (cs:=ζ4) (cs':=ζ1) (by simp+zetaDelta) rfl (by simp+zetaDelta [List.set_append]))<|.load (show loadA false 1 ζ3 (.ptr (ζ2::ex).length 9)=some (.str x.node)from load_box (cs:=ζ1) (by simp+zetaDelta) rfl)<|.no (show(x.node==[])=false from Bool.eq_false_iff.2 (by simpa using h1))<|.load (show loadA false 1 ζ3 (.ptr (ζ2::ex).length 7)=some (.str x.key)from load_box (cs:=ζ1) (by simp+zetaDelta) rfl)<|.no (show(x.key==[])=false from Bool.eq_false_iff.2 (by simpa using h2))<|.load (lB true 3 ζ3 0 0 (.agg ζ2) ζ2)<|.load (show loadA true 11 ζ3 (.ptr (ζ2::ex).length 0)=some (.agg ζ1)from load_box (cs:=ζ1) (by simp+zetaDelta) rfl)<|.load (show loadA false 1 ζ3 (.ptr (ζ2::ex).length 9)=some (.str x.node)from load_box (cs:=ζ1) (by simp+zetaDelta) rfl)<|.callK ([.agg ζ2,.agg ζ1,.str x.node]) (.tuple [.int .i64 k,.bool true]) hk<|.ff<|.load (show loadA false 1 ζ3 (.ptr (ζ2::ex).length 8)=some (.int .i64 x.most)from load_box (cs:=ζ1) (by simp+zetaDelta) rfl)<|.yes (dT (x.most<k))<|.load (show loadA false 1 ζ3 (.ptr (ζ2::ex).length 0)=some (.str x.name)from load_box (cs:=ζ1) (by simp+zetaDelta) rfl)<|.append (show appendA 1 16 ζ3 (.sl (skF acc) (List.map .str acc)) (.sl .full [.str x.name])=some ((rowF .str (acc++[x.name]),ζ5))from ap _ _)<|.bin (iI i)<|.cutQ k137_0 [(1,.ptr 0 0),(3,.sl (skF (acc++[x.name])) (List.map .str (acc++[x.name]))),(9,.sl .sh (s.pods.map encPd)),(10,.int .i64 (↑s.pods.length)),(11,.int .i64 (↑(i+1)))] (ζ5) (fun T hT=>(yes T hT)))
     ·have e':badP s x=false:=by rw[e];simp[h3]
      rw[bad_no e']
      have n1:=no e'
      exact let ζ1:List AV:=[.str x.name,.str x.owner,.int .i64 x.prio,.sl .sh (x.need.map encA),.sl .sh (x.labels.map encP),.sl .sh (x.sel.map encM),.sl .sh (x.tols.map encL),.str x.key,.int .i64 x.most,.str x.node,.bool x.hold];let ζ2:List AV:=[.sl .sh (s.nodes.map encN),.sl .sh (s.pods.map encPd),.sl .sh (s.buds.map encB)];let ζ3:Heap:={boxes:=ζ2::(ex++[ζ1]),toks:=tkR .str acc,loops:=[]:Heap};let ζ4:List AV:=[.str [],.str [],.int .i64 0,.sl .full [],.sl .full [],.sl .full [],.sl .full [],.str [],.int .i64 0,.str [],.bool false];gG 160 _ hT (.yes (dT ((↑i:Int)<(↑s.pods.length:Int)))<|.idx hxi<|.load (rfl:loadA true 11 {boxes:=ζ2::ex,toks:=tkR .str acc,loops:=[]:Heap} (.ref ζ1)=some (.agg ζ1))<|.store (show storeA 11 {boxes:=ζ2::(ex++[ζ4]),toks:=tkR .str acc,loops:=[]:Heap} (.ptr (ζ2::ex).length 0) (.agg ζ1)=some (ζ3)from store_box2 (cs:=ζ4) (cs':=ζ1) (by simp+zetaDelta) rfl (by simp+zetaDelta [List.set_append]))<|.load (show loadA false 1 ζ3 (.ptr (ζ2::ex).length 9)=some (.str x.node)from load_box (cs:=ζ1) (by simp+zetaDelta) rfl)<|.no (show(x.node==[])=false from Bool.eq_false_iff.2 (by simpa using h1))<|.load (show loadA false 1 ζ3 (.ptr (ζ2::ex).length 7)=some (.str x.key)from load_box (cs:=ζ1) (by simp+zetaDelta) rfl)<|.no (show(x.key==[])=false from Bool.eq_false_iff.2 (by simpa using h2))<|.load (lB true 3 ζ3 0 0 (.agg ζ2) ζ2)<|.load (show loadA true 11 ζ3 (.ptr (ζ2::ex).length 0)=some (.agg ζ1)from load_box (cs:=ζ1) (by simp+zetaDelta) rfl)<|.load (show loadA false 1 ζ3 (.ptr (ζ2::ex).length 9)=some (.str x.node)from load_box (cs:=ζ1) (by simp+zetaDelta) rfl)<|.callK ([.agg ζ2,.agg ζ1,.str x.node]) (.tuple [.int .i64 k,.bool true]) hk<|.ff<|.load (show loadA false 1 ζ3 (.ptr (ζ2::ex).length 8)=some (.int .i64 x.most)from load_box (cs:=ζ1) (by simp+zetaDelta) rfl)<|.no (dF (x.most<k))<|.bin (iI i)<|.cutQ k137_0 [(1,.ptr 0 0),(3,.sl (skF acc) (List.map .str acc)),(9,.sl .sh (s.pods.map encPd)),(10,.int .i64 (↑s.pods.length)),(11,.int .i64 (↑(i+1)))] (ζ3) (fun T hT=>(n1 T hT)))
theorem bad_any(s:St)(hp:s.pods.length≤1000)(hs:s.nodes.length≤1000)(hl:∀n∈s.nodes,n.labels.length<9223372036854775807):Gives cfg 137 [encSt s] (rowF .str (badS s)):=by
 refine Gives.run (l137 _ _) ?_
 have h:=bad_loop s hp hs hl s.pods 0 rfl [] (by simp) []
 have e:rowF AV.str ([]:List (List UInt8))=.sl .full []:=rfl
 rw[e,tk_nil,List.nil_append]at h
 rw[show badS s=badL s s.pods from rfl]
 exact gG 60 [] trivial (.len (lM .sh encPd s.pods)<|.cutQ k137_0 [(1,.ptr 0 0),(3,.sl .full []),(9,.sl .sh (s.pods.map encPd)),(10,.int .i64 (↑s.pods.length)),(11,.int .i64 0)] ({boxes:=[[.sl .sh (s.nodes.map encN),.sl .sh (s.pods.map encPd),.sl .sh (s.buds.map encB)]],toks:=[],loops:=[]:Heap}) (fun T hT=>(h T hT)))
end Go.Aa.T
set_option linter.unusedVariables false
set_option linter.unusedSimpArgs false
set_option maxRecDepth 100000
namespace Go.Aa.T
open Go.Aa Go.Proofs
theorem trunc_fn{B:List (List AV)}{nb k o:Nat}{g:FuncId}{cs:List AV}(hl:nb≤k):trunc nb 0 (.func g (.ptr k o::cs)) ⟨B,[],[]⟩=⟨B,[],[]⟩:=by
 unfold trunc
 have hw:within nb 0 (.func g (.ptr k o::cs))=false:=by
  have:¬k<nb:=by omega
  simp[within,in2,in1,in0,this]
 simp only[hw,List.length_nil,List.all_nil,Bool.true_and,Bool.and_false,Bool.false_and,Bool.false_eq_true,if_false,List.take_zero,ite_self]
theorem does_cl{B ex:List (List AV)}{tk:List Nat}{g:FuncId}{k o:Nat}{cs:List AV}{x:AV}{b:Bool}(h:lim cfg (.fn g) ([x]++(.ptr k o::cs)) ⟨B,tk,[]⟩=some (.ret (.bool b),⟨B++ex,tk,[]⟩))(hx:shutA x=x)(hB:B.all (·.all data0)=true):
 Does cfg (.call (.c (.func g (.ptr k o::cs))) [.c x]) ⟨B,tk,[]⟩ (.bool b) ⟨B,tk,[]⟩:=by
 have hd:=does_callE (xs:=[x]) (caps:=.ptr k o::cs) h (by show [shutA x]=[x];rw[hx]) (by show(([x].all isData)&&(Go.Aa.data0 (.ptr k o)&&cs.all data0))=false;rw[show Go.Aa.data0 (.ptr k o)=false from rfl,Bool.false_and,Bool.and_false])
 rw[show shutA (.bool b)=.bool b from rfl,show(⟨B,tk,[]⟩:Heap).boxes.length=B.length from rfl,show(⟨B,tk,[]⟩:Heap).toks.length=tk.length from rfl,trunc_plain hB]at hd
 exact hd
section
variable{H:Heap}{g:FuncId}{k:Nat}{p:Pod→Bool}
theorem idxPd_loop(hd:∀y:Pod,Does cfg (.call (.c (.func g [.ptr k 0])) [.c (encPd y)]) H (.bool (p y)) H)(l:List Pod)(hn:l.length<9223372036854775807):∀(post:List Pod)(i:Nat)(hdr:l.drop i=post)(T:Env)
 (hT:Has T [(0,.sl .sh (l.map encPd)),(1,.func g [.ptr k 0]),(7,.int .i64 l.length),(8,.int .i64 i)]),
 Goes cfg a217 k217_0 T H (fun r=>r=(.ret (.int .i64 (fidxB p post i)),H)):=by
 intro post
 induction post with
 |nil=>
  intro i hdr T hT
  have hge:=drop_ge hdr
  exact gG 60 _ hT (.no (dF ((↑i:Int)<(↑l.length:Int)))<|.fin ((.ret (.int .i64 (-1:Int)),H)) rfl)
 |cons x post ih=>
  intro i hdr T hT
  have hlt:=drop_lt hdr
  have hnx:=drop_next hdr
  have hdx:=hd x
  cases hp:p x with
  |true=>
   rw[hp]at hdx
   have e:fidxB p (x::post) i=i:=by simp[fidxB,hp]
   rw[e]
   exact let ζ1:List AV:=[.str x.name,.str x.owner,.int .i64 x.prio,.sl .sh (x.need.map encA),.sl .sh (x.labels.map encP),.sl .sh (x.sel.map encM),.sl .sh (x.tols.map encL),.str x.key,.int .i64 x.most,.str x.node,.bool x.hold];gG 60 _ hT (.yes (dT ((↑i:Int)<(↑l.length:Int)))<|.idx (iR 11 encPd hdr)<|.load (rfl:loadA true 11 H (.ref ζ1)=some (.agg ζ1))<|.effY hdx<|.tt<|.fin ((.ret (.int .i64 ↑i),H)) rfl)
  |false=>
   rw[hp]at hdx
   have e:fidxB p (x::post) i=fidxB p post (i+1):=by simp[fidxB,hp]
   rw[e]
   exact let ζ1:List AV:=[.str x.name,.str x.owner,.int .i64 x.prio,.sl .sh (x.need.map encA),.sl .sh (x.labels.map encP),.sl .sh (x.sel.map encM),.sl .sh (x.tols.map encL),.str x.key,.int .i64 x.most,.str x.node,.bool x.hold];gG 60 _ hT (.yes (dT ((↑i:Int)<(↑l.length:Int)))<|.idx (iR 11 encPd hdr)<|.load (rfl:loadA true 11 H (.ref ζ1)=some (.agg ζ1))<|.effY hdx<|.ff<|.bin (iI i)<|.cutQ k217_0 [(0,.sl .sh (l.map encPd)),(1,.func g [.ptr k 0]),(7,.int .i64 (↑l.length)),(8,.int .i64 (↑(i+1)))] (H) (fun T hT=>(ih (i+1) hnx T hT)))
theorem anyPd(hd:∀y:Pod,Does cfg (.call (.c (.func g [.ptr k 0])) [.c (encPd y)]) H (.bool (p y)) H)(l:List Pod)(hn:l.length<9223372036854775807):
 Does cfg (.call (.c (.func 141 [])) [.c (.sl .sh (l.map encPd)),.c (.func g [.ptr k 0])]) H (.bool (l.any p)) H:=by
 have hl:lim cfg (.fn 217) [.sl .sh (l.map encPd),.func g [.ptr k 0]] H=some (.ret (.int .i64 (fidxB p l 0)),H):=by
  rw[l217]
  have h:=idxPd_loop hd l hn l 0 rfl
  have key:Goes cfg a217 [.c c217] (initEnv [.sl .sh (l.map encPd),.func g [.ptr k 0]]) H (fun r=>r=(.ret (.int .i64 (fidxB p l 0)),H)):=by
   exact gG 60 [] trivial (.len (lM .sh encPd l)<|.cutQ k217_0 [(0,.sl .sh (l.map encPd)),(1,.func g [.ptr k 0]),(7,.int .i64 (↑l.length)),(8,.int .i64 0)] (H) (fun T hT=>(h T hT)))
  obtain⟨r,h,rfl⟩:=key
  exact h
 have h0:=does_callE (xs:=[.sl .sh (l.map encPd),.func g [.ptr k 0]]) (caps:=[]) hl rfl rfl
 rw[show shutA (.int .i64 (fidxB p l 0))=.int .i64 (fidxB p l 0)from rfl,trunc_self]at h0
 have hf:decide (0≤fidxB p l 0)=l.any p:=fidxB_ge p l 0
 have key:Goes cfg a141 [.c c141] (initEnv [.sl .sh (l.map encPd),.func g [.ptr k 0]]) H (fun r=>r=(.ret (.bool (l.any p)),H)):=by
  rw[←hf]
  generalize fidxB p l 0=c at h0
  exact gG 60 [] trivial (.effY h0<|.fin ((.ret (.bool (decide ((0:Int)≤c))),H)) rfl)
 obtain⟨r,h,rfl⟩:=key
 have h2:lim cfg (.fn 141) ([.sl .sh (l.map encPd),.func g [.ptr k 0]]++[]) H=some (.ret (.bool (l.any p)),H):=by
  rw[l141];exact h
 have h3:=does_callE (xs:=[.sl .sh (l.map encPd),.func g [.ptr k 0]]) (caps:=[]) h2 rfl rfl
 rwa [show shutA (.bool (l.any p))=.bool (l.any p)from rfl,trunc_self]at h3
end
section
variable{H:Heap}{g:FuncId}{k j:Nat}{p:Node→Bool}
theorem idxNd_loop(hd:∀y:Node,Does cfg (.call (.c (.func g [.ptr k 0,.ptr j 0])) [.c (encN y)]) H (.bool (p y)) H)(l:List Node)(hn:l.length<9223372036854775807):∀(post:List Node)(i:Nat)(hdr:l.drop i=post)(T:Env)
 (hT:Has T [(0,.sl .sh (l.map encN)),(1,.func g [.ptr k 0,.ptr j 0]),(7,.int .i64 l.length),(8,.int .i64 i)]),
 Goes cfg a218 k218_0 T H (fun r=>r=(.ret (.int .i64 (fidxB p post i)),H)):=by
 intro post
 induction post with
 |nil=>
  intro i hdr T hT
  have hge:=drop_ge hdr
  exact gG 60 _ hT (.no (dF ((↑i:Int)<(↑l.length:Int)))<|.fin ((.ret (.int .i64 (-1:Int)),H)) rfl)
 |cons x post ih=>
  intro i hdr T hT
  have hlt:=drop_lt hdr
  have hnx:=drop_next hdr
  have hdx:=hd x
  cases hp:p x with
  |true=>
   rw[hp]at hdx
   have e:fidxB p (x::post) i=i:=by simp[fidxB,hp]
   rw[e]
   exact let ζ1:List AV:=[.str x.name,.sl .sh (x.cap.map encA),.sl .sh (x.labels.map encP),.sl .sh (x.taints.map encT),.bool x.cordon];gG 60 _ hT (.yes (dT ((↑i:Int)<(↑l.length:Int)))<|.idx (iR 5 encN hdr)<|.load (rfl:loadA true 5 H (.ref ζ1)=some (.agg ζ1))<|.effY hdx<|.tt<|.fin ((.ret (.int .i64 ↑i),H)) rfl)
  |false=>
   rw[hp]at hdx
   have e:fidxB p (x::post) i=fidxB p post (i+1):=by simp[fidxB,hp]
   rw[e]
   exact let ζ1:List AV:=[.str x.name,.sl .sh (x.cap.map encA),.sl .sh (x.labels.map encP),.sl .sh (x.taints.map encT),.bool x.cordon];let ζ2:List AV:=[.ptr k 0,.ptr j 0];gG 60 _ hT (.yes (dT ((↑i:Int)<(↑l.length:Int)))<|.idx (iR 5 encN hdr)<|.load (rfl:loadA true 5 H (.ref ζ1)=some (.agg ζ1))<|.effY hdx<|.ff<|.bin (iI i)<|.cutQ k218_0 [(0,.sl .sh (l.map encN)),(1,.func g ζ2),(7,.int .i64 (↑l.length)),(8,.int .i64 (↑(i+1)))] (H) (fun T hT=>(ih (i+1) hnx T hT)))
theorem anyNd(hd:∀y:Node,Does cfg (.call (.c (.func g [.ptr k 0,.ptr j 0])) [.c (encN y)]) H (.bool (p y)) H)(l:List Node)(hn:l.length<9223372036854775807):
 Does cfg (.call (.c (.func 144 [])) [.c (.sl .sh (l.map encN)),.c (.func g [.ptr k 0,.ptr j 0])]) H (.bool (l.any p)) H:=by
 have hl:lim cfg (.fn 218) [.sl .sh (l.map encN),.func g [.ptr k 0,.ptr j 0]] H=some (.ret (.int .i64 (fidxB p l 0)),H):=by
  rw[l218]
  have h:=idxNd_loop hd l hn l 0 rfl
  have key:Goes cfg a218 [.c c218] (initEnv [.sl .sh (l.map encN),.func g [.ptr k 0,.ptr j 0]]) H (fun r=>r=(.ret (.int .i64 (fidxB p l 0)),H)):=by
   exact gG 60 [] trivial (.len (lM .sh encN l)<|.cutQ k218_0 [(0,.sl .sh (l.map encN)),(1,.func g [.ptr k 0,.ptr j 0]),(7,.int .i64 (↑l.length)),(8,.int .i64 0)] (H) (fun T hT=>(h T hT)))
  obtain⟨r,h,rfl⟩:=key
  exact h
 have h0:=does_callE (xs:=[.sl .sh (l.map encN),.func g [.ptr k 0,.ptr j 0]]) (caps:=[]) hl rfl rfl
 rw[show shutA (.int .i64 (fidxB p l 0))=.int .i64 (fidxB p l 0)from rfl,trunc_self]at h0
 have hf:decide (0≤fidxB p l 0)=l.any p:=fidxB_ge p l 0
 have key:Goes cfg a144 [.c c144] (initEnv [.sl .sh (l.map encN),.func g [.ptr k 0,.ptr j 0]]) H (fun r=>r=(.ret (.bool (l.any p)),H)):=by
  rw[←hf]
  generalize fidxB p l 0=c at h0
  exact gG 60 [] trivial (.effY h0<|.fin ((.ret (.bool (decide ((0:Int)≤c))),H)) rfl)
 obtain⟨r,h,rfl⟩:=key
 have h2:lim cfg (.fn 144) ([.sl .sh (l.map encN),.func g [.ptr k 0,.ptr j 0]]++[]) H=some (.ret (.bool (l.any p)),H):=by
  rw[l144];exact h
 have h3:=does_callE (xs:=[.sl .sh (l.map encN),.func g [.ptr k 0,.ptr j 0]]) (caps:=[]) h2 rfl rfl
 rwa [show shutA (.bool (l.any p))=.bool (l.any p)from rfl,trunc_self]at h3
end
def wtB(s:St)(p:Pod):Bool:=(worstB p.tols ((findG Node.name s.nodes p.node).getD noN).taints).isSome
def twP(p x:Pod):Bool:=x.owner==p.owner&&(!x.hold&&Op.bytesLess x.name p.name)
def twB(s:St)(p:Pod):Bool:= !(p.owner==[])&&(onS s p.node).any (twP p)
structure StB(s:St):Prop where
 ins:StIn s
 nodes:s.nodes.length≤500
 cap:∀n∈s.nodes,n.cap.length≤1000
 nd:∀n∈s.nodes,NdIn n
 pd:∀p∈s.pods,PdIn p
theorem hp4(s:St){lo hi:AV}(hl:Fl lo)(hh:Fl hi){ex:List (List AV)}(he:ex.all (·.all data0)=true):((encSt s).cells::[lo,hi]::ex).all (·.all data0)=true:=by
 rw[List.all_cons,List.all_cons,he,encSt_d]
 show(true&&((Go.Aa.data0 lo&&(Go.Aa.data0 hi&&true))&&true))=true
 rw[hl.d0,hh.d0];rfl
theorem hp2(s:St){lo hi:AV}(hl:Fl lo)(hh:Fl hi){ex:List (List AV)}(he:ex.all (·.all data0)=true):((encSt s).cells::[lo,hi]::(encSt s).cells::[lo,hi]::ex).all (·.all data0)=true:=
 hp4 s hl hh (hp4 s hl hh he)
theorem cl136(s:St)(h:StB s){lo hi:AV}(hl:Fl lo)(hh:Fl hi)(tk:List Nat)(ex:List (List AV))(he:ex.all (·.all data0)=true)(x:Pod)(hx:PdIn x):
 Does cfg (.call (.c (.func 136 [.ptr 2 0])) [.c (encPd x)]) ⟨(encSt s).cells::[lo,hi]::(encSt s).cells::[lo,hi]::ex,tk,[]⟩ (.bool (wtB s x)) ⟨(encSt s).cells::[lo,hi]::(encSt s).cells::[lo,hi]::ex,tk,[]⟩:=by
 have f:=findN_any s.nodes x.node h.ins.nodes
 cases hf:findG Node.name s.nodes x.node with
 |none=>
  rw[hf]at f
  have w:=worst_any x.tols noN.taints hx.tols (by simp[noN])
  have e:wtB s x=(worstB x.tols noN.taints).isSome:=by unfold wtB;rw[hf];rfl
  have key:Goes cfg a136 [.c c136] (initEnv [encPd x,.ptr 2 0]) ⟨(encSt s).cells::[lo,hi]::(encSt s).cells::[lo,hi]::ex,tk,[]⟩ (fun r=>r=(.ret (.bool (wtB s x)),⟨(encSt s).cells::[lo,hi]::(encSt s).cells::[lo,hi]::(ex++[(encPd x).cells,(encN noN).cells,(encT ((worstB x.tols noN.taints).getD noT)).cells]),tk,[]⟩)):=by
   rw[e]
   have w:Gives cfg 84 [.sl .sh (x.tols.map encL),.sl .sh []] (worstV (worstB x.tols noN.taints)):=w
   unfold worstV at w
   generalize worstB x.tols noN.taints=q at w⊢
   exact let ζ1:List AV:=[.str x.name,.str x.owner,.int .i64 x.prio,.sl .sh (x.need.map encA),.sl .sh (x.labels.map encP),.sl .sh (x.sel.map encM),.sl .sh (x.tols.map encL),.str x.key,.int .i64 x.most,.str x.node,.bool x.hold];let ζ2:List AV:=[.sl .sh (s.nodes.map encN),.sl .sh (s.pods.map encPd),.sl .sh (s.buds.map encB)];let ζ3:List AV:=[.str [],.sl .sh [],.sl .sh [],.sl .sh [],.bool false];let ζ4:List AV:=[.str (q.getD noT).key,.str (q.getD noT).val,.bool (q.getD noT).hard];let ζ5:Heap:={boxes:=ζ2::[lo,hi]::ζ2::[lo,hi]::(ex++[ζ1,ζ3]),toks:=tk,loops:=[]:Heap};let ζ6:Heap:={boxes:=ζ2::[lo,hi]::ζ2::[lo,hi]::(ex++[ζ1,ζ3,ζ4]),toks:=tk,loops:=[]:Heap};let ζ7:Heap:={boxes:=ζ2::[lo,hi]::ζ2::[lo,hi]::(ex++[ζ1]),toks:=tk,loops:=[]:Heap};let ζ8:List AV:=[.str [],.sl .full [],.sl .full [],.sl .full [],.bool false];let ζ9:List AV:=[.sl .sh (s.nodes.map encN),.str x.node];let ζ10:List AV:=[.sl .sh (x.tols.map encL),.sl .sh []];gG 120 [] trivial (.load (lB false 1 ζ7 2 0 (.sl .sh (s.nodes.map encN)) ζ2)<|.load (show loadA false 1 ζ7 (.ptr (ζ2::[lo,hi]::ζ2::[lo,hi]::ex).length 9)=some (.str x.node)from load_box (cs:=ζ1) (by simp+zetaDelta) rfl)<|.callK (ζ9) (.tuple [.agg ζ3,.bool false]) f<|.store (show storeA 5 {boxes:=ζ2::[lo,hi]::ζ2::[lo,hi]::(ex++[ζ1]++[ζ8]),toks:=tk,loops:=[]:Heap} (.ptr (ζ2::[lo,hi]::ζ2::[lo,hi]::(ex++[ζ1])).length 0) (.agg ζ3)=some (ζ5)from store_box2 (cs:=ζ8) (cs':=ζ3) (by simp+zetaDelta) rfl (by simp+zetaDelta [List.set_append]))<|.load (show loadA false 1 ζ5 (.ptr (ζ2::[lo,hi]::ζ2::[lo,hi]::ex).length 6)=some (.sl .sh (x.tols.map encL))from load_box (cs:=ζ1) (by simp+zetaDelta) rfl)<|.load (show loadA false 1 ζ5 (.ptr (ζ2::[lo,hi]::ζ2::[lo,hi]::(ex++[ζ1])).length 3)=some (.sl .sh [])from load_box (cs:=ζ3) (by simp+zetaDelta) rfl)<|.callK (ζ10) (.tuple [.agg ζ4,.bool q.isSome]) w<|.store (show storeA 3 {boxes:=ζ2::[lo,hi]::ζ2::[lo,hi]::(ex++[ζ1,ζ3]++[[AV.str [],.str [],.bool false]]),toks:=tk,loops:=[]:Heap} (.ptr (ζ2::[lo,hi]::ζ2::[lo,hi]::(ex++[ζ1,ζ3])).length 0) (.agg ζ4)=some (ζ6)from store_box2 (cs:=[.str [],.str [],.bool false]) (cs':=ζ4) (by simp+zetaDelta) rfl (by simp+zetaDelta [List.set_append]))<|.fin ((.ret (.bool q.isSome),ζ6)) rfl)
  obtain⟨r,h1,rfl⟩:=key
  exact does_cl (ex:=[(encPd x).cells,(encN noN).cells,(encT ((worstB x.tols noN.taints).getD noT)).cells]) (by rw[show [encPd x]++[AV.ptr 2 0]=[encPd x,.ptr 2 0]from rfl,l136,h1];simp) rfl (hp2 s hl hh he)
 |some n=>
  rw[hf]at f
  have w:=worst_any x.tols n.taints hx.tols (h.nd n (find_in hf)).taints
  have e:wtB s x=(worstB x.tols n.taints).isSome:=by unfold wtB;rw[hf];rfl
  have key:Goes cfg a136 [.c c136] (initEnv [encPd x,.ptr 2 0]) ⟨(encSt s).cells::[lo,hi]::(encSt s).cells::[lo,hi]::ex,tk,[]⟩ (fun r=>r=(.ret (.bool (wtB s x)),⟨(encSt s).cells::[lo,hi]::(encSt s).cells::[lo,hi]::(ex++[(encPd x).cells,(encN n).cells,(encT ((worstB x.tols n.taints).getD noT)).cells]),tk,[]⟩)):=by
   rw[e]
   unfold worstV at w
   generalize worstB x.tols n.taints=q at w⊢
   exact let ζ1:List AV:=[.str x.name,.str x.owner,.int .i64 x.prio,.sl .sh (x.need.map encA),.sl .sh (x.labels.map encP),.sl .sh (x.sel.map encM),.sl .sh (x.tols.map encL),.str x.key,.int .i64 x.most,.str x.node,.bool x.hold];let ζ2:List AV:=[.sl .sh (s.nodes.map encN),.sl .sh (s.pods.map encPd),.sl .sh (s.buds.map encB)];let ζ3:List AV:=[.str n.name,.sl .sh (n.cap.map encA),.sl .sh (n.labels.map encP),.sl .sh (n.taints.map encT),.bool n.cordon];let ζ4:List AV:=[.str (q.getD noT).key,.str (q.getD noT).val,.bool (q.getD noT).hard];let ζ5:Heap:={boxes:=ζ2::[lo,hi]::ζ2::[lo,hi]::(ex++[ζ1,ζ3]),toks:=tk,loops:=[]:Heap};let ζ6:Heap:={boxes:=ζ2::[lo,hi]::ζ2::[lo,hi]::(ex++[ζ1,ζ3,ζ4]),toks:=tk,loops:=[]:Heap};let ζ7:Heap:={boxes:=ζ2::[lo,hi]::ζ2::[lo,hi]::(ex++[ζ1]),toks:=tk,loops:=[]:Heap};let ζ8:List AV:=[.str [],.sl .full [],.sl .full [],.sl .full [],.bool false];let ζ9:List AV:=[.sl .sh (x.tols.map encL),.sl .sh (n.taints.map encT)];let ζ10:List AV:=[.sl .sh (s.nodes.map encN),.str x.node];gG 120 [] trivial (.load (lB false 1 ζ7 2 0 (.sl .sh (s.nodes.map encN)) ζ2)<|.load (show loadA false 1 ζ7 (.ptr (ζ2::[lo,hi]::ζ2::[lo,hi]::ex).length 9)=some (.str x.node)from load_box (cs:=ζ1) (by simp+zetaDelta) rfl)<|.callK (ζ10) (.tuple [.agg ζ3,.bool true]) f<|.store (show storeA 5 {boxes:=ζ2::[lo,hi]::ζ2::[lo,hi]::(ex++[ζ1]++[ζ8]),toks:=tk,loops:=[]:Heap} (.ptr (ζ2::[lo,hi]::ζ2::[lo,hi]::(ex++[ζ1])).length 0) (.agg ζ3)=some (ζ5)from store_box2 (cs:=ζ8) (cs':=ζ3) (by simp+zetaDelta) rfl (by simp+zetaDelta [List.set_append]))<|.load (show loadA false 1 ζ5 (.ptr (ζ2::[lo,hi]::ζ2::[lo,hi]::ex).length 6)=some (.sl .sh (x.tols.map encL))from load_box (cs:=ζ1) (by simp+zetaDelta) rfl)<|.load (show loadA false 1 ζ5 (.ptr (ζ2::[lo,hi]::ζ2::[lo,hi]::(ex++[ζ1])).length 3)=some (.sl .sh (n.taints.map encT))from load_box (cs:=ζ3) (by simp+zetaDelta) rfl)<|.callK (ζ9) (.tuple [.agg ζ4,.bool q.isSome]) w<|.store (show storeA 3 {boxes:=ζ2::[lo,hi]::ζ2::[lo,hi]::(ex++[ζ1,ζ3]++[[AV.str [],.str [],.bool false]]),toks:=tk,loops:=[]:Heap} (.ptr (ζ2::[lo,hi]::ζ2::[lo,hi]::(ex++[ζ1,ζ3])).length 0) (.agg ζ4)=some (ζ6)from store_box2 (cs:=[.str [],.str [],.bool false]) (cs':=ζ4) (by simp+zetaDelta) rfl (by simp+zetaDelta [List.set_append]))<|.fin ((.ret (.bool q.isSome),ζ6)) rfl)
  obtain⟨r,h1,rfl⟩:=key
  exact does_cl (ex:=[(encPd x).cells,(encN n).cells,(encT ((worstB x.tols n.taints).getD noT)).cells]) (by rw[show [encPd x]++[AV.ptr 2 0]=[encPd x,.ptr 2 0]from rfl,l136,h1];simp) rfl (hp2 s hl hh he)
theorem cl138(s:St)(h:StB s){lo hi:AV}(hl:Fl lo)(hh:Fl hi)(tk:List Nat)(l:List (List UInt8))(hn:l.length<9223372036854775807)(ex:List (List AV))(he:ex.all (·.all data0)=true)(x:Pod):
 Does cfg (.call (.c (.func 138 [.ptr 4 0])) [.c (encPd x)]) ⟨(encSt s).cells::[lo,hi]::(encSt s).cells::[lo,hi]::[.sl .sh (l.map .str)]::ex,tk,[]⟩ (.bool (nmB l x.name)) ⟨(encSt s).cells::[lo,hi]::(encSt s).cells::[lo,hi]::[.sl .sh (l.map .str)]::ex,tk,[]⟩:=by
 have c:=ctS_any l x.name hn
 have key:Goes cfg a138 [.c c138] (initEnv [encPd x,.ptr 4 0]) ⟨(encSt s).cells::[lo,hi]::(encSt s).cells::[lo,hi]::[.sl .sh (l.map .str)]::ex,tk,[]⟩ (fun r=>r=(.ret (.bool (nmB l x.name)),⟨(encSt s).cells::[lo,hi]::(encSt s).cells::[lo,hi]::[.sl .sh (l.map .str)]::(ex++[(encPd x).cells]),tk,[]⟩)):=by
  exact let ζ2:List AV:=[.sl .sh (s.nodes.map encN),.sl .sh (s.pods.map encPd),.sl .sh (s.buds.map encB)];let ζ1:Heap:={boxes:=ζ2::[lo,hi]::ζ2::[lo,hi]::[.sl .sh (List.map .str l)]::(ex++[[AV.str x.name,.str x.owner,.int .i64 x.prio,.sl .sh (x.need.map encA),.sl .sh (x.labels.map encP),.sl .sh (x.sel.map encM),.sl .sh (x.tols.map encL),.str x.key,.int .i64 x.most,.str x.node,.bool x.hold]]),toks:=tk,loops:=[]:Heap};let ζ3:List AV:=[.sl .sh (List.map .str l),.str x.name];gG 120 [] trivial (.load (lB false 1 ζ1 4 0 (.sl .sh (List.map .str l)) [.sl .sh (List.map .str l)])<|.load (show loadA false 1 ζ1 (.ptr (ζ2::[lo,hi]::ζ2::[lo,hi]::[.sl .sh (List.map .str l)]::ex).length 0)=some (.str x.name)from load_box (cs:=[.str x.name,.str x.owner,.int .i64 x.prio,.sl .sh (x.need.map encA),.sl .sh (x.labels.map encP),.sl .sh (x.sel.map encM),.sl .sh (x.tols.map encL),.str x.key,.int .i64 x.most,.str x.node,.bool x.hold]) (by simp+zetaDelta) rfl)<|.callK (ζ3) (.bool (nmB l x.name)) c<|.fin ((.ret (.bool (nmB l x.name)),ζ1)) rfl)
 obtain⟨r,h1,rfl⟩:=key
 exact does_cl (ex:=[(encPd x).cells]) (by rw[show [encPd x]++[AV.ptr 4 0]=[encPd x,.ptr 4 0]from rfl,l138,h1];simp) rfl (hp2 s hl hh (by rw[List.all_cons,he];rfl))
theorem cl142(s:St)(h:StB s){lo hi:AV}(hl:Fl lo)(hh:Fl hi)(tk:List Nat)(ex:List (List AV))(he:ex.all (·.all data0)=true)(p x:Pod):
 Does cfg (.call (.c (.func 142 [.ptr (ex.length+4) 0])) [.c (encPd x)]) ⟨(encSt s).cells::[lo,hi]::(encSt s).cells::[lo,hi]::(ex++[(encPd p).cells]),tk,[]⟩ (.bool (twP p x)) ⟨(encSt s).cells::[lo,hi]::(encSt s).cells::[lo,hi]::(ex++[(encPd p).cells]),tk,[]⟩:=by
 have key:Goes cfg a142 [.c c142] (initEnv [encPd x,.ptr (ex.length+4) 0]) ⟨(encSt s).cells::[lo,hi]::(encSt s).cells::[lo,hi]::(ex++[(encPd p).cells]),tk,[]⟩ (fun r=>r=(.ret (.bool (twP p x)),⟨(encSt s).cells::[lo,hi]::(encSt s).cells::[lo,hi]::(ex++[(encPd p).cells]++[(encPd x).cells]),tk,[]⟩)):=by
  by_cases h1:x.owner=p.owner
  ·cases h2:x.hold with
   |true=>
    have e:twP p x=false:=by simp[twP,h1,h2]
    rw[e]
    exact let ζ2:List AV:=[.str p.name,.str p.owner,.int .i64 p.prio,.sl .sh (p.need.map encA),.sl .sh (p.labels.map encP),.sl .sh (p.sel.map encM),.sl .sh (p.tols.map encL),.str p.key,.int .i64 p.most,.str p.node,.bool p.hold];let ζ3:List AV:=[.sl .sh (s.nodes.map encN),.sl .sh (s.pods.map encPd),.sl .sh (s.buds.map encB)];let ζ4:List AV:=[.str x.name,.str x.owner,.int .i64 x.prio,.sl .sh (x.need.map encA),.sl .sh (x.labels.map encP),.sl .sh (x.sel.map encM),.sl .sh (x.tols.map encL),.str x.key,.int .i64 x.most,.str x.node,.bool x.hold];let ζ1:Heap:={boxes:=ζ3::[lo,hi]::ζ3::[lo,hi]::(ex++[ζ2]++[ζ4]),toks:=tk,loops:=[]:Heap};gG 120 [] trivial (.load (show loadA false 1 ζ1 (.ptr (ζ3::[lo,hi]::ζ3::[lo,hi]::(ex++[ζ2])).length 1)=some (.str x.owner)from load_box (cs:=ζ4) (by simp+zetaDelta) rfl)<|.load (lB false 1 ζ1 (ex.length+4) 1 (.str p.owner) ζ2)<|.yes (show(x.owner==p.owner)=true from(by simpa using h1))<|.load (show loadA false 1 ζ1 (.ptr (ζ3::[lo,hi]::ζ3::[lo,hi]::(ex++[ζ2])).length 10)=some (.bool x.hold)from load_box (cs:=ζ4) (by simp+zetaDelta) rfl)<|.no (show(!x.hold)=false from by have hh:x.hold=true:=(by simp+zetaDelta [h2]);simp[hh])<|.fin ((.ret (.bool false),ζ1)) rfl)
   |false=>
    have e:twP p x=Op.bytesLess x.name p.name:=by simp[twP,h1,h2]
    rw[e]
    exact let ζ2:List AV:=[.str p.name,.str p.owner,.int .i64 p.prio,.sl .sh (p.need.map encA),.sl .sh (p.labels.map encP),.sl .sh (p.sel.map encM),.sl .sh (p.tols.map encL),.str p.key,.int .i64 p.most,.str p.node,.bool p.hold];let ζ3:List AV:=[.sl .sh (s.nodes.map encN),.sl .sh (s.pods.map encPd),.sl .sh (s.buds.map encB)];let ζ4:List AV:=[.str x.name,.str x.owner,.int .i64 x.prio,.sl .sh (x.need.map encA),.sl .sh (x.labels.map encP),.sl .sh (x.sel.map encM),.sl .sh (x.tols.map encL),.str x.key,.int .i64 x.most,.str x.node,.bool x.hold];let ζ1:Heap:={boxes:=ζ3::[lo,hi]::ζ3::[lo,hi]::(ex++[ζ2]++[ζ4]),toks:=tk,loops:=[]:Heap};gG 120 [] trivial (.load (show loadA false 1 ζ1 (.ptr (ζ3::[lo,hi]::ζ3::[lo,hi]::(ex++[ζ2])).length 1)=some (.str x.owner)from load_box (cs:=ζ4) (by simp+zetaDelta) rfl)<|.load (lB false 1 ζ1 (ex.length+4) 1 (.str p.owner) ζ2)<|.yes (show(x.owner==p.owner)=true from(by simpa using h1))<|.load (show loadA false 1 ζ1 (.ptr (ζ3::[lo,hi]::ζ3::[lo,hi]::(ex++[ζ2])).length 10)=some (.bool x.hold)from load_box (cs:=ζ4) (by simp+zetaDelta) rfl)<|.yes (show(!x.hold)=true from by have hh:¬(x.hold=true):=(by simp+zetaDelta [h2]);simp[hh])<|.load (show loadA false 1 ζ1 (.ptr (ζ3::[lo,hi]::ζ3::[lo,hi]::(ex++[ζ2])).length 0)=some (.str x.name)from load_box (cs:=ζ4) (by simp+zetaDelta) rfl)<|.load (lB false 1 ζ1 (ex.length+4) 0 (.str p.name) ζ2)<|.fin ((.ret (.bool (Op.bytesLess x.name p.name)),ζ1)) rfl)
  ·have e:twP p x=false:=by simp[twP,h1]
   rw[e]
   exact let ζ2:List AV:=[.str p.name,.str p.owner,.int .i64 p.prio,.sl .sh (p.need.map encA),.sl .sh (p.labels.map encP),.sl .sh (p.sel.map encM),.sl .sh (p.tols.map encL),.str p.key,.int .i64 p.most,.str p.node,.bool p.hold];let ζ3:List AV:=[.sl .sh (s.nodes.map encN),.sl .sh (s.pods.map encPd),.sl .sh (s.buds.map encB)];let ζ1:Heap:={boxes:=ζ3::[lo,hi]::ζ3::[lo,hi]::(ex++[ζ2]++[[AV.str x.name,.str x.owner,.int .i64 x.prio,.sl .sh (x.need.map encA),.sl .sh (x.labels.map encP),.sl .sh (x.sel.map encM),.sl .sh (x.tols.map encL),.str x.key,.int .i64 x.most,.str x.node,.bool x.hold]]),toks:=tk,loops:=[]:Heap};gG 120 [] trivial (.load (show loadA false 1 ζ1 (.ptr (ζ3::[lo,hi]::ζ3::[lo,hi]::(ex++[ζ2])).length 1)=some (.str x.owner)from load_box (cs:=[.str x.name,.str x.owner,.int .i64 x.prio,.sl .sh (x.need.map encA),.sl .sh (x.labels.map encP),.sl .sh (x.sel.map encM),.sl .sh (x.tols.map encL),.str x.key,.int .i64 x.most,.str x.node,.bool x.hold]) (by simp+zetaDelta) rfl)<|.load (lB false 1 ζ1 (ex.length+4) 1 (.str p.owner) ζ2)<|.no (show(x.owner==p.owner)=false from Bool.eq_false_iff.2 (by simpa using h1))<|.ff<|.fin ((.ret (.bool false),ζ1)) rfl)
 obtain⟨r,h1,rfl⟩:=key
 exact does_cl (ex:=[(encPd x).cells]) (by rw[show [encPd x]++[AV.ptr (ex.length+4) 0]=[encPd x,.ptr (ex.length+4) 0]from rfl,l142,h1];simp) rfl (hp2 s hl hh (by rw[List.all_append,he];rfl))
theorem cl140(s:St)(h:StB s){lo hi:AV}(hl:Fl lo)(hh:Fl hi)(tk:List Nat)(ex:List (List AV))(he:ex.all (·.all data0)=true)(x:Pod):
 Does cfg (.call (.c (.func 140 [.ptr 2 0])) [.c (encPd x)]) ⟨(encSt s).cells::[lo,hi]::(encSt s).cells::[lo,hi]::ex,tk,[]⟩ (.bool (twB s x)) ⟨(encSt s).cells::[lo,hi]::(encSt s).cells::[lo,hi]::ex,tk,[]⟩:=by
 have o:=on_any s x.node h.ins.pods
 have hlen:=on_len s x.node
 have hp:=h.ins.pods
 have a:=anyPd (fun y=>cl142 s h hl hh tk ex he x y) (onS s x.node) (by omega)
 have key:Goes cfg a140 [.c c140] (initEnv [encPd x,.ptr 2 0]) ⟨(encSt s).cells::[lo,hi]::(encSt s).cells::[lo,hi]::ex,tk,[]⟩ (fun r=>r=(.ret (.bool (twB s x)),⟨(encSt s).cells::[lo,hi]::(encSt s).cells::[lo,hi]::(ex++[(encPd x).cells]),tk,[]⟩)):=by
  by_cases h1:x.owner=[]
  ·have e:twB s x=false:=by simp[twB,h1]
   rw[e]
   exact let ζ2:List AV:=[.sl .sh (s.nodes.map encN),.sl .sh (s.pods.map encPd),.sl .sh (s.buds.map encB)];let ζ1:Heap:={boxes:=ζ2::[lo,hi]::ζ2::[lo,hi]::(ex++[[AV.str x.name,.str x.owner,.int .i64 x.prio,.sl .sh (x.need.map encA),.sl .sh (x.labels.map encP),.sl .sh (x.sel.map encM),.sl .sh (x.tols.map encL),.str x.key,.int .i64 x.most,.str x.node,.bool x.hold]]),toks:=tk,loops:=[]:Heap};gG 120 [] trivial (.load (show loadA false 1 ζ1 (.ptr (ζ2::[lo,hi]::ζ2::[lo,hi]::ex).length 1)=some (.str x.owner)from load_box (cs:=[.str x.name,.str x.owner,.int .i64 x.prio,.sl .sh (x.need.map encA),.sl .sh (x.labels.map encP),.sl .sh (x.sel.map encM),.sl .sh (x.tols.map encL),.str x.key,.int .i64 x.most,.str x.node,.bool x.hold]) (by simp+zetaDelta) rfl)<|.no (show(!x.owner==[])=false from by have hh:(x.owner==[])=true:=(by simpa using h1);simp[hh])<|.fin ((.ret (.bool false),ζ1)) rfl)
  ·have e:twB s x=(onS s x.node).any (twP x):=by simp[twB,h1]
   rw[e]
   generalize(onS s x.node).any (twP x)=b at a⊢
   generalize onS s x.node=l at a o
   exact let ζ2:List AV:=[.sl .sh (s.nodes.map encN),.sl .sh (s.pods.map encPd),.sl .sh (s.buds.map encB)];let ζ3:List AV:=[.str x.name,.str x.owner,.int .i64 x.prio,.sl .sh (x.need.map encA),.sl .sh (x.labels.map encP),.sl .sh (x.sel.map encM),.sl .sh (x.tols.map encL),.str x.key,.int .i64 x.most,.str x.node,.bool x.hold];let ζ1:Heap:={boxes:=ζ2::[lo,hi]::ζ2::[lo,hi]::(ex++[ζ3]),toks:=tk,loops:=[]:Heap};let ζ4:Heap:={boxes:=(encSt s).cells::[lo,hi]::(encSt s).cells::[lo,hi]::(ex++[(encPd x).cells]),toks:=tk,loops:=[]:Heap};gG 120 [] trivial (.load (show loadA false 1 ζ1 (.ptr (ζ2::[lo,hi]::ζ2::[lo,hi]::ex).length 1)=some (.str x.owner)from load_box (cs:=ζ3) (by simp+zetaDelta) rfl)<|.yes (show(!x.owner==[])=true from by have hh:¬((x.owner==[])=true):=(by simpa using h1);simp[hh])<|.load (lB true 3 ζ1 2 0 (.agg ζ2) ζ2)<|.load (show loadA false 1 ζ1 (.ptr (ζ2::[lo,hi]::ζ2::[lo,hi]::ex).length 9)=some (.str x.node)from load_box (cs:=ζ3) (by simp+zetaDelta) rfl)<|.callG ([.agg ζ2,.str x.node]) (.sl .sh (l.map encPd)) o ⟨rfl,rfl⟩ Res.p<|.effY a<|.fin ((.ret (.bool b),ζ1)) rfl)
 obtain⟨r,h1,rfl⟩:=key
 exact does_cl (ex:=[(encPd x).cells]) (by rw[show [encPd x]++[AV.ptr 2 0]=[encPd x,.ptr 2 0]from rfl,l140,h1];simp) rfl (hp2 s hl hh he)
theorem cl143(s:St)(h:StB s){lo hi:AV}(hl:Fl lo)(hh:Fl hi)(tk:List Nat)(ex:List (List AV))(he:ex.all (·.all data0)=true)(x:Pod):
 Does cfg (.call (.c (.func 143 [.ptr 2 0,.ptr 3 0])) [.c (encPd x)]) ⟨(encSt s).cells::[lo,hi]::(encSt s).cells::[lo,hi]::ex,tk,[]⟩ (.bool (lvN s x.node lo hi==2)) ⟨(encSt s).cells::[lo,hi]::(encSt s).cells::[lo,hi]::ex,tk,[]⟩:=by
 haveI:=hl.C
 haveI:=hh.C
 have f:=lv_any s h.ins h.cap x.node hl hh
 have key:Goes cfg a143 [.c c143] (initEnv [encPd x,.ptr 2 0,.ptr 3 0]) ⟨(encSt s).cells::[lo,hi]::(encSt s).cells::[lo,hi]::ex,tk,[]⟩ (fun r=>r=(.ret (.bool (lvN s x.node lo hi==2)),⟨(encSt s).cells::[lo,hi]::(encSt s).cells::[lo,hi]::(ex++[(encPd x).cells]),tk,[]⟩)):=by
  generalize lvN s x.node lo hi=c at f⊢
  exact let ζ2:List AV:=[.sl .sh (s.nodes.map encN),.sl .sh (s.pods.map encPd),.sl .sh (s.buds.map encB)];let ζ1:Heap:={boxes:=ζ2::[lo,hi]::ζ2::[lo,hi]::(ex++[[AV.str x.name,.str x.owner,.int .i64 x.prio,.sl .sh (x.need.map encA),.sl .sh (x.labels.map encP),.sl .sh (x.sel.map encM),.sl .sh (x.tols.map encL),.str x.key,.int .i64 x.most,.str x.node,.bool x.hold]]),toks:=tk,loops:=[]:Heap};gG 120 [] trivial (.load (lB true 3 ζ1 2 0 (.agg ζ2) ζ2)<|.load (show loadA false 1 ζ1 (.ptr (ζ2::[lo,hi]::ζ2::[lo,hi]::ex).length 9)=some (.str x.node)from load_box (cs:=[.str x.name,.str x.owner,.int .i64 x.prio,.sl .sh (x.need.map encA),.sl .sh (x.labels.map encP),.sl .sh (x.sel.map encM),.sl .sh (x.tols.map encL),.str x.key,.int .i64 x.most,.str x.node,.bool x.hold]) (by simp+zetaDelta) rfl)<|.load (lB true 2 ζ1 3 0 (.agg [lo,hi]) [lo,hi])<|.callG ([.agg ζ2,.str x.node,.agg [lo,hi]]) (.int .i64 c) f Shuts.p ⟨rfl,rfl⟩<|.fin ((.ret (.bool (c==(2:Int))),ζ1)) rfl)
 obtain⟨r,h1,rfl⟩:=key
 exact does_cl (ex:=[(encPd x).cells]) (by rw[show [encPd x]++[AV.ptr 2 0,.ptr 3 0]=[encPd x,.ptr 2 0,.ptr 3 0]from rfl,l143,h1];simp) rfl (hp2 s hl hh he)
theorem cl146(s:St)(h:StB s){lo hi:AV}(hl:Fl lo)(hh:Fl hi)(tk:List Nat)(m:Bool)(ex:List (List AV))(he:ex.all (·.all data0)=true)(x:Pod):
 Does cfg (.call (.c (.func 146 [.ptr 4 0,.ptr 2 0,.ptr 3 0])) [.c (encPd x)]) ⟨(encSt s).cells::[lo,hi]::(encSt s).cells::[lo,hi]::[.bool m]::ex,tk,[]⟩ (.bool (m&&(lvN s x.node lo hi==0))) ⟨(encSt s).cells::[lo,hi]::(encSt s).cells::[lo,hi]::[.bool m]::ex,tk,[]⟩:=by
 haveI:=hl.C
 haveI:=hh.C
 have f:=lv_any s h.ins h.cap x.node hl hh
 have key:Goes cfg a146 [.c c146] (initEnv [encPd x,.ptr 4 0,.ptr 2 0,.ptr 3 0]) ⟨(encSt s).cells::[lo,hi]::(encSt s).cells::[lo,hi]::[.bool m]::ex,tk,[]⟩ (fun r=>r=(.ret (.bool (m&&(lvN s x.node lo hi==0))),⟨(encSt s).cells::[lo,hi]::(encSt s).cells::[lo,hi]::[.bool m]::(ex++[(encPd x).cells]),tk,[]⟩)):=by
  generalize lvN s x.node lo hi=c at f⊢
  cases m with
  |true=>
   rw[Bool.true_and]
   exact let ζ2:List AV:=[.sl .sh (s.nodes.map encN),.sl .sh (s.pods.map encPd),.sl .sh (s.buds.map encB)];let ζ1:Heap:={boxes:=ζ2::[lo,hi]::ζ2::[lo,hi]::[.bool true]::(ex++[[AV.str x.name,.str x.owner,.int .i64 x.prio,.sl .sh (x.need.map encA),.sl .sh (x.labels.map encP),.sl .sh (x.sel.map encM),.sl .sh (x.tols.map encL),.str x.key,.int .i64 x.most,.str x.node,.bool x.hold]]),toks:=tk,loops:=[]:Heap};gG 120 [] trivial (.load (lB false 1 ζ1 4 0 (.bool true) [.bool true])<|.tt<|.load (lB true 3 ζ1 2 0 (.agg ζ2) ζ2)<|.load (show loadA false 1 ζ1 (.ptr (ζ2::[lo,hi]::ζ2::[lo,hi]::[.bool true]::ex).length 9)=some (.str x.node)from load_box (cs:=[.str x.name,.str x.owner,.int .i64 x.prio,.sl .sh (x.need.map encA),.sl .sh (x.labels.map encP),.sl .sh (x.sel.map encM),.sl .sh (x.tols.map encL),.str x.key,.int .i64 x.most,.str x.node,.bool x.hold]) (by simp+zetaDelta) rfl)<|.load (lB true 2 ζ1 3 0 (.agg [lo,hi]) [lo,hi])<|.callG ([.agg ζ2,.str x.node,.agg [lo,hi]]) (.int .i64 c) f Shuts.p ⟨rfl,rfl⟩<|.fin ((.ret (.bool (c==(0:Int))),ζ1)) rfl)
  |false=>
   rw[Bool.false_and]
   exact let ζ1:Heap:={boxes:=[.sl .sh (s.nodes.map encN),.sl .sh (s.pods.map encPd),.sl .sh (s.buds.map encB)]::[lo,hi]::[.sl .sh (s.nodes.map encN),.sl .sh (s.pods.map encPd),.sl .sh (s.buds.map encB)]::[lo,hi]::[.bool false]::(ex++[[AV.str x.name,.str x.owner,.int .i64 x.prio,.sl .sh (x.need.map encA),.sl .sh (x.labels.map encP),.sl .sh (x.sel.map encM),.sl .sh (x.tols.map encL),.str x.key,.int .i64 x.most,.str x.node,.bool x.hold]]),toks:=tk,loops:=[]:Heap};gG 120 [] trivial (.load (lB false 1 ζ1 4 0 (.bool false) [.bool false])<|.ff<|.fin ((.ret (.bool false),ζ1)) rfl)
 obtain⟨r,h1,rfl⟩:=key
 exact does_cl (ex:=[(encPd x).cells]) (by rw[show [encPd x]++[AV.ptr 4 0,.ptr 2 0,.ptr 3 0]=[encPd x,.ptr 4 0,.ptr 2 0,.ptr 3 0]from rfl,l146,h1];simp) rfl (hp2 s hl hh (by rw[List.all_cons,he];rfl))
def mrP(s:St)(lo hi:AV)(n:Node):Bool:= !n.cordon&& !(lvN s n.name lo hi==0)
theorem cl145(s:St)(h:StB s){lo hi:AV}(hl:Fl lo)(hh:Fl hi)(tk:List Nat)(x:Node):
 Does cfg (.call (.c (.func 145 [.ptr 0 0,.ptr 1 0])) [.c (encN x)]) ⟨[(encSt s).cells,[lo,hi]],[],[]⟩ (.bool (mrP s lo hi x)) ⟨[(encSt s).cells,[lo,hi]],[],[]⟩:=by
 haveI:=hl.C
 haveI:=hh.C
 have f:=lv_any s h.ins h.cap x.name hl hh
 have key:Goes cfg a145 [.c c145] (initEnv [encN x,.ptr 0 0,.ptr 1 0]) ⟨[(encSt s).cells,[lo,hi]],[],[]⟩ (fun r=>r=(.ret (.bool (mrP s lo hi x)),⟨[(encSt s).cells,[lo,hi],(encN x).cells],[],[]⟩)):=by
  unfold mrP
  generalize lvN s x.name lo hi=c at f⊢
  cases h1:x.cordon with
  |true=>
   rw[Bool.not_true,Bool.false_and]
   exact gG 120 [] trivial (.no (show(!x.cordon)=false from by have hh:x.cordon=true:=(by simp[h1]);simp[hh])<|.fin ((.ret (.bool false),{boxes:=[[.sl .sh (s.nodes.map encN),.sl .sh (s.pods.map encPd),.sl .sh (s.buds.map encB)],[lo,hi],[.str x.name,.sl .sh (x.cap.map encA),.sl .sh (x.labels.map encP),.sl .sh (x.taints.map encT),.bool x.cordon]],toks:=[],loops:=[]:Heap})) rfl)
  |false=>
   rw[Bool.not_false,Bool.true_and]
   exact let ζ1:List AV:=[.sl .sh (s.nodes.map encN),.sl .sh (s.pods.map encPd),.sl .sh (s.buds.map encB)];gG 120 [] trivial (.yes (show(!x.cordon)=true from by have hh:¬(x.cordon=true):=(by simp+zetaDelta [h1]);simp[hh])<|.callG ([.agg ζ1,.str x.name,.agg [lo,hi]]) (.int .i64 c) f Shuts.p ⟨rfl,rfl⟩<|.fin ((.ret (.bool (c !=(0:Int))),{boxes:=[ζ1,[lo,hi],[.str x.name,.sl .sh (x.cap.map encA),.sl .sh (x.labels.map encP),.sl .sh (x.taints.map encT),.bool x.cordon]],toks:=[],loops:=[]:Heap})) rfl)
 obtain⟨r,h1,rfl⟩:=key
 exact does_cl (B:=[(encSt s).cells,[lo,hi]]) (ex:=[(encN x).cells]) (by rw[show [encN x]++[AV.ptr 0 0,.ptr 1 0]=[encN x,.ptr 0 0,.ptr 1 0]from rfl,l145,h1];simp) rfl (hp4 s hl hh rfl)
theorem cl145b(s:St)(h:StB s){lo hi:AV}(hl:Fl lo)(hh:Fl hi)(tk:List Nat)(x:Node):
 Does cfg (.call (.c (.func 145 [.ptr 2 0,.ptr 3 0])) [.c (encN x)]) ⟨[(encSt s).cells,[lo,hi],(encSt s).cells,[lo,hi]],[],[]⟩ (.bool (mrP s lo hi x)) ⟨[(encSt s).cells,[lo,hi],(encSt s).cells,[lo,hi]],[],[]⟩:=by
 haveI:=hl.C
 haveI:=hh.C
 have f:=lv_any s h.ins h.cap x.name hl hh
 have key:Goes cfg a145 [.c c145] (initEnv [encN x,.ptr 2 0,.ptr 3 0]) ⟨[(encSt s).cells,[lo,hi],(encSt s).cells,[lo,hi]],[],[]⟩ (fun r=>r=(.ret (.bool (mrP s lo hi x)),⟨[(encSt s).cells,[lo,hi],(encSt s).cells,[lo,hi],(encN x).cells],[],[]⟩)):=by
  unfold mrP
  generalize lvN s x.name lo hi=c at f⊢
  cases h1:x.cordon with
  |true=>
   rw[Bool.not_true,Bool.false_and]
   exact let ζ1:List AV:=[.sl .sh (s.nodes.map encN),.sl .sh (s.pods.map encPd),.sl .sh (s.buds.map encB)];gG 120 [] trivial (.no (show(!x.cordon)=false from by have hh:x.cordon=true:=(by simp+zetaDelta [h1]);simp[hh])<|.fin ((.ret (.bool false),{boxes:=[ζ1,[lo,hi],ζ1,[lo,hi],[.str x.name,.sl .sh (x.cap.map encA),.sl .sh (x.labels.map encP),.sl .sh (x.taints.map encT),.bool x.cordon]],toks:=[],loops:=[]:Heap})) rfl)
  |false=>
   rw[Bool.not_false,Bool.true_and]
   exact let ζ1:List AV:=[.sl .sh (s.nodes.map encN),.sl .sh (s.pods.map encPd),.sl .sh (s.buds.map encB)];gG 120 [] trivial (.yes (show(!x.cordon)=true from by have hh:¬(x.cordon=true):=(by simp+zetaDelta [h1]);simp[hh])<|.callG ([.agg ζ1,.str x.name,.agg [lo,hi]]) (.int .i64 c) f Shuts.p ⟨rfl,rfl⟩<|.fin ((.ret (.bool (c !=(0:Int))),{boxes:=[ζ1,[lo,hi],ζ1,[lo,hi],[.str x.name,.sl .sh (x.cap.map encA),.sl .sh (x.labels.map encP),.sl .sh (x.taints.map encT),.bool x.cordon]],toks:=[],loops:=[]:Heap})) rfl)
 obtain⟨r,h1,rfl⟩:=key
 exact does_cl (B:=[(encSt s).cells,[lo,hi],(encSt s).cells,[lo,hi]]) (ex:=[(encN x).cells]) (by rw[show [encN x]++[AV.ptr 2 0,.ptr 3 0]=[encN x,.ptr 2 0,.ptr 3 0]from rfl,l145,h1];simp) rfl (hp2 s hl hh rfl)
end Go.Aa.T
set_option linter.unusedVariables false
set_option linter.unusedSimpArgs false
set_option maxRecDepth 100000
namespace Go.Aa.T
open Go.Aa Go.Proofs
def isB(s:St)(lo hi:AV)(why:Int)(p:Pod):Bool:=
 if why=1 then wtB s p else if why=2 then nmB (badS s) p.name else if why=3 then twB s p else if why=4 then lvN s p.node lo hi==2
 else if why=5 then s.nodes.any (mrP s lo hi)&&lvN s p.node lo hi==0 else false
def foundB(s:St)(lo hi:AV)(why:Int)(p:Pod):Bool:= !(p.node==[])&&(!p.hold&&isB s lo hi why p)
def oneL(s:St)(lo hi:AV)(why:Int)(l:List Pod):List (List UInt8):=(l.filter (foundB s lo hi why)).map Pod.name
def oneS(s:St)(lo hi:AV)(why:Int):List (List UInt8):=oneL s lo hi why s.pods
theorem one_yes{s:St}{lo hi:AV}{why:Int}{p:Pod}{l:List Pod}(h:foundB s lo hi why p=true):oneL s lo hi why (p::l)=p.name::oneL s lo hi why l:=by simp[oneL,List.filter_cons,h]
theorem one_no{s:St}{lo hi:AV}{why:Int}{p:Pod}{l:List Pod}(h:foundB s lo hi why p=false):oneL s lo hi why (p::l)=oneL s lo hi why l:=by simp[oneL,List.filter_cons,h]
theorem bad_call{s:St}{lo hi:AV}{why:Int}{g:FuncId}{k1 k2 o1 o2:Nat}{c1 c2:List AV}{B1 B2:List (List AV)}(hl:Fl lo)(hh:Fl hi)(h0:lim cfg (.fn 70) [encSt s,.int .i64 why,.agg [lo,hi]] Heap.nil=some (.ret (.func g (.ptr k1 o1::c1)),⟨B1,[],[]⟩))
 (h1:lim cfg (.fn 70) [encSt s,.int .i64 why,.agg [lo,hi]] ⟨[(encSt s).cells,[lo,hi]],[],[]⟩=some (.ret (.func g (.ptr k2 o2::c2)),⟨B2,[],[]⟩))(hk:2≤k2):
 Does cfg (.call (.c (.func 70 [])) [.c (encSt s),.c (.int .i64 why),.c (.agg [lo,hi])]) ⟨[(encSt s).cells,[lo,hi]],[],[]⟩ (.func g (.ptr k2 o2::c2)) ⟨B2,[],[]⟩:=by
 have hd:=_root_.Go.Aa.does_callN (cfg:=cfg) (xs:=[encSt s,.int .i64 why,.agg [lo,hi]]) h0 (by rfl) h1 (by
  show [encSt s,.int .i64 why,.agg [Go.Aa.shut1 lo,Go.Aa.shut1 hi]]=_
  rw[hl.sh1,hh.sh1]) (by
  show(true&&(true&&((Go.Aa.data0 lo&&(Go.Aa.data0 hi&&true))&&true)))=true
  rw[hl.d0,hh.d0];rfl)
 rw[show shutA (.func g (.ptr k2 o2::c2))=.func g (.ptr k2 o2::c2)from rfl]at hd
 rw[show(⟨[(encSt s).cells,[lo,hi]],[],[]⟩:Heap).boxes.length=2 from rfl,show(⟨[(encSt s).cells,[lo,hi]],[],[]⟩:Heap).toks.length=0 from rfl,trunc_fn hk]at hd
 exact hd
theorem bad_1(s:St){lo hi:AV}(hl:Fl lo)(hh:Fl hi):Does cfg (.call (.c (.func 70 [])) [.c (encSt s),.c (.int .i64 1),.c (.agg [lo,hi])]) ⟨[(encSt s).cells,[lo,hi]],[],[]⟩ (.func 136 [.ptr 2 0]) ⟨[(encSt s).cells,[lo,hi],(encSt s).cells,[lo,hi]],[],[]⟩:=by
 have k0:Goes cfg a70 [.c c70] (initEnv [encSt s,.int .i64 1,.agg [lo,hi]]) Heap.nil (fun r=>r=(.ret (.func 136 [.ptr 0 0]),⟨[(encSt s).cells,[lo,hi]],[],[]⟩)):=by
  exact gG 120 [] trivial (.tt<|.fin ((.ret (.func 136 [.ptr 0 0]),{boxes:=[[.sl .sh (s.nodes.map encN),.sl .sh (s.pods.map encPd),.sl .sh (s.buds.map encB)],[lo,hi]],toks:=[],loops:=[]:Heap})) rfl)
 have k1:Goes cfg a70 [.c c70] (initEnv [encSt s,.int .i64 1,.agg [lo,hi]]) ⟨[(encSt s).cells,[lo,hi]],[],[]⟩ (fun r=>r=(.ret (.func 136 [.ptr 2 0]),⟨[(encSt s).cells,[lo,hi],(encSt s).cells,[lo,hi]],[],[]⟩)):=by
  exact let ζ1:List AV:=[.sl .sh (s.nodes.map encN),.sl .sh (s.pods.map encPd),.sl .sh (s.buds.map encB)];gG 120 [] trivial (.tt<|.fin ((.ret (.func 136 [.ptr 2 0]),{boxes:=[ζ1,[lo,hi],ζ1,[lo,hi]],toks:=[],loops:=[]:Heap})) rfl)
 obtain⟨_,h0,rfl⟩:=k0
 obtain⟨_,h1,rfl⟩:=k1
 exact bad_call hl hh (by rw[l70];exact h0) (by rw[l70];exact h1) (by omega)
theorem bad_2(s:St){lo hi:AV}(hl:Fl lo)(hh:Fl hi)(hb:Gives cfg 137 [encSt s] (rowF .str (badS s))):Does cfg (.call (.c (.func 70 [])) [.c (encSt s),.c (.int .i64 2),.c (.agg [lo,hi])]) ⟨[(encSt s).cells,[lo,hi]],[],[]⟩ (.func 138 [.ptr 4 0]) ⟨[(encSt s).cells,[lo,hi],(encSt s).cells,[lo,hi],[.sl .sh ((badS s).map .str)]],[],[]⟩:=by
 generalize badS s=l at hb⊢
 have k0:Goes cfg a70 [.c c70] (initEnv [encSt s,.int .i64 2,.agg [lo,hi]]) Heap.nil (fun r=>r=(.ret (.func 138 [.ptr 2 0]),⟨[(encSt s).cells,[lo,hi],[.sl .sh (l.map .str)]],[],[]⟩)):=by
  exact let ζ1:List AV:=[.sl .sh (s.nodes.map encN),.sl .sh (s.pods.map encPd),.sl .sh (s.buds.map encB)];gG 120 [] trivial (.ff<|.tt<|.callG ([.agg ζ1]) (.sl .sh (List.map .str l)) hb ⟨rfl,rfl⟩ Res.p<|.fin ((.ret (.func 138 [.ptr 2 0]),{boxes:=[ζ1,[lo,hi],[.sl .sh (List.map .str l)]],toks:=[],loops:=[]:Heap})) rfl)
 have k1:Goes cfg a70 [.c c70] (initEnv [encSt s,.int .i64 2,.agg [lo,hi]]) ⟨[(encSt s).cells,[lo,hi]],[],[]⟩ (fun r=>r=(.ret (.func 138 [.ptr 4 0]),⟨[(encSt s).cells,[lo,hi],(encSt s).cells,[lo,hi],[.sl .sh (l.map .str)]],[],[]⟩)):=by
  exact let ζ1:List AV:=[.sl .sh (s.nodes.map encN),.sl .sh (s.pods.map encPd),.sl .sh (s.buds.map encB)];gG 120 [] trivial (.ff<|.tt<|.callG ([.agg ζ1]) (.sl .sh (List.map .str l)) hb ⟨rfl,rfl⟩ Res.p<|.fin ((.ret (.func 138 [.ptr 4 0]),{boxes:=[ζ1,[lo,hi],ζ1,[lo,hi],[.sl .sh (List.map .str l)]],toks:=[],loops:=[]:Heap})) rfl)
 obtain⟨_,h0,rfl⟩:=k0
 obtain⟨_,h1,rfl⟩:=k1
 exact bad_call hl hh (by rw[l70];exact h0) (by rw[l70];exact h1) (by omega)
theorem bad_3(s:St){lo hi:AV}(hl:Fl lo)(hh:Fl hi):Does cfg (.call (.c (.func 70 [])) [.c (encSt s),.c (.int .i64 3),.c (.agg [lo,hi])]) ⟨[(encSt s).cells,[lo,hi]],[],[]⟩ (.func 140 [.ptr 2 0]) ⟨[(encSt s).cells,[lo,hi],(encSt s).cells,[lo,hi]],[],[]⟩:=by
 have k0:Goes cfg a70 [.c c70] (initEnv [encSt s,.int .i64 3,.agg [lo,hi]]) Heap.nil (fun r=>r=(.ret (.func 140 [.ptr 0 0]),⟨[(encSt s).cells,[lo,hi]],[],[]⟩)):=by
  exact gG 120 [] trivial (.ff<|.ff<|.tt<|.fin ((.ret (.func 140 [.ptr 0 0]),{boxes:=[[.sl .sh (s.nodes.map encN),.sl .sh (s.pods.map encPd),.sl .sh (s.buds.map encB)],[lo,hi]],toks:=[],loops:=[]:Heap})) rfl)
 have k1:Goes cfg a70 [.c c70] (initEnv [encSt s,.int .i64 3,.agg [lo,hi]]) ⟨[(encSt s).cells,[lo,hi]],[],[]⟩ (fun r=>r=(.ret (.func 140 [.ptr 2 0]),⟨[(encSt s).cells,[lo,hi],(encSt s).cells,[lo,hi]],[],[]⟩)):=by
  exact let ζ1:List AV:=[.sl .sh (s.nodes.map encN),.sl .sh (s.pods.map encPd),.sl .sh (s.buds.map encB)];gG 120 [] trivial (.ff<|.ff<|.tt<|.fin ((.ret (.func 140 [.ptr 2 0]),{boxes:=[ζ1,[lo,hi],ζ1,[lo,hi]],toks:=[],loops:=[]:Heap})) rfl)
 obtain⟨_,h0,rfl⟩:=k0
 obtain⟨_,h1,rfl⟩:=k1
 exact bad_call hl hh (by rw[l70];exact h0) (by rw[l70];exact h1) (by omega)
theorem bad_4(s:St){lo hi:AV}(hl:Fl lo)(hh:Fl hi):Does cfg (.call (.c (.func 70 [])) [.c (encSt s),.c (.int .i64 4),.c (.agg [lo,hi])]) ⟨[(encSt s).cells,[lo,hi]],[],[]⟩ (.func 143 [.ptr 2 0,.ptr 3 0]) ⟨[(encSt s).cells,[lo,hi],(encSt s).cells,[lo,hi]],[],[]⟩:=by
 have k0:Goes cfg a70 [.c c70] (initEnv [encSt s,.int .i64 4,.agg [lo,hi]]) Heap.nil (fun r=>r=(.ret (.func 143 [.ptr 0 0,.ptr 1 0]),⟨[(encSt s).cells,[lo,hi]],[],[]⟩)):=by
  exact gG 120 [] trivial (.ff<|.ff<|.ff<|.tt<|.fin ((.ret (.func 143 [.ptr 0 0,.ptr 1 0]),{boxes:=[[.sl .sh (s.nodes.map encN),.sl .sh (s.pods.map encPd),.sl .sh (s.buds.map encB)],[lo,hi]],toks:=[],loops:=[]:Heap})) rfl)
 have k1:Goes cfg a70 [.c c70] (initEnv [encSt s,.int .i64 4,.agg [lo,hi]]) ⟨[(encSt s).cells,[lo,hi]],[],[]⟩ (fun r=>r=(.ret (.func 143 [.ptr 2 0,.ptr 3 0]),⟨[(encSt s).cells,[lo,hi],(encSt s).cells,[lo,hi]],[],[]⟩)):=by
  exact let ζ1:List AV:=[.sl .sh (s.nodes.map encN),.sl .sh (s.pods.map encPd),.sl .sh (s.buds.map encB)];gG 120 [] trivial (.ff<|.ff<|.ff<|.tt<|.fin ((.ret (.func 143 [.ptr 2 0,.ptr 3 0]),{boxes:=[ζ1,[lo,hi],ζ1,[lo,hi]],toks:=[],loops:=[]:Heap})) rfl)
 obtain⟨_,h0,rfl⟩:=k0
 obtain⟨_,h1,rfl⟩:=k1
 exact bad_call hl hh (by rw[l70];exact h0) (by rw[l70];exact h1) (by omega)
theorem bad_5(s:St)(h:StB s){lo hi:AV}(hl:Fl lo)(hh:Fl hi):Does cfg (.call (.c (.func 70 [])) [.c (encSt s),.c (.int .i64 5),.c (.agg [lo,hi])]) ⟨[(encSt s).cells,[lo,hi]],[],[]⟩ (.func 146 [.ptr 4 0,.ptr 2 0,.ptr 3 0]) ⟨[(encSt s).cells,[lo,hi],(encSt s).cells,[lo,hi],[.bool (s.nodes.any (mrP s lo hi))]],[],[]⟩:=by
 have d0:=anyNd (fun y=>cl145 s h hl hh [] y) s.nodes h.ins.nodes
 have d1:=anyNd (fun y=>cl145b s h hl hh [] y) s.nodes h.ins.nodes
 generalize s.nodes.any (mrP s lo hi)=m at d0 d1⊢
 have k0:Goes cfg a70 [.c c70] (initEnv [encSt s,.int .i64 5,.agg [lo,hi]]) Heap.nil (fun r=>r=(.ret (.func 146 [.ptr 2 0,.ptr 0 0,.ptr 1 0]),⟨[(encSt s).cells,[lo,hi],[.bool m]],[],[]⟩)):=by
  exact let ζ1:Heap:={boxes:=[(encSt s).cells,[lo,hi]],toks:=[],loops:=[]:Heap};gG 120 [] trivial (.ff<|.ff<|.ff<|.ff<|.tt<|.effY d0<|.fin ((.ret (.func 146 [.ptr 2 0,.ptr 0 0,.ptr 1 0]),{boxes:=[[.sl .sh (s.nodes.map encN),.sl .sh (s.pods.map encPd),.sl .sh (s.buds.map encB)],[lo,hi],[.bool m]],toks:=[],loops:=[]:Heap})) rfl)
 have k1:Goes cfg a70 [.c c70] (initEnv [encSt s,.int .i64 5,.agg [lo,hi]]) ⟨[(encSt s).cells,[lo,hi]],[],[]⟩ (fun r=>r=(.ret (.func 146 [.ptr 4 0,.ptr 2 0,.ptr 3 0]),⟨[(encSt s).cells,[lo,hi],(encSt s).cells,[lo,hi],[.bool m]],[],[]⟩)):=by
  exact let ζ1:List AV:=[.sl .sh (s.nodes.map encN),.sl .sh (s.pods.map encPd),.sl .sh (s.buds.map encB)];let ζ2:Heap:={boxes:=[(encSt s).cells,[lo,hi],(encSt s).cells,[lo,hi]],toks:=[],loops:=[]:Heap};gG 120 [] trivial (.ff<|.ff<|.ff<|.ff<|.tt<|.effY d1<|.fin ((.ret (.func 146 [.ptr 4 0,.ptr 2 0,.ptr 3 0]),{boxes:=[ζ1,[lo,hi],ζ1,[lo,hi],[.bool m]],toks:=[],loops:=[]:Heap})) rfl)
 obtain⟨_,h0,rfl⟩:=k0
 obtain⟨_,h1,rfl⟩:=k1
 exact bad_call hl hh (by rw[l70];exact h0) (by rw[l70];exact h1) (by omega)
theorem bad_0(s:St)(h:StB s){lo hi:AV}(hl:Fl lo)(hh:Fl hi){why:Int}(h1:¬why=1)(h2:¬why=2)(h3:¬why=3)(h4:¬why=4)(h5:¬why=5):Gives cfg 70 [encSt s,.int .i64 why,.agg [lo,hi]] (.func 147 []):=by
 refine Gives.run (l70 _ _) ?_
 exact gG 120 [] trivial (.no (show(why==(1:Int))=false from Bool.eq_false_iff.2 (by simp[h1]))<|.no (show(why==(2:Int))=false from Bool.eq_false_iff.2 (by simp[h2]))<|.no (show(why==(3:Int))=false from Bool.eq_false_iff.2 (by simp[h3]))<|.no (show(why==(4:Int))=false from Bool.eq_false_iff.2 (by simp[h4]))<|.no (show(why==(5:Int))=false from Bool.eq_false_iff.2 (by simp[h5]))<|.fin ((.ret (.func 147 []),{boxes:=[[.sl .sh (s.nodes.map encN),.sl .sh (s.pods.map encPd),.sl .sh (s.buds.map encB)],[lo,hi]],toks:=[],loops:=[]:Heap})) rfl)
theorem cl147(x:Pod):Gives cfg 147 [encPd x] (.bool false):=by
 refine Gives.run (l147 _ _) ?_
 exact gG 30 [] trivial (.fin ((.ret (.bool false),{boxes:=[[.str x.name,.str x.owner,.int .i64 x.prio,.sl .sh (x.need.map encA),.sl .sh (x.labels.map encP),.sl .sh (x.sel.map encM),.sl .sh (x.tols.map encL),.str x.key,.int .i64 x.most,.str x.node,.bool x.hold]],toks:=[],loops:=[]:Heap})) rfl)
theorem one_loop(s:St)(hs:s.pods.length≤1000){lo hi:AV}(fv:AV)(why:Int)(Pr:List (List AV)→Prop)(hP:∀ex(x:Pod),Pr ex→Pr (ex++[(encPd x).cells]))
 (hc:∀tk ex(x:Pod),Pr ex→x∈s.pods→Does cfg (.call (.c fv) [.c (encPd x)]) ⟨(encSt s).cells::[lo,hi]::ex,tk,[]⟩ (.bool (isB s lo hi why x)) ⟨(encSt s).cells::[lo,hi]::ex,tk,[]⟩):
 ∀(post:List Pod)(i:Nat)(hd:s.pods.drop i=post)(acc:List (List UInt8))(ha:acc.length≤i)(ex:List (List AV))(he:Pr ex)(T:Env)
 (hT:Has T [(3,.ptr 0 0),(7,fv),(8,rowF .str acc),(16,.sl .sh (s.pods.map encPd)),(17,.int .i64 s.pods.length),(18,.int .i64 i)]),
 Goes cfg a30 k30_0 T ⟨(encSt s).cells::[lo,hi]::ex,tkR .str acc,[]⟩ (IsRet (rowF .str (acc++oneL s lo hi why post))):=by
 intro post
 induction post with
 |nil=>
  intro i hd acc ha ex he T hT
  have hge:=drop_ge hd
  rw[show acc++oneL s lo hi why []=acc by simp[oneL]]
  exact gG 60 _ hT (.no (dF ((↑i:Int)<(↑s.pods.length:Int)))<|.fin ((.ret (.sl (skF acc) (List.map .str acc)),{boxes:=[.sl .sh (s.nodes.map encN),.sl .sh (s.pods.map encPd),.sl .sh (s.buds.map encB)]::[lo,hi]::ex,toks:=tkR .str acc,loops:=[]:Heap})) rfl)
 |cons x post ih=>
  intro i hd acc ha ex he T hT
  have hlt:=drop_lt hd
  have hnx:=drop_next hd
  have hxi:idxA 11 (.sl .sh (s.pods.map encPd)) (.int .i64 (i:Nat))=some (.ref (encPd x).cells):=idx_row (f:=encPd) hd rfl
  have he':=hP ex x he
  have ap:=ap_S (acc:=acc) x.name (by omega)
  have no:=ih (i+1) hnx acc (by omega) (ex++[(encPd x).cells]) he'
  have yes:=ih (i+1) hnx (acc++[x.name]) (by simp;omega) (ex++[(encPd x).cells]) he'
  by_cases h1:x.node=[]
  ·have e:foundB s lo hi why x=false:=by simp[foundB,h1]
   rw[one_no e]
   exact let ζ1:List AV:=[.str x.name,.str x.owner,.int .i64 x.prio,.sl .sh (x.need.map encA),.sl .sh (x.labels.map encP),.sl .sh (x.sel.map encM),.sl .sh (x.tols.map encL),.str x.key,.int .i64 x.most,.str x.node,.bool x.hold];let ζ2:List AV:=[.sl .sh (s.nodes.map encN),.sl .sh (s.pods.map encPd),.sl .sh (s.buds.map encB)];let ζ3:Heap:={boxes:=ζ2::[lo,hi]::(ex++[ζ1]),toks:=tkR .str acc,loops:=[]:Heap};let ζ4:List AV:=[.str [],.str [],.int .i64 0,.sl .full [],.sl .full [],.sl .full [],.sl .full [],.str [],.int .i64 0,.str [],.bool false];gG 160 _ hT (.yes (dT ((↑i:Int)<(↑s.pods.length:Int)))<|.idx hxi<|.load (rfl:loadA true 11 {boxes:=ζ2::[lo,hi]::ex,toks:=tkR .str acc,loops:=[]:Heap} (.ref ζ1)=some (.agg ζ1))<|.store (show storeA 11 {boxes:=ζ2::[lo,hi]::(ex++[ζ4]),toks:=tkR .str acc,loops:=[]:Heap} (.ptr (ζ2::[lo,hi]::ex).length 0) (.agg ζ1)=some (ζ3)from store_box2 (cs:=ζ4) (cs':=ζ1) (by simp+zetaDelta) rfl (by simp+zetaDelta [List.set_append]))<|.load (show loadA false 1 ζ3 (.ptr (ζ2::[lo,hi]::ex).length 9)=some (.str x.node)from load_box (cs:=ζ1) (by simp+zetaDelta) rfl)<|.no (show(!x.node==[])=false from by have hh:(x.node==[])=true:=(by simpa using h1);simp[hh])<|.ff<|.ff<|.bin (iI i)<|.cutQ k30_0 [(3,.ptr 0 0),(7,fv),(8,.sl (skF acc) (List.map .str acc)),(16,.sl .sh (s.pods.map encPd)),(17,.int .i64 (↑s.pods.length)),(18,.int .i64 (↑(i+1)))] (ζ3) (fun T hT=>(no T hT)))
  ·cases h2:x.hold with
   |true=>
    have e:foundB s lo hi why x=false:=by simp[foundB,h2]
    rw[one_no e]
    exact let ζ1:List AV:=[.str x.name,.str x.owner,.int .i64 x.prio,.sl .sh (x.need.map encA),.sl .sh (x.labels.map encP),.sl .sh (x.sel.map encM),.sl .sh (x.tols.map encL),.str x.key,.int .i64 x.most,.str x.node,.bool x.hold];let ζ2:List AV:=[.sl .sh (s.nodes.map encN),.sl .sh (s.pods.map encPd),.sl .sh (s.buds.map encB)];let ζ3:Heap:={boxes:=ζ2::[lo,hi]::(ex++[ζ1]),toks:=tkR .str acc,loops:=[]:Heap};let ζ4:List AV:=[.str [],.str [],.int .i64 0,.sl .full [],.sl .full [],.sl .full [],.sl .full [],.str [],.int .i64 0,.str [],.bool false];gG 160 _ hT (.yes (dT ((↑i:Int)<(↑s.pods.length:Int)))<|.idx hxi<|.load (rfl:loadA true 11 {boxes:=ζ2::[lo,hi]::ex,toks:=tkR .str acc,loops:=[]:Heap} (.ref ζ1)=some (.agg ζ1))<|.store (show storeA 11 {boxes:=ζ2::[lo,hi]::(ex++[ζ4]),toks:=tkR .str acc,loops:=[]:Heap} (.ptr (ζ2::[lo,hi]::ex).length 0) (.agg ζ1)=some (ζ3)from store_box2 (cs:=ζ4) (cs':=ζ1) (by simp+zetaDelta) rfl (by simp+zetaDelta [List.set_append]))<|.load (show loadA false 1 ζ3 (.ptr (ζ2::[lo,hi]::ex).length 9)=some (.str x.node)from load_box (cs:=ζ1) (by simp+zetaDelta) rfl)<|.yes (show(!x.node==[])=true from by have hh:¬((x.node==[])=true):=(by simpa using h1);simp[hh])<|.load (show loadA false 1 ζ3 (.ptr (ζ2::[lo,hi]::ex).length 10)=some (.bool x.hold)from load_box (cs:=ζ1) (by simp+zetaDelta) rfl)<|.no (show(!x.hold)=false from by have hh:x.hold=true:=(by omega);simp[hh])<|.ff<|.bin (iI i)<|.cutQ k30_0 [(3,.ptr 0 0),(7,fv),(8,.sl (skF acc) (List.map .str acc)),(16,.sl .sh (s.pods.map encPd)),(17,.int .i64 (↑s.pods.length)),(18,.int .i64 (↑(i+1)))] (ζ3) (fun T hT=>(no T hT)))
   |false=>
    have d:=hc (tkR .str acc) (ex++[(encPd x).cells]) x he' (drop_mem hd)
    cases h3:isB s lo hi why x with
    |true=>
     have e:foundB s lo hi why x=true:=by simp[foundB,h1,h2,h3]
     rw[one_yes e,show acc++x.name::oneL s lo hi why post=(acc++[x.name])++oneL s lo hi why post by simp]
     rw[h3]at d
     exact let ζ1:List AV:=[.str x.name,.str x.owner,.int .i64 x.prio,.sl .sh (x.need.map encA),.sl .sh (x.labels.map encP),.sl .sh (x.sel.map encM),.sl .sh (x.tols.map encL),.str x.key,.int .i64 x.most,.str x.node,.bool x.hold];let ζ2:List AV:=[.sl .sh (s.nodes.map encN),.sl .sh (s.pods.map encPd),.sl .sh (s.buds.map encB)];let ζ3:Heap:={boxes:=ζ2::[lo,hi]::(ex++[ζ1]),toks:=tkR .str acc,loops:=[]:Heap};let ζ4:List AV:=[.str [],.str [],.int .i64 0,.sl .full [],.sl .full [],.sl .full [],.sl .full [],.str [],.int .i64 0,.str [],.bool false];let ζ5:Heap:={boxes:=(encSt s).cells::[lo,hi]::(ex++[(encPd x).cells]),toks:=tkR .str acc,loops:=[]:Heap};let ζ6:Heap:={boxes:=ζ2::[lo,hi]::(ex++[ζ1]),toks:=tkR .str (acc++[x.name]),loops:=[]:Heap};gG 160 _ hT (.yes (dT ((↑i:Int)<(↑s.pods.length:Int)))<|.idx hxi<|.load (rfl:loadA true 11 {boxes:=ζ2::[lo,hi]::ex,toks:=tkR .str acc,loops:=[]:Heap} (.ref ζ1)=some (.agg ζ1))<|.store (show storeA 11 {boxes:=ζ2::[lo,hi]::(ex++[ζ4]),toks:=tkR .str acc,loops:=[]:Heap} (.ptr (ζ2::[lo,hi]::ex).length 0) (.agg ζ1)=some (ζ3)from store_box2 (cs:=ζ4) (cs':=ζ1) (by simp+zetaDelta) rfl (by simp+zetaDelta [List.set_append]))<|.load (show loadA false 1 ζ3 (.ptr (ζ2::[lo,hi]::ex).length 9)=some (.str x.node)from load_box (cs:=ζ1) (by simp+zetaDelta) rfl)<|.yes (show(!x.node==[])=true from by have hh:¬((x.node==[])=true):=(by simpa using h1);simp[hh])<|.load (show loadA false 1 ζ3 (.ptr (ζ2::[lo,hi]::ex).length 10)=some (.bool x.hold)from load_box (cs:=ζ1) (by simp+zetaDelta) rfl)<|.yes (show(!x.hold)=true from by have hh:¬(x.hold=true):=(by simp+zetaDelta [h2]);simp[hh])<|.load (show loadA true 11 ζ3 (.ptr (ζ2::[lo,hi]::ex).length 0)=some (.agg ζ1)from load_box (cs:=ζ1) (by simp+zetaDelta) rfl)<|.effY d<|.tt<|.load (show loadA false 1 ζ3 (.ptr (ζ2::[lo,hi]::ex).length 0)=some (.str x.name)from load_box (cs:=ζ1) (by simp+zetaDelta) rfl)<|.append (show appendA 1 16 ζ3 (.sl (skF acc) (List.map .str acc)) (.sl .full [.str x.name])=some ((rowF .str (acc++[x.name]),ζ6))from ap _ _)<|.bin (iI i)<|.cutQ k30_0 [(3,.ptr 0 0),(7,fv),(8,.sl (skF (acc++[x.name])) (List.map .str (acc++[x.name]))),(16,.sl .sh (s.pods.map encPd)),(17,.int .i64 (↑s.pods.length)),(18,.int .i64 (↑(i+1)))] (ζ6) (fun T hT=>(yes T hT)))
    |false=>
     have e:foundB s lo hi why x=false:=by simp[foundB,h3]
     rw[one_no e]
     rw[h3]at d
     exact let ζ1:List AV:=[.str x.name,.str x.owner,.int .i64 x.prio,.sl .sh (x.need.map encA),.sl .sh (x.labels.map encP),.sl .sh (x.sel.map encM),.sl .sh (x.tols.map encL),.str x.key,.int .i64 x.most,.str x.node,.bool x.hold];let ζ2:List AV:=[.sl .sh (s.nodes.map encN),.sl .sh (s.pods.map encPd),.sl .sh (s.buds.map encB)];let ζ3:Heap:={boxes:=ζ2::[lo,hi]::(ex++[ζ1]),toks:=tkR .str acc,loops:=[]:Heap};let ζ4:List AV:=[.str [],.str [],.int .i64 0,.sl .full [],.sl .full [],.sl .full [],.sl .full [],.str [],.int .i64 0,.str [],.bool false];let ζ5:Heap:={boxes:=(encSt s).cells::[lo,hi]::(ex++[(encPd x).cells]),toks:=tkR .str acc,loops:=[]:Heap};gG 160 _ hT (.yes (dT ((↑i:Int)<(↑s.pods.length:Int)))<|.idx hxi<|.load (rfl:loadA true 11 {boxes:=ζ2::[lo,hi]::ex,toks:=tkR .str acc,loops:=[]:Heap} (.ref ζ1)=some (.agg ζ1))<|.store (show storeA 11 {boxes:=ζ2::[lo,hi]::(ex++[ζ4]),toks:=tkR .str acc,loops:=[]:Heap} (.ptr (ζ2::[lo,hi]::ex).length 0) (.agg ζ1)=some (ζ3)from store_box2 (cs:=ζ4) (cs':=ζ1) (by simp+zetaDelta) rfl (by simp+zetaDelta [List.set_append]))<|.load (show loadA false 1 ζ3 (.ptr (ζ2::[lo,hi]::ex).length 9)=some (.str x.node)from load_box (cs:=ζ1) (by simp+zetaDelta) rfl)<|.yes (show(!x.node==[])=true from by have hh:¬((x.node==[])=true):=(by simpa using h1);simp[hh])<|.load (show loadA false 1 ζ3 (.ptr (ζ2::[lo,hi]::ex).length 10)=some (.bool x.hold)from load_box (cs:=ζ1) (by simp+zetaDelta) rfl)<|.yes (show(!x.hold)=true from by have hh:¬(x.hold=true):=(by simp+zetaDelta [h2]);simp[hh])<|.load (show loadA true 11 ζ3 (.ptr (ζ2::[lo,hi]::ex).length 0)=some (.agg ζ1)from load_box (cs:=ζ1) (by simp+zetaDelta) rfl)<|.effY d<|.ff<|.bin (iI i)<|.cutQ k30_0 [(3,.ptr 0 0),(7,fv),(8,.sl (skF acc) (List.map .str acc)),(16,.sl .sh (s.pods.map encPd)),(17,.int .i64 (↑s.pods.length)),(18,.int .i64 (↑(i+1)))] (ζ3) (fun T hT=>(no T hT)))
def PreB(pre ex:List (List AV)):Prop:=∃r,ex=pre++r∧r.all (·.all data0)=true
theorem preB_snoc{pre:List (List AV)}(ex:List (List AV))(x:Pod)(h:PreB pre ex):PreB pre (ex++[(encPd x).cells]):=by
 obtain⟨r,rfl,hr⟩:=h
 exact⟨r++[(encPd x).cells],by simp,by rw[List.all_append,hr];rfl⟩
theorem one_end(s:St)(hs:s.pods.length≤1000){lo hi:AV}(hl:Fl lo)(hh:Fl hi){fv:AV}{why:Int}{pre:List (List AV)}(hb:Does cfg (.call (.c (.func 70 [])) [.c (encSt s),.c (.int .i64 why),.c (.agg [lo,hi])]) ⟨[(encSt s).cells,[lo,hi]],[],[]⟩ fv ⟨(encSt s).cells::[lo,hi]::pre,[],[]⟩)
 (hc:∀tk r(x:Pod),r.all (·.all data0)=true→x∈s.pods→Does cfg (.call (.c fv) [.c (encPd x)]) ⟨(encSt s).cells::[lo,hi]::(pre++r),tk,[]⟩ (.bool (isB s lo hi why x)) ⟨(encSt s).cells::[lo,hi]::(pre++r),tk,[]⟩):
 Gives cfg 30 [encSt s,.int .i64 why,.agg [lo,hi]] (rowF .str (oneS s lo hi why)):=by
 refine Gives.run (l30 _ _) ?_
 have lo':=one_loop s hs (lo:=lo) (hi:=hi) fv why (PreB pre) (fun ex x=>preB_snoc ex x) (fun tk ex x he hx=>by
  obtain⟨r,rfl,hr⟩:=he
  exact hc tk r x hr hx) s.pods 0 rfl [] (by simp) pre ⟨[],by simp,rfl⟩
 have e:rowF AV.str ([]:List (List UInt8))=.sl .full []:=rfl
 rw[e,tk_nil,List.nil_append]at lo'
 rw[show oneS s lo hi why=oneL s lo hi why s.pods from rfl]
 exact let ζ1:List AV:=[.sl .sh (s.nodes.map encN),.sl .sh (s.pods.map encPd),.sl .sh (s.buds.map encB)];let ζ2:Heap:={boxes:=ζ1::[lo,hi]::pre,toks:=[],loops:=[]:Heap};gG 120 [] trivial (.effY hb<|.load (lB false 1 ζ2 0 1 (.sl .sh (s.pods.map encPd)) ζ1)<|.len (lM .sh encPd s.pods)<|.cutQ k30_0 [(3,.ptr 0 0),(7,fv),(8,.sl .full []),(16,.sl .sh (s.pods.map encPd)),(17,.int .i64 (↑s.pods.length)),(18,.int .i64 0)] (ζ2) (fun T hT=>(lo' T hT)))
theorem one_any(s:St)(h:StB s){lo hi:AV}(hl:Fl lo)(hh:Fl hi)(why:Int):Gives cfg 30 [encSt s,.int .i64 why,.agg [lo,hi]] (rowF .str (oneS s lo hi why)):=by
 have hp:=h.ins.pods
 have hn:=h.nodes
 by_cases h1:why=1
 ·subst h1
  refine one_end s hp hl hh (bad_1 s hl hh) fun tk r x hr hx=> ?_
  rw[show isB s lo hi 1 x=wtB s x from rfl]
  exact cl136 s h hl hh tk r hr x (h.pd x hx)
 by_cases h2:why=2
 ·subst h2
  have hb:=bad_any s hp (by omega) fun n hn=>(h.nd n hn).labels
  refine one_end s hp hl hh (bad_2 s hl hh hb) fun tk r x hr hx=> ?_
  rw[show isB s lo hi 2 x=nmB (badS s) x.name from rfl]
  have:=badS_len s
  exact cl138 s h hl hh tk (badS s) (by omega) r hr x
 by_cases h3:why=3
 ·subst h3
  refine one_end s hp hl hh (bad_3 s hl hh) fun tk r x hr hx=> ?_
  rw[show isB s lo hi 3 x=twB s x from rfl]
  exact cl140 s h hl hh tk r hr x
 by_cases h4:why=4
 ·subst h4
  refine one_end s hp hl hh (bad_4 s hl hh) fun tk r x hr hx=> ?_
  rw[show isB s lo hi 4 x=(lvN s x.node lo hi==2)from rfl]
  exact cl143 s h hl hh tk r hr x
 by_cases h5:why=5
 ·subst h5
  refine one_end s hp hl hh (bad_5 s h hl hh) fun tk r x hr hx=> ?_
  rw[show isB s lo hi 5 x=(s.nodes.any (mrP s lo hi)&&lvN s x.node lo hi==0)from rfl]
  exact cl146 s h hl hh tk _ r hr x
 refine one_end (fv:=.func 147 []) (pre:=[]) s hp hl hh ?_ fun tk r x hr hx=> ?_
 ·have g:=bad_0 s h hl hh h1 h2 h3 h4 h5
  obtain⟨H',hg⟩:=g.ret
  intro T
  have hd:=(does_data (g:=70) ⟨_,hg,rfl⟩ [encSt s,.int .i64 why,.agg [lo,hi]] (by
   show [encSt s,.int .i64 why,.agg [Go.Aa.shut1 lo,Go.Aa.shut1 hi]]=_
   rw[hl.sh1,hh.sh1]) (by
   show(true&&(true&&((Go.Aa.data0 lo&&(Go.Aa.data0 hi&&true))&&true)))=true
   rw[hl.d0,hh.d0];rfl) rfl rfl ⟨[(encSt s).cells,[lo,hi]],[],[]⟩).1
  exact hd T
 ·rw[show isB s lo hi why x=false by simp[isB,h1,h2,h3,h4,h5]]
  exact(does_data (cl147 x) [encPd x] rfl rfl rfl rfl _).1
end Go.Aa.T
set_option linter.unusedVariables false
set_option linter.unusedSimpArgs false
set_option maxRecDepth 100000
namespace Go.Aa.T
open Go.Aa Go.Proofs
instance(o:Option Node):Res (findNV o) (.tuple [encN (o.getD noN),.bool o.isSome]):=⟨by cases o<;>exact⟨rfl,rfl⟩⟩
end Go.Aa.T
set_option linter.unusedVariables false
set_option linter.unusedSimpArgs false
set_option maxRecDepth 100000
namespace Go.Aa.T
open Go.Aa Go.Proofs
theorem of_cls0{u c:Int}(h0:0≤u)(h:0<c)(hu:u≤9223372036854775807)(hc:c≤9223372036854775807):cls (ofA u c)=if u=0 then 3 else 4:=by
 rw[ofA_cls (by omega) (by omega),if_neg (by omega)]
 by_cases e:u=0
 ·rw[if_pos e,if_pos e,if_neg (by omega)]
 ·rw[if_neg e,if_neg e,if_neg]
  have a:decide (u<0)=false:=by simpa using h0
  have b:decide (c<0)=false:=by simpa using(by omega:0≤c)
  rw[a,b];decide
theorem fl_zero:Fl (.flt 0):=.flt 0 nn0 (by omega)
structure Us(x:AV):Prop where
 ex:∃u c:Int,x=ofA u c∧0≤u∧u≤c∧0<c∧c≤9223372036854775807
theorem Us.cls{x:AV}(h:Us x):cls x=3∨Go.Aa.T.cls x=4:=by
 obtain⟨u,c,rfl,h0,h1,h2,h3⟩:=h.ex
 rw[of_cls0 h0 h2 (by omega) h3]
 split<;>simp
theorem nodes_ne{s:St}(h:ckAll 32 ckN Node.name s.nodes=0):s.nodes.Pairwise fun a b=>a.name≠b.name:=by
 rw[List.pairwise_iff_getElem]
 intro i j hi hj hij e
 obtain⟨d,rfl⟩:∃d,j=i+d+1:=⟨j-i-1,by omega⟩
 have:=names_ltX h d i _ _ (List.getElem?_eq_getElem hi) (List.getElem?_eq_getElem hj)
 rw[e]at this
 have hirr:=less_lt.1 this
 exact absurd hirr (List.lt_irrefl _)
theorem filter_one{n:Node}:∀{l:List Node},l.Pairwise (fun a b=>a.name≠b.name)→n∈l→l.filter (fun m=>m.name==n.name)=[n]
 |m::l,hp,hm=>by
  obtain⟨h1,h2⟩:=List.pairwise_cons.1 hp
  rcases List.mem_cons.1 hm with rfl|hm
  ·rw[List.filter_cons,if_pos (by simp)]
   congr 1
   rw[List.filter_eq_nil_iff]
   intro x hx
   have:=h1 x hx
   simpa using fun e=>this e.symm
  ·have:=h1 n hm
   rw[List.filter_cons,if_neg (by simpa using this)]
   exact filter_one h2 hm
end Go.Aa.T
set_option linter.unusedVariables false
set_option linter.unusedSimpArgs false
set_option maxRecDepth 100000
namespace Go.Aa.T
open Go.Aa Go.Proofs
theorem capl{s:St}(fs:FewS s):∀n∈s.nodes,n.cap.length≤1000:=fun n hn=>by have:=(fewNd (fs.node n hn)).cap;omega
end Go.Aa.T
set_option linter.unusedVariables false
set_option linter.unusedSimpArgs false
set_option maxRecDepth 100000
namespace Go.Aa.T
open Go.Aa Go.Proofs
theorem known25':Gives cfg 25 [] (.bool true):=by
 obtain⟨H',h⟩:=known_ret25
 exact⟨_,h,rfl⟩
theorem add_n{c:Nat}(h:c≤1000000):binA .add (.int .i64 (c:Int)) (.int .i64 1)=some (.int .i64 ((c+1:Nat):Int)):=by
 have:=addI (a:=(c:Int)) (b:=1) (by omega) (by omega)
 rw[this];simp
theorem stB{s:St}(fs:FewS s)(r:RgS s):StB s:=⟨stIn fs r,by have:=fs.nodes;omega,capl fs,few_nd fs,fun p hp=>few_pd (fs.pod p hp)⟩
end Go.Aa.T
set_option linter.unusedVariables false
set_option linter.unusedSimpArgs false
set_option maxRecDepth 100000
namespace Go.Aa.T
open Go.Aa Go.Proofs
end Go.Aa.T
set_option linter.unusedVariables false
set_option linter.unusedSimpArgs false
set_option maxRecDepth 100000
namespace Go.Aa.T
open Go.Aa Go.Proofs
def hsB(p x:Pod):Bool:=x.owner==p.owner&& !x.hold
def ndB(pre:List Pod)(p:Pod):Bool:=pre.any (hsB p)&&(!(p.owner==[])&& !p.hold)
def mC(pre:List Pod):List Pod→Nat
 |[]=>0
 |p::post=>(if ndB pre p=true then 1 else 0)+mC (pre++[p]) post
def twF(l:List Pod)(p:Pod):Bool:=l.any (twP p)&&(!(p.owner==[])&& !p.hold)
theorem pre_any{l pre post:List Pod}{p:Pod}(e:l=pre++p::post)(hs:srtP l):pre.any (hsB p)=l.any (twP p):=by
 subst e
 have h1:=List.pairwise_append.1 hs
 have h2:=List.pairwise_cons.1 h1.2.1
 rw[List.any_append,List.any_cons]
 have a:twP p p=false:=by
  have:Op.bytesLess p.name p.name=false:=by
   cases h:Op.bytesLess p.name p.name with
   |false=>rfl
   |true=>exact absurd (less_lt.1 h) (List.lt_irrefl _)
  simp[twP,this]
 have b:post.any (twP p)=false:=by
  rw[List.any_eq_false]
  intro x hx
  have hl:=h2.1 x hx
  have:Op.bytesLess x.name p.name=false:=by
   cases h:Op.bytesLess x.name p.name with
   |false=>rfl
   |true=>exact absurd (List.lt_trans (less_lt.1 h) (less_lt.1 hl)) (List.lt_irrefl _)
  simp[twP,this]
 rw[a,b,Bool.or_false,Bool.or_false]
 have c:∀x∈pre,hsB p x=twP p x:=fun x hx=>by
  have hl:=h1.2.2 x hx p (by simp)
  simp[hsB,twP,hl]
 clear hs h1 h2
 induction pre with
 |nil=>rfl
 |cons x r ih=>rw[List.any_cons,List.any_cons,c x (by simp),ih fun y hy=>c y (List.mem_cons_of_mem _ hy)]
theorem mC_eq{l:List Pod}(hs:srtP l):∀{post pre:List Pod},l=pre++post→mC pre post=(post.filter (twF l)).length
 |[],pre,e=>rfl
 |p::post,pre,e=>by
  have ih:=mC_eq hs (post:=post) (pre:=pre++[p]) (by rw[e];simp)
  have hc:ndB pre p=twF l p:=by unfold ndB twF;rw[pre_any e hs]
  rw[mC,ih,hc,List.filter_cons]
  by_cases h:twF l p=true
  ·rw[if_pos h,if_pos h,List.length_cons];omega
  ·rw[if_neg h,if_neg h];omega
def sumN:List Nat→Nat
 |[]=>0
 |n::l=>n+sumN l
theorem sum_zip{β:Type}(f g:β→Nat):∀B:List β,sumN (B.map fun b=>f b+g b)=sumN (B.map f)+sumN (B.map g)
 |[]=>rfl
 |b::B=>by
  have:=sum_zip f g B
  simp only[List.map_cons,sumN,this];omega
theorem sum_one{β:Type}(p:β→Bool):∀B:List β,sumN (B.map fun b=>if p b=true then 1 else 0)=(B.filter p).length
 |[]=>rfl
 |b::B=>by
  have:=sum_one p B
  rw[List.filter_cons]
  by_cases h:p b=true
  ·simp only[List.map_cons,sumN,this,if_pos h,List.length_cons];omega
  ·simp only[List.map_cons,sumN,this,if_neg h];omega
theorem sum_zero'{β:Type}:∀B:List β,sumN (B.map fun _=>0)=0
 |[]=>rfl
 |b::B=>by simp only[List.map_cons,sumN,sum_zero' B]
theorem twice{α β:Type}(G:α→β→Bool)(B:List β):∀A:List α,sumN (A.map fun a=>(B.filter (G a)).length)=sumN (B.map fun b=>(A.filter fun a=>G a b).length)
 |[]=>by
  show 0=sumN (B.map fun b=>0)
  rw[sum_zero']
 |a::A=>by
  have ih:=twice G B A
  have e:(fun b=>((a::A).filter fun a=>G a b).length)=fun b=>(if G a b=true then 1 else 0)+(A.filter fun a=>G a b).length:=by
   funext b
   rw[List.filter_cons]
   by_cases h:G a b=true
   ·rw[if_pos h,if_pos h,List.length_cons];omega
   ·rw[if_neg h,if_neg h];omega
  rw[e,sum_zip,sum_one,←ih]
  rfl
theorem sum_congr{β:Type}{f g:β→Nat}{B:List β}(h:∀b∈B,f b=g b):sumN (B.map f)=sumN (B.map g):=by
 rw[List.map_congr_left h]
def ndC(s:St)(n:Node):Nat:=mC [] (onS s n.name)
def allC(s:St)(l:List Node):Nat:=sumN (l.map (ndC s))
theorem tw_all{s:St}(h:ckAll 32 ckN Node.name s.nodes=0)(hne:∀n∈s.nodes,n.name≠[])(hs:srtP s.pods)(hpo:podsE s s.pods=0)(lo hi:AV):allC s s.nodes=(oneS s lo hi 3).length:=by
 have e1:allC s s.nodes=sumN (s.nodes.map fun n=>(s.pods.filter fun p=>onP n.name p&&twF (onS s n.name) p).length):=by
  refine sum_congr fun n hn=> ?_
  rw[ndC,mC_eq (l:=onS s n.name) (hs.sublist List.filter_sublist) rfl,onS,List.filter_filter]
  congr 2
  funext p
  rw[Bool.and_comm]
 have e2:sumN (s.nodes.map fun n=>(s.pods.filter fun p=>onP n.name p&&twF (onS s n.name) p).length)=sumN (s.pods.map fun p=>(s.nodes.filter fun n=>onP n.name p&&twF (onS s n.name) p).length):=
  twice (fun(n:Node)(p:Pod)=>onP n.name p&&twF (onS s n.name) p) s.pods s.nodes
 have e3:sumN (s.pods.map fun p=>(s.nodes.filter fun n=>onP n.name p&&twF (onS s n.name) p).length)=sumN (s.pods.map fun p=>if foundB s lo hi 3 p=true then 1 else 0):=by
  refine sum_congr fun p hp=> ?_
  by_cases h1:p.node=[]
  ·have:(s.nodes.filter fun n=>onP n.name p&&twF (onS s n.name) p)=[]:=by
    rw[List.filter_eq_nil_iff]
    intro n hn
    have:=hne n hn
    have e:(p.node==n.name)=false:=by rw[h1];simpa using this
    simp[onP,e]
   rw[this,if_neg (by simp[foundB,h1])];rfl
  ·obtain⟨n,hf⟩:=pods_at hpo p hp h1
   have hn:=find_in hf
   have hnm:n.name=p.node:=by simpa using List.find?_some hf
   have e:(s.nodes.filter fun m=>onP m.name p&&twF (onS s m.name) p)=(s.nodes.filter fun m=>m.name==n.name).filter fun m=>twF (onS s p.node) p:=by
    rw[List.filter_filter]
    refine List.filter_congr fun m hm=> ?_
    by_cases hq:m.name=p.node
    ·have:(p.node==[])=false:=by simpa using h1
     simp[onP,hq,hnm,h1]
    ·have e1:(p.node==m.name)=false:=by simpa using fun e=>hq e.symm
     have e2:(m.name==n.name)=false:=by rw[hnm];simpa using hq
     simp only[onP,e1,e2,Bool.false_and,Bool.and_false]
   rw[e,filter_one (nodes_ne h) hn]
   have ff:foundB s lo hi 3 p=twF (onS s p.node) p:=by
    show(!(p.node==[])&&(!p.hold&&twB s p))=_
    unfold twB twF
    have:(p.node==[])=false:=by simpa using h1
    rw[this]
    cases p.hold<;>cases(p.owner==[])<;>cases(onS s p.node).any (twP p)<;>rfl
   rw[ff]
   cases twF (onS s p.node) p<;>rfl
 rw[e1,e2,e3,sum_one,oneS,oneL,List.length_map]
end Go.Aa.T
set_option linter.unusedVariables false
set_option linter.unusedSimpArgs false
set_option maxRecDepth 100000
namespace Go.Aa.T
open Go.Aa Go.Proofs
theorem take_snoc{l:List Pod}{j:Nat}{x:Pod}(h:l[j]?=some x):l.take (j+1)=l.take j++[x]:=by
 obtain⟨hl,rfl⟩:=List.getElem?_eq_some_iff.1 h
 exact List.take_succ_eq_append_getElem hl
theorem tt_inner(S:List AV)(l:List Pod)(hl:l.length≤1000)(k:Nat)(p:Pod)(hp:l[k]?=some p)(c:Nat)(hc:c≤900000)(i:Nat)(R:ARes×Heap→Prop)
 (K:∀(c':Nat)(T:Env),c'=c+(if ndB (l.take k) p=true then 1 else 0)→Has T [(1,.ptr 0 0),(3,.int .i64 (c':Nat)),(4,.int .i64 i),(5,.sl .sh (l.map encPd)),(6,.int .i64 ((k+1:Nat):Int))]→Goes cfg a8 k8_1 T ⟨[S],[],[]⟩ R):
 ∀(m j:Nat)(hm:j+m=k)(b:Bool)(hb:b= !(l.take j).any (hsB p))(T:Env)
 (hT:Has T [(1,.ptr 0 0),(3,.int .i64 (c:Nat)),(4,.int .i64 i),(5,.sl .sh (l.map encPd)),(6,.int .i64 k),(7,.bool b),(8,.int .i64 j)]),
 Goes cfg a8 k8_2 T ⟨[S],[],[]⟩ R:=by
 have hkl:=(List.getElem?_eq_some_iff.1 hp).1
 have hpi:idxA 11 (.sl .sh (l.map encPd)) (.int .i64 (k:Nat))=some (.ref (encPd p).cells):=idx_get (f:=encPd) hp rfl
 have inck:=inc_i (i:=k) (by omega)
 have ac:=add_n (c:=c) (by omega)
 intro m
 induction m with
 |zero=>
  intro j hm b hb T hT
  have hjk:j=k:=by omega
  subst hjk
  have k0:ndB (l.take j) p=false→∀(T:Env),Has T [(1,.ptr 0 0),(3,.int .i64 (c:Nat)),(4,.int .i64 i),(5,.sl .sh (l.map encPd)),(6,.int .i64 ((j+1:Nat):Int))]→Goes cfg a8 k8_1 T ⟨[S],[],[]⟩ R:=fun h T hT=>K c T (by rw[if_neg (by simp[h])];rfl) hT
  have k1:ndB (l.take j) p=true→∀(T:Env),Has T [(1,.ptr 0 0),(3,.int .i64 ((c+1:Nat):Int)),(4,.int .i64 i),(5,.sl .sh (l.map encPd)),(6,.int .i64 ((j+1:Nat):Int))]→Goes cfg a8 k8_1 T ⟨[S],[],[]⟩ R:=fun h T hT=>K (c+1) T (by rw[if_pos h]) hT
  cases ha:(l.take j).any (hsB p)with
  |false=>
   rw[ha]at hb
   subst hb
   have k0:=k0 (by simp[ndB,ha])
   exact gG 160 _ hT (.no (dF ((↑j:Int)<(↑j:Int)))<|.ff<|.ff<|.ff<|.bin inck<|.cutQ k8_1 [(1,.ptr 0 0),(3,.int .i64 ↑c),(4,.int .i64 ↑i),(5,.sl .sh (l.map encPd)),(6,.int .i64 (↑(j+1):Int))] ({boxes:=[S],toks:=[],loops:=[]:Heap}) (fun T hT=>(k0 T hT)))
  |true=>
   rw[ha]at hb
   subst hb
   by_cases h1:p.owner=[]
   ·have k0:=k0 (by simp[ndB,h1])
    exact gG 160 _ hT (.no (dF ((↑j:Int)<(↑j:Int)))<|.tt<|.idx hpi<|.no (show(!p.owner==[])=false from by have hh:(p.owner==[])=true:=(by simpa using h1);simp[hh])<|.ff<|.bin inck<|.cutQ k8_1 [(1,.ptr 0 0),(3,.int .i64 ↑c),(4,.int .i64 ↑i),(5,.sl .sh (l.map encPd)),(6,.int .i64 (↑(j+1):Int))] ({boxes:=[S],toks:=[],loops:=[]:Heap}) (fun T hT=>(k0 T hT)))
   ·cases h2:p.hold with
    |true=>
     have k0:=k0 (by simp[ndB,h2])
     exact gG 160 _ hT (.no (dF ((↑j:Int)<(↑j:Int)))<|.tt<|.idx hpi<|.yes (show(!p.owner==[])=true from by have hh:¬((p.owner==[])=true):=(by simpa using h1);simp[hh])<|.idx hpi<|.no (show(!p.hold)=false from by have hh:p.hold=true:=(by omega);simp[hh])<|.bin inck<|.cutQ k8_1 [(1,.ptr 0 0),(3,.int .i64 ↑c),(4,.int .i64 ↑i),(5,.sl .sh (l.map encPd)),(6,.int .i64 (↑(j+1):Int))] ({boxes:=[S],toks:=[],loops:=[]:Heap}) (fun T hT=>(k0 T hT)))
    |false=>
     have k1:=k1 (by simp[ndB,h1,h2,ha])
     exact gG 160 _ hT (.no (dF ((↑j:Int)<(↑j:Int)))<|.tt<|.idx hpi<|.yes (show(!p.owner==[])=true from by have hh:¬((p.owner==[])=true):=(by simpa using h1);simp[hh])<|.idx hpi<|.yes (show(!p.hold)=true from by have hh:¬(p.hold=true):=(by simp[h2]);simp[hh])<|.bin ac<|.bin inck<|.cutQ k8_1 [(1,.ptr 0 0),(3,.int .i64 (↑(c+1):Int)),(4,.int .i64 ↑i),(5,.sl .sh (l.map encPd)),(6,.int .i64 (↑(j+1):Int))] ({boxes:=[S],toks:=[],loops:=[]:Heap}) (fun T hT=>(k1 T hT)))
 |succ m ih=>
  intro j hm b hb T hT
  obtain⟨x,hx⟩:∃x,l[j]?=some x:=⟨l[j]'(by omega),List.getElem?_eq_getElem (by omega)⟩
  have hxi:idxA 11 (.sl .sh (l.map encPd)) (.int .i64 (j:Nat))=some (.ref (encPd x).cells):=idx_get (f:=encPd) hx rfl
  have incj:=inc_i (i:=j) (by omega)
  have ht:=take_snoc hx
  by_cases h1:x.owner=p.owner
  ·cases h2:x.hold with
   |true=>
    have e:hsB p x=false:=by simp[hsB,h2]
    have ih':=ih (j+1) (by omega) b (by rw[hb,ht,List.any_append];simp[e])
    exact gG 200 _ hT (.yes (dT ((↑j:Int)<(↑k:Int)))<|.idx hxi<|.idx hpi<|.yes (show(x.owner==p.owner)=true from(by simpa using h1))<|.idx hxi<|.no (show(!x.hold)=false from by have hh:x.hold=true:=(by omega);simp[hh])<|.bin incj<|.cutQ k8_2 [(1,.ptr 0 0),(3,.int .i64 ↑c),(4,.int .i64 ↑i),(5,.sl .sh (l.map encPd)),(6,.int .i64 ↑k),(7,.bool b),(8,.int .i64 (↑(j+1):Int))] ({boxes:=[S],toks:=[],loops:=[]:Heap}) (fun T hT=>(ih' T hT)))
   |false=>
    have e:hsB p x=true:=by simp[hsB,h1,h2]
    have ih':=ih (j+1) (by omega) false (by rw[ht,List.any_append];simp[e])
    exact gG 200 _ hT (.yes (dT ((↑j:Int)<(↑k:Int)))<|.idx hxi<|.idx hpi<|.yes (show(x.owner==p.owner)=true from(by simpa using h1))<|.idx hxi<|.yes (show(!x.hold)=true from by have hh:¬(x.hold=true):=(by simp[h2]);simp[hh])<|.bin incj<|.cutQ k8_2 [(1,.ptr 0 0),(3,.int .i64 ↑c),(4,.int .i64 ↑i),(5,.sl .sh (l.map encPd)),(6,.int .i64 ↑k),(7,.bool false),(8,.int .i64 (↑(j+1):Int))] ({boxes:=[S],toks:=[],loops:=[]:Heap}) (fun T hT=>(ih' T hT)))
  ·have e:hsB p x=false:=by simp[hsB,h1]
   have ih':=ih (j+1) (by omega) b (by rw[hb,ht,List.any_append];simp[e])
   exact gG 200 _ hT (.yes (dT ((↑j:Int)<(↑k:Int)))<|.idx hxi<|.idx hpi<|.no (show(x.owner==p.owner)=false from Bool.eq_false_iff.2 (by simpa using h1))<|.ff<|.bin incj<|.cutQ k8_2 [(1,.ptr 0 0),(3,.int .i64 ↑c),(4,.int .i64 ↑i),(5,.sl .sh (l.map encPd)),(6,.int .i64 ↑k),(7,.bool b),(8,.int .i64 (↑(j+1):Int))] ({boxes:=[S],toks:=[],loops:=[]:Heap}) (fun T hT=>(ih' T hT)))
theorem tt_mid(S:List AV)(l:List Pod)(hl:l.length≤1000)(i:Nat)(hi:i≤500)(c0:Nat)(hc0:c0≤600000)(R:ARes×Heap→Prop)
 (K:∀(c':Nat)(T:Env),c'=c0+mC [] l→Has T [(1,.ptr 0 0),(3,.int .i64 (c':Nat)),(4,.int .i64 ((i+1:Nat):Int))]→Goes cfg a8 k8_0 T ⟨[S],[],[]⟩ R):
 ∀(post:List Pod)(k:Nat)(hd:l.drop k=post)(hk:k≤l.length)(c:Nat)(hc:c≤c0+k)(he:c+mC (l.take k) post=c0+mC [] l)(T:Env)
 (hT:Has T [(1,.ptr 0 0),(3,.int .i64 (c:Nat)),(4,.int .i64 i),(5,.sl .sh (l.map encPd)),(6,.int .i64 k)]),
 Goes cfg a8 k8_1 T ⟨[S],[],[]⟩ R:=by
 intro post
 have inci:=inc_i (i:=i) (by omega)
 induction post with
 |nil=>
  intro k hd hk c hc he T hT
  have hge:=drop_ge hd
  have k0:=K c
  exact gG 120 _ hT (.len (lM .sh encPd l)<|.no (dF ((↑k:Int)<(↑l.length:Int)))<|.bin inci<|.cutQ k8_0 [(1,.ptr 0 0),(3,.int .i64 ↑c),(4,.int .i64 (↑(i+1)))] ({boxes:=[S],toks:=[],loops:=[]:Heap}) (fun T hT=>(k0 T he hT)))
 |cons x post ih=>
  intro k hd hk c hc he T hT
  have hlt:=drop_lt hd
  have hnx:=drop_next hd
  have hx:=drop_at hd
  have he':c+((if ndB (l.take k) x=true then 1 else 0)+mC (l.take k++[x]) post)=c0+mC [] l:=he
  have hq:(if ndB (l.take k) x=true then 1 else 0)≤1:=by split<;>omega
  have inn:=tt_inner S l hl k x hx c (by omega) i R (fun c' T hc' hT=>ih (k+1) hnx (by omega) c' (by omega) (by rw[take_snoc hx,hc'];omega) T hT) k 0 (by omega) true rfl
  exact gG 120 _ hT (.len (lM .sh encPd l)<|.yes (dT ((↑k:Int)<(↑l.length:Int)))<|.cutQ k8_2 [(1,.ptr 0 0),(3,.int .i64 ↑c),(4,.int .i64 ↑i),(5,.sl .sh (l.map encPd)),(6,.int .i64 ↑k),(7,.bool true),(8,.int .i64 0)] ({boxes:=[S],toks:=[],loops:=[]:Heap}) (fun T hT=>(inn T hT)))
theorem mC_le:∀(post pre:List Pod),mC pre post≤post.length
 |[],_=>Nat.le_refl _
 |p::post,pre=>by
  have:=mC_le post (pre++[p])
  rw[mC,List.length_cons]
  split<;>omega
theorem tt_outer(s:St)(b:StB s)(l:List (List UInt8))(n:Nat)(hl:l.length=n)(h3:Gives cfg 30 [encSt s,.int .i64 3,.agg [.flt 0,.flt 0]] (rowF .str l)):
 ∀(post:List Node)(i:Nat)(hd:s.nodes.drop i=post)(hi:i≤s.nodes.length)(c:Nat)(hc:c≤i*1000)(he:c+allC s post=n)(T:Env)
 (hT:Has T [(1,.ptr 0 0),(3,.int .i64 (c:Nat)),(4,.int .i64 i)]),
 Goes cfg a8 k8_0 T ⟨[(encSt s).cells],[],[]⟩ (IsRet (.bool true)):=by
 intro post
 have hn:=b.nodes
 have hp:=b.ins.pods
 induction post with
 |nil=>
  intro i hd hi c hc he T hT
  have hge:=drop_ge hd
  have he':c=n:=by simpa[allC,sumN]using he
  subst he'
  exact let ζ1:List AV:=[.sl .sh (s.nodes.map encN),.sl .sh (s.pods.map encPd),.sl .sh (s.buds.map encB)];gG 160 _ hT (.len (lM .sh encN s.nodes)<|.no (dF ((↑i:Int)<(↑s.nodes.length:Int)))<|.callG ([.agg ζ1,.int .i64 3,.agg [AV.flt 0,AV.flt 0]]) (.sl .sh (List.map .str l)) h3 ⟨rfl,rfl⟩ Res.p<|.len (lM .sh .str l)<|.fin ((.ret (.bool ((↑l.length:Int)==(↑c:Int))),{boxes:=[ζ1],toks:=[],loops:=[]:Heap})) (by exact ret_b (by simp+zetaDelta [hl])))
 |cons x post ih=>
  intro i hd hi c hc he T hT
  have hlt:=drop_lt hd
  have hnx:=drop_next hd
  have hxi:idxA 5 (.sl .sh (s.nodes.map encN)) (.int .i64 (i:Nat))=some (.ref (encN x).cells):=idx_row (f:=encN) hd rfl
  have o:=on_any s x.name b.ins.pods
  have ol:=on_len s x.name
  have hm:=mC_le (onS s x.name) []
  have he':c+(ndC s x+allC s post)=n:=he
  have en:ndC s x=mC [] (onS s x.name):=rfl
  have mid:=tt_mid (encSt s).cells (onS s x.name) (by omega) i (by omega) c (by omega) (IsRet (.bool true)) (fun c' T hc' hT=>ih (i+1) hnx (by omega) c' (by omega) (by omega) T hT) (onS s x.name) 0 rfl (by omega) c (by omega) rfl
  generalize onS s x.name=q at o mid
  exact let ζ1:List AV:=[.sl .sh (s.nodes.map encN),.sl .sh (s.pods.map encPd),.sl .sh (s.buds.map encB)];gG 160 _ hT (.len (lM .sh encN s.nodes)<|.yes (dT ((↑i:Int)<(↑s.nodes.length:Int)))<|.idx hxi<|.callG ([.agg ζ1,.str x.name]) (.sl .sh (q.map encPd)) o ⟨rfl,rfl⟩ Res.p<|.cutQ k8_1 [(1,.ptr 0 0),(3,.int .i64 ↑c),(4,.int .i64 ↑i),(5,.sl .sh (q.map encPd)),(6,.int .i64 0)] ({boxes:=[ζ1],toks:=[],loops:=[]:Heap}) (fun T hT=>(mid T hT)))
theorem stratTwins(s:St)(r:RgS s):Gives cfg 8 [encSt s] (.bool true):=by
 refine Gives.run (l8 _ _) ?_
 have g:=good_any s r
 cases hg:(fewSt s&&ckSt s==0)with
 |false=>
  rw[hg]at g
  exact let ζ1:List AV:=[.sl .sh (s.nodes.map encN),.sl .sh (s.pods.map encPd),.sl .sh (s.buds.map encB)];gG 90 [] trivial (.callK ([]) (.bool true) known25'<|.ff<|.callK ([.agg ζ1]) (.bool false) g<|.tt<|.fin ((.ret (.bool true),{boxes:=[ζ1],toks:=[],loops:=[]:Heap})) rfl)
 |true=>
  rw[hg]at g
  simp only[Bool.and_eq_true,beq_iff_eq]at hg
  obtain⟨hg1,hg2⟩:=hg
  have fs:=fewS hg1
  have gd:=gdS hg2
  have h1:ckAll 32 ckN Node.name s.nodes=0:=firstE_zero hg2 _ (by simp)
  have hpo:podsE s s.pods=0:=firstE_zero hg2 _ (by simp)
  have b:=stB fs r
  have a:=one_any s b fl_zero fl_zero 3
  have e:=tw_all h1 gd.name (ck_srt hg2) hpo (.flt 0) (.flt 0)
  have lo:=tt_outer s b (oneS s (.flt 0) (.flt 0) 3) (allC s s.nodes) e.symm a s.nodes 0 rfl (by omega) 0 (by omega) (by omega)
  exact let ζ1:List AV:=[.sl .sh (s.nodes.map encN),.sl .sh (s.pods.map encPd),.sl .sh (s.buds.map encB)];gG 300 [] trivial (.callK ([]) (.bool true) known25'<|.ff<|.callK ([.agg ζ1]) (.bool true) g<|.ff<|.cutQ k8_0 [(1,.ptr 0 0),(3,.int .i64 0),(4,.int .i64 0)] ({boxes:=[ζ1],toks:=[],loops:=[]:Heap}) (fun T hT=>(lo T hT)))
end Go.Aa.T
set_option linter.unusedVariables false
set_option linter.unusedSimpArgs false
set_option maxRecDepth 100000
namespace Go.Aa.T
open Go.Aa Go.Proofs
theorem law8(xs:List AV)(h:TyAll Tryz.prog 6 [26] xs)(hz:SzAll Tryz.prog [26] xs):∃H',lim cfg (.fn 8) xs Heap.nil=some (.ret (.bool true),H'):=by
 obtain⟨x1,rfl,h1⟩:=tyall_1 h
 obtain⟨a,rfl,r,-⟩:=ty26 (k:=0) h1
 exact(stratTwins a r).ret
end Go.Aa.T
