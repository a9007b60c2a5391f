/-
  WHAT THE LAW LEANS ON, part 13 of 15: a machine of values and its soundness; the functions of the law upon it; what they come to.
-/
import Derived.Test.YtjoblbpgpmknmaaGreatDoorXfanl
set_option linter.unusedVariables false
set_option linter.unusedSimpArgs false
set_option maxRecDepth 100000
namespace Go.Aa.T
open Go.Aa Go.Proofs
theorem bearsR_loop(l:List Tol)(t:Taint)(hn:l.length<9223372036854775807):∀(post:List Tol)(i:Nat)(hd:l.drop i=post)(T:Env)(hT:Has T [(0,.sl .sh (l.map encL)),(3,.ptr 0 0),(5,.int .i64 i)]),
 Goes cfg a159 k159_0 T ⟨[t.cells],[],[]⟩ (IsRet (.bool (bearsB post t))):=by
 intro post
 induction post with
 |nil=>
  intro i hd T hT
  have hge:=drop_ge hd
  exact gG 60 _ hT (.len (lM .sh encL l)<|.no (dF ((↑i:Int)<(↑l.length:Int)))<|.fin ((.ret (.bool false),{boxes:=[[.str t.key,.str t.val,.bool t.hard]],toks:=[],loops:=[]:Heap})) rfl)
 |cons x post ih=>
  intro i hd T hT
  have hlt:=drop_lt hd
  have hnx:=drop_next hd
  have e:bearsB (x::post) t=(one1 x t||bearsB post t):=rfl
  rw[e]
  have hxi:idxA 3 (.sl .sh (l.map encL)) (.int .i64 (i:Nat))=some (.ref (encL x).cells):=idx_row (f:=encL) hd rfl
  have ih':=ih (i+1) hnx
  by_cases h1:x.key=[]
  ·by_cases h2:x.any=true
   ·have e:(one1 x t||bearsB post t)=true:=by simp[one1,h1,h2]
    rw[e]
    exact gG 120 _ hT (.len (lM .sh encL l)<|.yes (dT ((↑i:Int)<(↑l.length:Int)))<|.idx hxi<|.yes (show(x.key==[])=true from(by simp[h1]))<|.tt<|.idx hxi<|.yes (show(x.any)=true from(by omega))<|.tt<|.fin ((.ret (.bool true),{boxes:=[[.str t.key,.str t.val,.bool t.hard]],toks:=[],loops:=[]:Heap})) rfl)
   ·by_cases h4:x.val=t.val
    ·have e:(one1 x t||bearsB post t)=true:=by simp[one1,h1,h4]
     rw[e]
     exact gG 120 _ hT (.len (lM .sh encL l)<|.yes (dT ((↑i:Int)<(↑l.length:Int)))<|.idx hxi<|.yes (show(x.key==[])=true from(by simp[h1]))<|.tt<|.idx hxi<|.no (show(x.any)=false from Bool.eq_false_iff.2 (by omega))<|.idx hxi<|.yes (show(x.val==t.val)=true from(by simp[h4]))<|.fin ((.ret (.bool true),{boxes:=[[.str t.key,.str t.val,.bool t.hard]],toks:=[],loops:=[]:Heap})) rfl)
    ·have e:(one1 x t||bearsB post t)=bearsB post t:=by simp[one1,h1,h2,h4]
     rw[e]
     exact gG 120 _ hT (.len (lM .sh encL l)<|.yes (dT ((↑i:Int)<(↑l.length:Int)))<|.idx hxi<|.yes (show(x.key==[])=true from(by simp[h1]))<|.tt<|.idx hxi<|.no (show(x.any)=false from Bool.eq_false_iff.2 (by omega))<|.idx hxi<|.no (show(x.val==t.val)=false from Bool.eq_false_iff.2 (by simp[h4]))<|.bin (iI i)<|.cutQ k159_0 [(0,.sl .sh (l.map encL)),(3,.ptr 0 0),(5,.int .i64 (↑(i+1)))] ({boxes:=[[.str t.key,.str t.val,.bool t.hard]],toks:=[],loops:=[]:Heap}) (fun T hT=>(ih' T hT)))
  ·by_cases h3:x.key=t.key
   ·by_cases h2:x.any=true
    ·have e:(one1 x t||bearsB post t)=true:=by simp[one1,h3,h2]
     rw[e]
     exact gG 120 _ hT (.len (lM .sh encL l)<|.yes (dT ((↑i:Int)<(↑l.length:Int)))<|.idx hxi<|.no (show(x.key==[])=false from Bool.eq_false_iff.2 (by simp[h1]))<|.idx hxi<|.yes (show(x.key==t.key)=true from(by simp[h3]))<|.idx hxi<|.yes (show(x.any)=true from(by omega))<|.tt<|.fin ((.ret (.bool true),{boxes:=[[.str t.key,.str t.val,.bool t.hard]],toks:=[],loops:=[]:Heap})) rfl)
    ·by_cases h4:x.val=t.val
     ·have e:(one1 x t||bearsB post t)=true:=by simp[one1,h3,h4]
      rw[e]
      exact gG 120 _ hT (.len (lM .sh encL l)<|.yes (dT ((↑i:Int)<(↑l.length:Int)))<|.idx hxi<|.no (show(x.key==[])=false from Bool.eq_false_iff.2 (by simp[h1]))<|.idx hxi<|.yes (show(x.key==t.key)=true from(by simp[h3]))<|.idx hxi<|.no (show(x.any)=false from Bool.eq_false_iff.2 (by omega))<|.idx hxi<|.yes (show(x.val==t.val)=true from(by simp[h4]))<|.fin ((.ret (.bool true),{boxes:=[[.str t.key,.str t.val,.bool t.hard]],toks:=[],loops:=[]:Heap})) rfl)
     ·have e:(one1 x t||bearsB post t)=bearsB post t:=by simp[one1,h3,h2,h4]
      rw[e]
      exact gG 120 _ hT (.len (lM .sh encL l)<|.yes (dT ((↑i:Int)<(↑l.length:Int)))<|.idx hxi<|.no (show(x.key==[])=false from Bool.eq_false_iff.2 (by simp[h1]))<|.idx hxi<|.yes (show(x.key==t.key)=true from(by simp[h3]))<|.idx hxi<|.no (show(x.any)=false from Bool.eq_false_iff.2 (by omega))<|.idx hxi<|.no (show(x.val==t.val)=false from Bool.eq_false_iff.2 (by simp[h4]))<|.bin (iI i)<|.cutQ k159_0 [(0,.sl .sh (l.map encL)),(3,.ptr 0 0),(5,.int .i64 (↑(i+1)))] ({boxes:=[[.str t.key,.str t.val,.bool t.hard]],toks:=[],loops:=[]:Heap}) (fun T hT=>(ih' T hT)))
   ·have e:(one1 x t||bearsB post t)=bearsB post t:=by simp[one1,h1,h3]
    rw[e]
    exact gG 120 _ hT (.len (lM .sh encL l)<|.yes (dT ((↑i:Int)<(↑l.length:Int)))<|.idx hxi<|.no (show(x.key==[])=false from Bool.eq_false_iff.2 (by simp[h1]))<|.idx hxi<|.no (show(x.key==t.key)=false from Bool.eq_false_iff.2 (by simp[h3]))<|.ff<|.bin (iI i)<|.cutQ k159_0 [(0,.sl .sh (l.map encL)),(3,.ptr 0 0),(5,.int .i64 (↑(i+1)))] ({boxes:=[[.str t.key,.str t.val,.bool t.hard]],toks:=[],loops:=[]:Heap}) (fun T hT=>(ih' T hT)))
theorem bearsR(l:List Tol)(t:Taint)(hn:l.length<9223372036854775807):Gives cfg 159 [.sl .sh (l.map encL),encT t] (.bool (bearsB l t)):=by
 refine Gives.run (l159 _ _) ?_
 have h:=bearsR_loop l t hn l 0 rfl
 exact gG 60 [] trivial (.cutQ k159_0 [(0,.sl .sh (l.map encL)),(3,.ptr 0 0),(5,.int .i64 0)] ({boxes:=[[.str t.key,.str t.val,.bool t.hard]],toks:=[],loops:=[]:Heap}) (fun T hT=>(h T hT)))
theorem worstR_loop(l:List Tol)(t:List Taint)(hl:l.length<9223372036854775807)(hn:t.length<9223372036854775807):∀(post:List Taint)(i:Nat)(hd:t.drop i=post)(T:Env)
 (hT:Has T [(0,.sl .sh (l.map encL)),(1,.sl .sh (t.map encT)),(4,.ptr 0 0),(6,.int .i64 i)]),
 Goes cfg a86 k86_0 T ⟨[[.str [],.str [],.bool false]],[],[]⟩ (IsRet (worstV (worstB l post))):=by
 intro post
 induction post with
 |nil=>
  intro i hd T hT
  have hge:=drop_ge hd
  exact gG 60 _ hT (.len (lM .sh encT t)<|.no (dF ((↑i:Int)<(↑t.length:Int)))<|.fin ((.ret (.tuple [.agg [.str [],.str [],.bool false],.bool false]),{boxes:=[[.str [],.str [],.bool false]],toks:=[],loops:=[]:Heap})) rfl)
 |cons x post ih=>
  intro i hd T hT
  have hlt:=drop_lt hd
  have hnx:=drop_next hd
  have hxi:idxA 3 (.sl .sh (t.map encT)) (.int .i64 (i:Nat))=some (.ref (encT x).cells):=idx_row (f:=encT) hd rfl
  have hb:=bearsR l x hl
  have ih':=ih (i+1) hnx
  cases hh:x.hard with
  |false=>
   have e:worstB l (x::post)=worstB l post:=by simp[worstB,List.find?_cons,hh]
   rw[e]
   exact gG 90 _ hT (.len (lM .sh encT t)<|.yes (dT ((↑i:Int)<(↑t.length:Int)))<|.idx hxi<|.no (show(x.hard)=false from Bool.eq_false_iff.2 (by simp[hh]))<|.ff<|.bin (iI i)<|.cutQ k86_0 [(0,.sl .sh (l.map encL)),(1,.sl .sh (t.map encT)),(4,.ptr 0 0),(6,.int .i64 (↑(i+1)))] ({boxes:=[[.str [],.str [],.bool false]],toks:=[],loops:=[]:Heap}) (fun T hT=>(ih' T hT)))
  |true=>
   cases hbb:bearsB l x with
   |true=>
    rw[hbb]at hb
    have e:worstB l (x::post)=worstB l post:=by simp[worstB,List.find?_cons,hh,hbb]
    rw[e]
    exact gG 90 _ hT (.len (lM .sh encT t)<|.yes (dT ((↑i:Int)<(↑t.length:Int)))<|.idx hxi<|.yes (show(x.hard)=true from(by omega))<|.idx hxi<|.callI hb<|.ff<|.bin (iI i)<|.cutQ k86_0 [(0,.sl .sh (l.map encL)),(1,.sl .sh (t.map encT)),(4,.ptr 0 0),(6,.int .i64 (↑(i+1)))] ({boxes:=[[.str [],.str [],.bool false]],toks:=[],loops:=[]:Heap}) (fun T hT=>(ih' T hT)))
   |false=>
    rw[hbb]at hb
    have e:worstB l (x::post)=some x:=by simp[worstB,List.find?_cons,hh,hbb]
    rw[e]
    exact let ζ1:List AV:=[.str x.key,.str x.val,.bool x.hard];gG 90 _ hT (.len (lM .sh encT t)<|.yes (dT ((↑i:Int)<(↑t.length:Int)))<|.idx hxi<|.yes (show(x.hard)=true from(by omega))<|.idx hxi<|.callI hb<|.tt<|.idx hxi<|.fin ((.ret (.tuple [.agg ζ1,.bool true]),{boxes:=[ζ1],toks:=[],loops:=[]:Heap})) rfl)
theorem worstR(l:List Tol)(t:List Taint)(hl:l.length<9223372036854775807)(hn:t.length<9223372036854775807):Gives cfg 86 [.sl .sh (l.map encL),.sl .sh (t.map encT)] (worstV (worstB l t)):=by
 refine Gives.run (l86 _ _) ?_
 have h:=worstR_loop l t hl hn t 0 rfl
 exact gG 60 [] trivial (.cutQ k86_0 [(0,.sl .sh (l.map encL)),(1,.sl .sh (t.map encT)),(4,.ptr 0 0),(6,.int .i64 0)] ({boxes:=[[.str [],.str [],.bool false]],toks:=[],loops:=[]:Heap}) (fun T hT=>(h T hT)))
theorem dom_cases(s:St)(nm key:List UInt8)(hs:s.nodes.length<9223372036854775807)(hl:∀n∈s.nodes,n.labels.length<9223372036854775807):
 (findG Node.name s.nodes nm=none∧domS s nm key=none∧Gives cfg 84 [.sl .sh (s.nodes.map encN),.str nm] (findNV none)∧Gives cfg 158 [.sl .sh [],.str key] (.tuple [.str [],.bool false]))∨
 ∃n:Node,Gives cfg 84 [.sl .sh (s.nodes.map encN),.str nm] (findNV (some n))∧((domS s nm key=none∧Gives cfg 158 [.sl .sh (n.labels.map encP),.str key] (.tuple [.str [],.bool false]))∨∃v,domS s nm key=some v∧Gives cfg 158 [.sl .sh (n.labels.map encP),.str key] (.tuple [.str v,.bool true])):=by
 have f:=findN_ref s.nodes nm hs
 unfold domS
 cases hf:findG Node.name s.nodes nm with
 |none=>
  rw[hf]at f
  exact .inl ⟨rfl,rfl,f,get2 [] key (by simp)⟩
 |some n=>
  rw[hf]at f
  refine .inr ⟨n,f,?_⟩
  have g:=get2 n.labels key (hl n (findG_mem hf))
  simp only
  cases hv:getP n.labels key with
  |none=>rw[hv]at g;exact .inl ⟨rfl,g⟩
  |some v=>rw[hv]at g;exact .inr ⟨v,rfl,g⟩
theorem cntR_loop(s:St)(p:Pod)(d:List UInt8)(ho:¬p.owner=[])(hp:s.pods.length≤1000)(hs:s.nodes.length<9223372036854775807)(hl:∀n∈s.nodes,n.labels.length<9223372036854775807):
 ∀(post:List Pod)(i:Nat)(hd:s.pods.drop i=post)(n:Nat)(hn:n≤i)(ex:List (List AV))(T:Env)
 (hT:Has T [(2,.str d),(3,.ptr 0 0),(4,.ptr 1 0),(7,.int .i64 n),(8,.int .i64 i)]),
 Goes cfg a160 k160_0 T ⟨(encSt s).cells::(encPd p).cells::ex,[],[]⟩ (IsRet (.int .i64 ((n+(post.filter (standB s p d)).length:Nat):Int))):=by
 intro post
 induction post with
 |nil=>
  intro i hd n hn ex T hT
  have hge:=drop_ge hd
  rw[show n+(([]:List Pod).filter (standB s p d)).length=n by simp]
  exact let ζ1:Heap:={boxes:=[.sl .sh (s.nodes.map encN),.sl .sh (s.pods.map encPd),.sl .sh (s.buds.map encB)]::[.str p.name,.str p.owner,.int .i64 p.prio,.sl .sh (p.need.map encA),.sl .sh (p.labels.map encP),.sl .sh (p.sel.map encM),.sl .sh (p.tols.map encL),.str p.key,.int .i64 p.most,.str p.node,.bool p.hold]::ex,toks:=[],loops:=[]:Heap};gG 60 _ hT (.load (lB false 1 ζ1 0 1 (.sl .sh (s.pods.map encPd)) [.sl .sh (s.nodes.map encN),.sl .sh (s.pods.map encPd),.sl .sh (s.buds.map encB)])<|.len (lM .sh encPd s.pods)<|.no (dF ((↑i:Int)<(↑s.pods.length:Int)))<|.ff<|.fin ((.ret (.int .i64 ↑n),ζ1)) rfl)
 |cons x post ih=>
  intro i hd n hn ex T hT
  have hlt:=drop_lt hd
  have hnx:=drop_next hd
  have hxi:idxA 11 (.sl .sh (s.pods.map encPd)) (.int .i64 (i:Nat))=some (.ref (encPd x).cells):=idx_row (f:=encPd) hd rfl
  have ih0:=ih (i+1) hnx n (by omega) (ex++[(encPd x).cells])
  by_cases q2:x.owner=p.owner
  ·cases q3:x.hold with
   |true=>
    have e:n+((x::post).filter (standB s p d)).length=n+(post.filter (standB s p d)).length:=by simp[List.filter_cons,standB,q3]
    rw[e]
    exact let ζ1:List AV:=[.str p.name,.str p.owner,.int .i64 p.prio,.sl .sh (p.need.map encA),.sl .sh (p.labels.map encP),.sl .sh (p.sel.map encM),.sl .sh (p.tols.map encL),.str p.key,.int .i64 p.most,.str p.node,.bool p.hold];let ζ2:List AV:=[.str x.name,.str x.owner,.int .i64 x.prio,.sl .sh (x.need.map encA),.sl .sh (x.labels.map encP),.sl .sh (x.sel.map encM),.sl .sh (x.tols.map encL),.str x.key,.int .i64 x.most,.str x.node,.bool x.hold];let ζ3:List AV:=[.sl .sh (s.nodes.map encN),.sl .sh (s.pods.map encPd),.sl .sh (s.buds.map encB)];let ζ4:Heap:={boxes:=ζ3::ζ1::(ex++[ζ2]),toks:=[],loops:=[]:Heap};let ζ5:Heap:={boxes:=ζ3::ζ1::ex,toks:=[],loops:=[]:Heap};let ζ6:List AV:=[.str [],.str [],.int .i64 0,.sl .full [],.sl .full [],.sl .full [],.sl .full [],.str [],.int .i64 0,.str [],.bool false];gG 160 _ hT (.load (lB false 1 ζ5 0 1 (.sl .sh (s.pods.map encPd)) ζ3)<|.len (lM .sh encPd s.pods)<|.yes (dT ((↑i:Int)<(↑s.pods.length:Int)))<|.load (lB false 1 ζ5 1 1 (.str p.owner) ζ1)<|.yes (show(!p.owner==[])=true from by have hh:¬((p.owner==[])=true):=(by simp+zetaDelta [ho]);simp[hh])<|.load (lB false 1 ζ5 0 1 (.sl .sh (s.pods.map encPd)) ζ3)<|.idx hxi<|.load (rfl:loadA true 11 ζ5 (.ref ζ2)=some (.agg ζ2))<|.store (show storeA 11 {boxes:=ζ3::ζ1::(ex++[ζ6]),toks:=[],loops:=[]:Heap} (.ptr (ζ3::ζ1::ex).length (0:Nat)) (.agg ζ2)=some (ζ4)from store_box2 (cs:=ζ6) (cs':=ζ2) (by simp+zetaDelta) rfl (by simp+zetaDelta [List.set_append]))<|.load (show loadA false 1 ζ4 (.ptr (ζ3::ζ1::ex).length (1:Nat))=some (.str x.owner)from load_box (cs:=ζ2) (by simp+zetaDelta) rfl)<|.load (lB false 1 ζ4 1 1 (.str p.owner) ζ1)<|.no (show(!x.owner==p.owner)=false from by have hh:(x.owner==p.owner)=true:=(by simp+zetaDelta [q2]);simp[hh])<|.load (show loadA false 1 ζ4 (.ptr (ζ3::ζ1::ex).length (10:Nat))=some (.bool x.hold)from load_box (cs:=ζ2) (by simp+zetaDelta) rfl)<|.yes (show(x.hold)=true from(by omega))<|.tt<|.tt<|.bin (iI i)<|.cutQ k160_0 [(2,.str d),(3,.ptr 0 0),(4,.ptr 1 0),(7,.int .i64 ↑n),(8,.int .i64 (↑(i+1)))] (ζ4) (fun T hT=>(ih0 T hT)))
   |false=>
    by_cases q4:x.name=p.name
    ·have e:n+((x::post).filter (standB s p d)).length=n+(post.filter (standB s p d)).length:=by simp[List.filter_cons,standB,q4]
     rw[e]
     exact let ζ1:List AV:=[.str p.name,.str p.owner,.int .i64 p.prio,.sl .sh (p.need.map encA),.sl .sh (p.labels.map encP),.sl .sh (p.sel.map encM),.sl .sh (p.tols.map encL),.str p.key,.int .i64 p.most,.str p.node,.bool p.hold];let ζ2:List AV:=[.str x.name,.str x.owner,.int .i64 x.prio,.sl .sh (x.need.map encA),.sl .sh (x.labels.map encP),.sl .sh (x.sel.map encM),.sl .sh (x.tols.map encL),.str x.key,.int .i64 x.most,.str x.node,.bool x.hold];let ζ3:List AV:=[.sl .sh (s.nodes.map encN),.sl .sh (s.pods.map encPd),.sl .sh (s.buds.map encB)];let ζ4:Heap:={boxes:=ζ3::ζ1::(ex++[ζ2]),toks:=[],loops:=[]:Heap};let ζ5:Heap:={boxes:=ζ3::ζ1::ex,toks:=[],loops:=[]:Heap};let ζ6:List AV:=[.str [],.str [],.int .i64 0,.sl .full [],.sl .full [],.sl .full [],.sl .full [],.str [],.int .i64 0,.str [],.bool false];gG 160 _ hT (.load (lB false 1 ζ5 0 1 (.sl .sh (s.pods.map encPd)) ζ3)<|.len (lM .sh encPd s.pods)<|.yes (dT ((↑i:Int)<(↑s.pods.length:Int)))<|.load (lB false 1 ζ5 1 1 (.str p.owner) ζ1)<|.yes (show(!p.owner==[])=true from by have hh:¬((p.owner==[])=true):=(by simp+zetaDelta [ho]);simp[hh])<|.load (lB false 1 ζ5 0 1 (.sl .sh (s.pods.map encPd)) ζ3)<|.idx hxi<|.load (rfl:loadA true 11 ζ5 (.ref ζ2)=some (.agg ζ2))<|.store (show storeA 11 {boxes:=ζ3::ζ1::(ex++[ζ6]),toks:=[],loops:=[]:Heap} (.ptr (ζ3::ζ1::ex).length (0:Nat)) (.agg ζ2)=some (ζ4)from store_box2 (cs:=ζ6) (cs':=ζ2) (by simp+zetaDelta) rfl (by simp+zetaDelta [List.set_append]))<|.load (show loadA false 1 ζ4 (.ptr (ζ3::ζ1::ex).length (1:Nat))=some (.str x.owner)from load_box (cs:=ζ2) (by simp+zetaDelta) rfl)<|.load (lB false 1 ζ4 1 1 (.str p.owner) ζ1)<|.no (show(!x.owner==p.owner)=false from by have hh:(x.owner==p.owner)=true:=(by simp+zetaDelta [q2]);simp[hh])<|.load (show loadA false 1 ζ4 (.ptr (ζ3::ζ1::ex).length (10:Nat))=some (.bool x.hold)from load_box (cs:=ζ2) (by simp+zetaDelta) rfl)<|.no (show(x.hold)=false from Bool.eq_false_iff.2 (by simp+zetaDelta [q3]))<|.load (show loadA false 1 ζ4 (.ptr (ζ3::ζ1::ex).length (0:Nat))=some (.str x.name)from load_box (cs:=ζ2) (by simp+zetaDelta) rfl)<|.load (lB false 1 ζ4 1 0 (.str p.name) ζ1)<|.yes (show(x.name==p.name)=true from(by simp+zetaDelta [q4]))<|.tt<|.bin (iI i)<|.cutQ k160_0 [(2,.str d),(3,.ptr 0 0),(4,.ptr 1 0),(7,.int .i64 ↑n),(8,.int .i64 (↑(i+1)))] (ζ4) (fun T hT=>(ih0 T hT)))
    ·by_cases q5:x.node=[]
     ·have e:n+((x::post).filter (standB s p d)).length=n+(post.filter (standB s p d)).length:=by simp[List.filter_cons,standB,q5]
      rw[e]
      exact let ζ1:List AV:=[.str p.name,.str p.owner,.int .i64 p.prio,.sl .sh (p.need.map encA),.sl .sh (p.labels.map encP),.sl .sh (p.sel.map encM),.sl .sh (p.tols.map encL),.str p.key,.int .i64 p.most,.str p.node,.bool p.hold];let ζ2:List AV:=[.str x.name,.str x.owner,.int .i64 x.prio,.sl .sh (x.need.map encA),.sl .sh (x.labels.map encP),.sl .sh (x.sel.map encM),.sl .sh (x.tols.map encL),.str x.key,.int .i64 x.most,.str x.node,.bool x.hold];let ζ3:List AV:=[.sl .sh (s.nodes.map encN),.sl .sh (s.pods.map encPd),.sl .sh (s.buds.map encB)];let ζ4:Heap:={boxes:=ζ3::ζ1::(ex++[ζ2]),toks:=[],loops:=[]:Heap};let ζ5:Heap:={boxes:=ζ3::ζ1::ex,toks:=[],loops:=[]:Heap};let ζ6:List AV:=[.str [],.str [],.int .i64 0,.sl .full [],.sl .full [],.sl .full [],.sl .full [],.str [],.int .i64 0,.str [],.bool false];gG 160 _ hT (.load (lB false 1 ζ5 0 1 (.sl .sh (s.pods.map encPd)) ζ3)<|.len (lM .sh encPd s.pods)<|.yes (dT ((↑i:Int)<(↑s.pods.length:Int)))<|.load (lB false 1 ζ5 1 1 (.str p.owner) ζ1)<|.yes (show(!p.owner==[])=true from by have hh:¬((p.owner==[])=true):=(by simp+zetaDelta [ho]);simp[hh])<|.load (lB false 1 ζ5 0 1 (.sl .sh (s.pods.map encPd)) ζ3)<|.idx hxi<|.load (rfl:loadA true 11 ζ5 (.ref ζ2)=some (.agg ζ2))<|.store (show storeA 11 {boxes:=ζ3::ζ1::(ex++[ζ6]),toks:=[],loops:=[]:Heap} (.ptr (ζ3::ζ1::ex).length (0:Nat)) (.agg ζ2)=some (ζ4)from store_box2 (cs:=ζ6) (cs':=ζ2) (by simp+zetaDelta) rfl (by simp+zetaDelta [List.set_append]))<|.load (show loadA false 1 ζ4 (.ptr (ζ3::ζ1::ex).length (1:Nat))=some (.str x.owner)from load_box (cs:=ζ2) (by simp+zetaDelta) rfl)<|.load (lB false 1 ζ4 1 1 (.str p.owner) ζ1)<|.no (show(!x.owner==p.owner)=false from by have hh:(x.owner==p.owner)=true:=(by simp+zetaDelta [q2]);simp[hh])<|.load (show loadA false 1 ζ4 (.ptr (ζ3::ζ1::ex).length (10:Nat))=some (.bool x.hold)from load_box (cs:=ζ2) (by simp+zetaDelta) rfl)<|.no (show(x.hold)=false from Bool.eq_false_iff.2 (by simp+zetaDelta [q3]))<|.load (show loadA false 1 ζ4 (.ptr (ζ3::ζ1::ex).length (0:Nat))=some (.str x.name)from load_box (cs:=ζ2) (by simp+zetaDelta) rfl)<|.load (lB false 1 ζ4 1 0 (.str p.name) ζ1)<|.no (show(x.name==p.name)=false from Bool.eq_false_iff.2 (by simp+zetaDelta [q4]))<|.load (show loadA false 1 ζ4 (.ptr (ζ3::ζ1::ex).length (9:Nat))=some (.str x.node)from load_box (cs:=ζ2) (by simp+zetaDelta) rfl)<|.yes (show(x.node==[])=true from(by simp+zetaDelta [q5]))<|.bin (iI i)<|.cutQ k160_0 [(2,.str d),(3,.ptr 0 0),(4,.ptr 1 0),(7,.int .i64 ↑n),(8,.int .i64 (↑(i+1)))] (ζ4) (fun T hT=>(ih0 T hT)))
     ·rcases dom_cases s x.node p.key hs hl with⟨-,h1,h2,h3⟩|⟨nd,h2,⟨h1,h3⟩|⟨v,h1,h3⟩⟩
      ·have e:n+((x::post).filter (standB s p d)).length=n+(post.filter (standB s p d)).length:=by simp[List.filter_cons,standB,h1]
       rw[e]
       have ih1:=ih (i+1) hnx n (by omega) (ex++[(encPd x).cells,[.str [],.sl .sh [],.sl .sh [],.sl .sh [],.bool false]])
       exact let ζ1:List AV:=[.str p.name,.str p.owner,.int .i64 p.prio,.sl .sh (p.need.map encA),.sl .sh (p.labels.map encP),.sl .sh (p.sel.map encM),.sl .sh (p.tols.map encL),.str p.key,.int .i64 p.most,.str p.node,.bool p.hold];let ζ2:List AV:=[.str x.name,.str x.owner,.int .i64 x.prio,.sl .sh (x.need.map encA),.sl .sh (x.labels.map encP),.sl .sh (x.sel.map encM),.sl .sh (x.tols.map encL),.str x.key,.int .i64 x.most,.str x.node,.bool x.hold];let ζ3:List AV:=[.sl .sh (s.nodes.map encN),.sl .sh (s.pods.map encPd),.sl .sh (s.buds.map encB)];let ζ4:Heap:={boxes:=ζ3::ζ1::(ex++[ζ2]),toks:=[],loops:=[]:Heap};let ζ5:List AV:=[.str [],.sl .sh [],.sl .sh [],.sl .sh [],.bool false];let ζ6:Heap:={boxes:=ζ3::ζ1::(ex++[ζ2,ζ5]),toks:=[],loops:=[]:Heap};let ζ7:Heap:={boxes:=ζ3::ζ1::ex,toks:=[],loops:=[]:Heap};let ζ8:List AV:=[.str [],.str [],.int .i64 0,.sl .full [],.sl .full [],.sl .full [],.sl .full [],.str [],.int .i64 0,.str [],.bool false];let ζ9:List AV:=[.str [],.sl .full [],.sl .full [],.sl .full [],.bool false];let ζ10:List AV:=[.sl .sh (s.nodes.map encN),.str x.node];gG 200 _ hT (.load (lB false 1 ζ7 0 1 (.sl .sh (s.pods.map encPd)) ζ3)<|.len (lM .sh encPd s.pods)<|.yes (dT ((↑i:Int)<(↑s.pods.length:Int)))<|.load (lB false 1 ζ7 1 1 (.str p.owner) ζ1)<|.yes (show(!p.owner==[])=true from by have hh:¬((p.owner==[])=true):=(by simp+zetaDelta [ho]);simp[hh])<|.load (lB false 1 ζ7 0 1 (.sl .sh (s.pods.map encPd)) ζ3)<|.idx hxi<|.load (rfl:loadA true 11 ζ7 (.ref ζ2)=some (.agg ζ2))<|.store (show storeA 11 {boxes:=ζ3::ζ1::(ex++[ζ8]),toks:=[],loops:=[]:Heap} (.ptr (ζ3::ζ1::ex).length (0:Nat)) (.agg ζ2)=some (ζ4)from store_box2 (cs:=ζ8) (cs':=ζ2) (by simp+zetaDelta) rfl (by simp+zetaDelta [List.set_append]))<|.load (show loadA false 1 ζ4 (.ptr (ζ3::ζ1::ex).length (1:Nat))=some (.str x.owner)from load_box (cs:=ζ2) (by simp+zetaDelta) rfl)<|.load (lB false 1 ζ4 1 1 (.str p.owner) ζ1)<|.no (show(!x.owner==p.owner)=false from by have hh:(x.owner==p.owner)=true:=(by simp+zetaDelta [q2]);simp[hh])<|.load (show loadA false 1 ζ4 (.ptr (ζ3::ζ1::ex).length (10:Nat))=some (.bool x.hold)from load_box (cs:=ζ2) (by simp+zetaDelta) rfl)<|.no (show(x.hold)=false from Bool.eq_false_iff.2 (by simp+zetaDelta [q3]))<|.load (show loadA false 1 ζ4 (.ptr (ζ3::ζ1::ex).length (0:Nat))=some (.str x.name)from load_box (cs:=ζ2) (by simp+zetaDelta) rfl)<|.load (lB false 1 ζ4 1 0 (.str p.name) ζ1)<|.no (show(x.name==p.name)=false from Bool.eq_false_iff.2 (by simp+zetaDelta [q4]))<|.load (show loadA false 1 ζ4 (.ptr (ζ3::ζ1::ex).length (9:Nat))=some (.str x.node)from load_box (cs:=ζ2) (by simp+zetaDelta) rfl)<|.no (show(x.node==[])=false from Bool.eq_false_iff.2 (by simp+zetaDelta [q5]))<|.load (lB false 1 ζ4 0 0 (.sl .sh (s.nodes.map encN)) ζ3)<|.load (show loadA false 1 ζ4 (.ptr (ζ3::ζ1::ex).length (9:Nat))=some (.str x.node)from load_box (cs:=ζ2) (by simp+zetaDelta) rfl)<|.callK (ζ10) (.tuple [.agg ζ5,.bool false]) h2<|.store (show storeA 5 {boxes:=ζ3::ζ1::(ex++[ζ2]++[ζ9]),toks:=[],loops:=[]:Heap} (.ptr (ζ3::ζ1::(ex++[ζ2])).length (0:Nat)) (.agg ζ5)=some (ζ6)from store_box2 (cs:=ζ9) (cs':=ζ5) (by simp+zetaDelta) rfl (by simp+zetaDelta [List.set_append]))<|.load (show loadA false 1 ζ6 (.ptr (ζ3::ζ1::(ex++[ζ2])).length (2:Nat))=some (.sl .sh [])from load_box (cs:=ζ5) (by simp+zetaDelta) rfl)<|.load (lB false 1 ζ6 1 7 (.str p.key) ζ1)<|.callI h3<|.ff<|.ff<|.ff<|.bin (iI i)<|.cutQ k160_0 [(2,.str d),(3,.ptr 0 0),(4,.ptr 1 0),(7,.int .i64 ↑n),(8,.int .i64 (↑(i+1)))] (ζ6) (fun T hT=>(ih1 T hT)))
      ·have e:n+((x::post).filter (standB s p d)).length=n+(post.filter (standB s p d)).length:=by simp[List.filter_cons,standB,h1]
       rw[e]
       have ih1:=ih (i+1) hnx n (by omega) (ex++[(encPd x).cells,(encN nd).cells])
       exact let ζ1:List AV:=[.str p.name,.str p.owner,.int .i64 p.prio,.sl .sh (p.need.map encA),.sl .sh (p.labels.map encP),.sl .sh (p.sel.map encM),.sl .sh (p.tols.map encL),.str p.key,.int .i64 p.most,.str p.node,.bool p.hold];let ζ2:List AV:=[.str x.name,.str x.owner,.int .i64 x.prio,.sl .sh (x.need.map encA),.sl .sh (x.labels.map encP),.sl .sh (x.sel.map encM),.sl .sh (x.tols.map encL),.str x.key,.int .i64 x.most,.str x.node,.bool x.hold];let ζ3:List AV:=[.sl .sh (s.nodes.map encN),.sl .sh (s.pods.map encPd),.sl .sh (s.buds.map encB)];let ζ4:List AV:=[.str nd.name,.sl .sh (nd.cap.map encA),.sl .sh (nd.labels.map encP),.sl .sh (nd.taints.map encT),.bool nd.cordon];let ζ5:Heap:={boxes:=ζ3::ζ1::(ex++[ζ2]),toks:=[],loops:=[]:Heap};let ζ6:Heap:={boxes:=ζ3::ζ1::(ex++[ζ2,ζ4]),toks:=[],loops:=[]:Heap};let ζ7:Heap:={boxes:=ζ3::ζ1::ex,toks:=[],loops:=[]:Heap};let ζ8:List AV:=[.str [],.str [],.int .i64 0,.sl .full [],.sl .full [],.sl .full [],.sl .full [],.str [],.int .i64 0,.str [],.bool false];let ζ9:List AV:=[.str [],.sl .full [],.sl .full [],.sl .full [],.bool false];let ζ10:List AV:=[.sl .sh (nd.labels.map encP),.str p.key];let ζ11:List AV:=[.sl .sh (s.nodes.map encN),.str x.node];gG 200 _ hT (.load (lB false 1 ζ7 0 1 (.sl .sh (s.pods.map encPd)) ζ3)<|.len (lM .sh encPd s.pods)<|.yes (dT ((↑i:Int)<(↑s.pods.length:Int)))<|.load (lB false 1 ζ7 1 1 (.str p.owner) ζ1)<|.yes (show(!p.owner==[])=true from by have hh:¬((p.owner==[])=true):=(by simp+zetaDelta [ho]);simp[hh])<|.load (lB false 1 ζ7 0 1 (.sl .sh (s.pods.map encPd)) ζ3)<|.idx hxi<|.load (rfl:loadA true 11 ζ7 (.ref ζ2)=some (.agg ζ2))<|.store (show storeA 11 {boxes:=ζ3::ζ1::(ex++[ζ8]),toks:=[],loops:=[]:Heap} (.ptr (ζ3::ζ1::ex).length (0:Nat)) (.agg ζ2)=some (ζ5)from store_box2 (cs:=ζ8) (cs':=ζ2) (by simp+zetaDelta) rfl (by simp+zetaDelta [List.set_append]))<|.load (show loadA false 1 ζ5 (.ptr (ζ3::ζ1::ex).length (1:Nat))=some (.str x.owner)from load_box (cs:=ζ2) (by simp+zetaDelta) rfl)<|.load (lB false 1 ζ5 1 1 (.str p.owner) ζ1)<|.no (show(!x.owner==p.owner)=false from by have hh:(x.owner==p.owner)=true:=(by simp+zetaDelta [q2]);simp[hh])<|.load (show loadA false 1 ζ5 (.ptr (ζ3::ζ1::ex).length (10:Nat))=some (.bool x.hold)from load_box (cs:=ζ2) (by simp+zetaDelta) rfl)<|.no (show(x.hold)=false from Bool.eq_false_iff.2 (by simp+zetaDelta [q3]))<|.load (show loadA false 1 ζ5 (.ptr (ζ3::ζ1::ex).length (0:Nat))=some (.str x.name)from load_box (cs:=ζ2) (by simp+zetaDelta) rfl)<|.load (lB false 1 ζ5 1 0 (.str p.name) ζ1)<|.no (show(x.name==p.name)=false from Bool.eq_false_iff.2 (by simp+zetaDelta [q4]))<|.load (show loadA false 1 ζ5 (.ptr (ζ3::ζ1::ex).length (9:Nat))=some (.str x.node)from load_box (cs:=ζ2) (by simp+zetaDelta) rfl)<|.no (show(x.node==[])=false from Bool.eq_false_iff.2 (by simp+zetaDelta [q5]))<|.load (lB false 1 ζ5 0 0 (.sl .sh (s.nodes.map encN)) ζ3)<|.load (show loadA false 1 ζ5 (.ptr (ζ3::ζ1::ex).length (9:Nat))=some (.str x.node)from load_box (cs:=ζ2) (by simp+zetaDelta) rfl)<|.callK (ζ11) (.tuple [.agg ζ4,.bool true]) h2<|.store (show storeA 5 {boxes:=ζ3::ζ1::(ex++[ζ2]++[ζ9]),toks:=[],loops:=[]:Heap} (.ptr (ζ3::ζ1::(ex++[ζ2])).length (0:Nat)) (.agg ζ4)=some (ζ6)from store_box2 (cs:=ζ9) (cs':=ζ4) (by simp+zetaDelta) rfl (by simp+zetaDelta [List.set_append]))<|.load (show loadA false 1 ζ6 (.ptr (ζ3::ζ1::(ex++[ζ2])).length (2:Nat))=some (.sl .sh (nd.labels.map encP))from load_box (cs:=ζ4) (by simp+zetaDelta) rfl)<|.load (lB false 1 ζ6 1 7 (.str p.key) ζ1)<|.callK (ζ10) (.tuple [.str [],.bool false]) h3<|.tt<|.ff<|.ff<|.bin (iI i)<|.cutQ k160_0 [(2,.str d),(3,.ptr 0 0),(4,.ptr 1 0),(7,.int .i64 ↑n),(8,.int .i64 (↑(i+1)))] (ζ6) (fun T hT=>(ih1 T hT)))
      ·by_cases q6:v=d
       ·have e:n+((x::post).filter (standB s p d)).length=(n+1)+(post.filter (standB s p d)).length:=by simp[List.filter_cons,standB,ho,q2,q3,q4,q5,h1,q6];omega
        rw[e]
        have ih1:=ih (i+1) hnx (n+1) (by omega) (ex++[(encPd x).cells,(encN nd).cells])
        exact let ζ1:List AV:=[.str p.name,.str p.owner,.int .i64 p.prio,.sl .sh (p.need.map encA),.sl .sh (p.labels.map encP),.sl .sh (p.sel.map encM),.sl .sh (p.tols.map encL),.str p.key,.int .i64 p.most,.str p.node,.bool p.hold];let ζ2:List AV:=[.str x.name,.str x.owner,.int .i64 x.prio,.sl .sh (x.need.map encA),.sl .sh (x.labels.map encP),.sl .sh (x.sel.map encM),.sl .sh (x.tols.map encL),.str x.key,.int .i64 x.most,.str x.node,.bool x.hold];let ζ3:List AV:=[.sl .sh (s.nodes.map encN),.sl .sh (s.pods.map encPd),.sl .sh (s.buds.map encB)];let ζ4:List AV:=[.str nd.name,.sl .sh (nd.cap.map encA),.sl .sh (nd.labels.map encP),.sl .sh (nd.taints.map encT),.bool nd.cordon];let ζ5:Heap:={boxes:=ζ3::ζ1::(ex++[ζ2]),toks:=[],loops:=[]:Heap};let ζ6:Heap:={boxes:=ζ3::ζ1::(ex++[ζ2,ζ4]),toks:=[],loops:=[]:Heap};let ζ7:Heap:={boxes:=ζ3::ζ1::ex,toks:=[],loops:=[]:Heap};let ζ8:List AV:=[.str [],.str [],.int .i64 0,.sl .full [],.sl .full [],.sl .full [],.sl .full [],.str [],.int .i64 0,.str [],.bool false];let ζ9:List AV:=[.str [],.sl .full [],.sl .full [],.sl .full [],.bool false];let ζ10:List AV:=[.sl .sh (nd.labels.map encP),.str p.key];let ζ11:List AV:=[.sl .sh (s.nodes.map encN),.str x.node];gG 200 _ hT (.load (lB false 1 ζ7 0 1 (.sl .sh (s.pods.map encPd)) ζ3)<|.len (lM .sh encPd s.pods)<|.yes (dT ((↑i:Int)<(↑s.pods.length:Int)))<|.load (lB false 1 ζ7 1 1 (.str p.owner) ζ1)<|.yes (show(!p.owner==[])=true from by have hh:¬((p.owner==[])=true):=(by simp+zetaDelta [ho]);simp[hh])<|.load (lB false 1 ζ7 0 1 (.sl .sh (s.pods.map encPd)) ζ3)<|.idx hxi<|.load (rfl:loadA true 11 ζ7 (.ref ζ2)=some (.agg ζ2))<|.store (show storeA 11 {boxes:=ζ3::ζ1::(ex++[ζ8]),toks:=[],loops:=[]:Heap} (.ptr (ζ3::ζ1::ex).length (0:Nat)) (.agg ζ2)=some (ζ5)from store_box2 (cs:=ζ8) (cs':=ζ2) (by simp+zetaDelta) rfl (by simp+zetaDelta [List.set_append]))<|.load (show loadA false 1 ζ5 (.ptr (ζ3::ζ1::ex).length (1:Nat))=some (.str x.owner)from load_box (cs:=ζ2) (by simp+zetaDelta) rfl)<|.load (lB false 1 ζ5 1 1 (.str p.owner) ζ1)<|.no (show(!x.owner==p.owner)=false from by have hh:(x.owner==p.owner)=true:=(by simp+zetaDelta [q2]);simp[hh])<|.load (show loadA false 1 ζ5 (.ptr (ζ3::ζ1::ex).length (10:Nat))=some (.bool x.hold)from load_box (cs:=ζ2) (by simp+zetaDelta) rfl)<|.no (show(x.hold)=false from Bool.eq_false_iff.2 (by simp+zetaDelta [q3]))<|.load (show loadA false 1 ζ5 (.ptr (ζ3::ζ1::ex).length (0:Nat))=some (.str x.name)from load_box (cs:=ζ2) (by simp+zetaDelta) rfl)<|.load (lB false 1 ζ5 1 0 (.str p.name) ζ1)<|.no (show(x.name==p.name)=false from Bool.eq_false_iff.2 (by simp+zetaDelta [q4]))<|.load (show loadA false 1 ζ5 (.ptr (ζ3::ζ1::ex).length (9:Nat))=some (.str x.node)from load_box (cs:=ζ2) (by simp+zetaDelta) rfl)<|.no (show(x.node==[])=false from Bool.eq_false_iff.2 (by simp+zetaDelta [q5]))<|.load (lB false 1 ζ5 0 0 (.sl .sh (s.nodes.map encN)) ζ3)<|.load (show loadA false 1 ζ5 (.ptr (ζ3::ζ1::ex).length (9:Nat))=some (.str x.node)from load_box (cs:=ζ2) (by simp+zetaDelta) rfl)<|.callK (ζ11) (.tuple [.agg ζ4,.bool true]) h2<|.store (show storeA 5 {boxes:=ζ3::ζ1::(ex++[ζ2]++[ζ9]),toks:=[],loops:=[]:Heap} (.ptr (ζ3::ζ1::(ex++[ζ2])).length (0:Nat)) (.agg ζ4)=some (ζ6)from store_box2 (cs:=ζ9) (cs':=ζ4) (by simp+zetaDelta) rfl (by simp+zetaDelta [List.set_append]))<|.load (show loadA false 1 ζ6 (.ptr (ζ3::ζ1::(ex++[ζ2])).length (2:Nat))=some (.sl .sh (nd.labels.map encP))from load_box (cs:=ζ4) (by simp+zetaDelta) rfl)<|.load (lB false 1 ζ6 1 7 (.str p.key) ζ1)<|.callK (ζ10) (.tuple [.str v,.bool true]) h3<|.tt<|.tt<|.yes (show(v==d)=true from(by simp+zetaDelta [q6]))<|.bin (iI n)<|.bin (iI i)<|.cutQ k160_0 [(2,.str d),(3,.ptr 0 0),(4,.ptr 1 0),(7,.int .i64 (↑(n+(1:Nat)):Int)),(8,.int .i64 (↑(i+1)))] (ζ6) (fun T hT=>(ih1 T hT)))
       ·have e:n+((x::post).filter (standB s p d)).length=n+(post.filter (standB s p d)).length:=by simp[List.filter_cons,standB,h1,q6]
        rw[e]
        have ih1:=ih (i+1) hnx n (by omega) (ex++[(encPd x).cells,(encN nd).cells])
        exact let ζ1:List AV:=[.str p.name,.str p.owner,.int .i64 p.prio,.sl .sh (p.need.map encA),.sl .sh (p.labels.map encP),.sl .sh (p.sel.map encM),.sl .sh (p.tols.map encL),.str p.key,.int .i64 p.most,.str p.node,.bool p.hold];let ζ2:List AV:=[.str x.name,.str x.owner,.int .i64 x.prio,.sl .sh (x.need.map encA),.sl .sh (x.labels.map encP),.sl .sh (x.sel.map encM),.sl .sh (x.tols.map encL),.str x.key,.int .i64 x.most,.str x.node,.bool x.hold];let ζ3:List AV:=[.sl .sh (s.nodes.map encN),.sl .sh (s.pods.map encPd),.sl .sh (s.buds.map encB)];let ζ4:List AV:=[.str nd.name,.sl .sh (nd.cap.map encA),.sl .sh (nd.labels.map encP),.sl .sh (nd.taints.map encT),.bool nd.cordon];let ζ5:Heap:={boxes:=ζ3::ζ1::(ex++[ζ2]),toks:=[],loops:=[]:Heap};let ζ6:Heap:={boxes:=ζ3::ζ1::(ex++[ζ2,ζ4]),toks:=[],loops:=[]:Heap};let ζ7:Heap:={boxes:=ζ3::ζ1::ex,toks:=[],loops:=[]:Heap};let ζ8:List AV:=[.str [],.str [],.int .i64 0,.sl .full [],.sl .full [],.sl .full [],.sl .full [],.str [],.int .i64 0,.str [],.bool false];let ζ9:List AV:=[.str [],.sl .full [],.sl .full [],.sl .full [],.bool false];let ζ10:List AV:=[.sl .sh (nd.labels.map encP),.str p.key];let ζ11:List AV:=[.sl .sh (s.nodes.map encN),.str x.node];gG 200 _ hT (.load (lB false 1 ζ7 0 1 (.sl .sh (s.pods.map encPd)) ζ3)<|.len (lM .sh encPd s.pods)<|.yes (dT ((↑i:Int)<(↑s.pods.length:Int)))<|.load (lB false 1 ζ7 1 1 (.str p.owner) ζ1)<|.yes (show(!p.owner==[])=true from by have hh:¬((p.owner==[])=true):=(by simp+zetaDelta [ho]);simp[hh])<|.load (lB false 1 ζ7 0 1 (.sl .sh (s.pods.map encPd)) ζ3)<|.idx hxi<|.load (rfl:loadA true 11 ζ7 (.ref ζ2)=some (.agg ζ2))<|.store (show storeA 11 {boxes:=ζ3::ζ1::(ex++[ζ8]),toks:=[],loops:=[]:Heap} (.ptr (ζ3::ζ1::ex).length (0:Nat)) (.agg ζ2)=some (ζ5)from store_box2 (cs:=ζ8) (cs':=ζ2) (by simp+zetaDelta) rfl (by simp+zetaDelta [List.set_append]))<|.load (show loadA false 1 ζ5 (.ptr (ζ3::ζ1::ex).length (1:Nat))=some (.str x.owner)from load_box (cs:=ζ2) (by simp+zetaDelta) rfl)<|.load (lB false 1 ζ5 1 1 (.str p.owner) ζ1)<|.no (show(!x.owner==p.owner)=false from by have hh:(x.owner==p.owner)=true:=(by simp+zetaDelta [q2]);simp[hh])<|.load (show loadA false 1 ζ5 (.ptr (ζ3::ζ1::ex).length (10:Nat))=some (.bool x.hold)from load_box (cs:=ζ2) (by simp+zetaDelta) rfl)<|.no (show(x.hold)=false from Bool.eq_false_iff.2 (by simp+zetaDelta [q3]))<|.load (show loadA false 1 ζ5 (.ptr (ζ3::ζ1::ex).length (0:Nat))=some (.str x.name)from load_box (cs:=ζ2) (by simp+zetaDelta) rfl)<|.load (lB false 1 ζ5 1 0 (.str p.name) ζ1)<|.no (show(x.name==p.name)=false from Bool.eq_false_iff.2 (by simp+zetaDelta [q4]))<|.load (show loadA false 1 ζ5 (.ptr (ζ3::ζ1::ex).length (9:Nat))=some (.str x.node)from load_box (cs:=ζ2) (by simp+zetaDelta) rfl)<|.no (show(x.node==[])=false from Bool.eq_false_iff.2 (by simp+zetaDelta [q5]))<|.load (lB false 1 ζ5 0 0 (.sl .sh (s.nodes.map encN)) ζ3)<|.load (show loadA false 1 ζ5 (.ptr (ζ3::ζ1::ex).length (9:Nat))=some (.str x.node)from load_box (cs:=ζ2) (by simp+zetaDelta) rfl)<|.callK (ζ11) (.tuple [.agg ζ4,.bool true]) h2<|.store (show storeA 5 {boxes:=ζ3::ζ1::(ex++[ζ2]++[ζ9]),toks:=[],loops:=[]:Heap} (.ptr (ζ3::ζ1::(ex++[ζ2])).length (0:Nat)) (.agg ζ4)=some (ζ6)from store_box2 (cs:=ζ9) (cs':=ζ4) (by simp+zetaDelta) rfl (by simp+zetaDelta [List.set_append]))<|.load (show loadA false 1 ζ6 (.ptr (ζ3::ζ1::(ex++[ζ2])).length (2:Nat))=some (.sl .sh (nd.labels.map encP))from load_box (cs:=ζ4) (by simp+zetaDelta) rfl)<|.load (lB false 1 ζ6 1 7 (.str p.key) ζ1)<|.callK (ζ10) (.tuple [.str v,.bool true]) h3<|.tt<|.tt<|.no (show(v==d)=false from Bool.eq_false_iff.2 (by simp+zetaDelta [q6]))<|.bin (iI i)<|.cutQ k160_0 [(2,.str d),(3,.ptr 0 0),(4,.ptr 1 0),(7,.int .i64 ↑n),(8,.int .i64 (↑(i+1)))] (ζ6) (fun T hT=>(ih1 T hT)))
  ·have e:n+((x::post).filter (standB s p d)).length=n+(post.filter (standB s p d)).length:=by simp[List.filter_cons,standB,q2]
   rw[e]
   exact let ζ1:List AV:=[.str p.name,.str p.owner,.int .i64 p.prio,.sl .sh (p.need.map encA),.sl .sh (p.labels.map encP),.sl .sh (p.sel.map encM),.sl .sh (p.tols.map encL),.str p.key,.int .i64 p.most,.str p.node,.bool p.hold];let ζ2:List AV:=[.str x.name,.str x.owner,.int .i64 x.prio,.sl .sh (x.need.map encA),.sl .sh (x.labels.map encP),.sl .sh (x.sel.map encM),.sl .sh (x.tols.map encL),.str x.key,.int .i64 x.most,.str x.node,.bool x.hold];let ζ3:List AV:=[.sl .sh (s.nodes.map encN),.sl .sh (s.pods.map encPd),.sl .sh (s.buds.map encB)];let ζ4:Heap:={boxes:=ζ3::ζ1::(ex++[ζ2]),toks:=[],loops:=[]:Heap};let ζ5:Heap:={boxes:=ζ3::ζ1::ex,toks:=[],loops:=[]:Heap};let ζ6:List AV:=[.str [],.str [],.int .i64 0,.sl .full [],.sl .full [],.sl .full [],.sl .full [],.str [],.int .i64 0,.str [],.bool false];gG 160 _ hT (.load (lB false 1 ζ5 0 1 (.sl .sh (s.pods.map encPd)) ζ3)<|.len (lM .sh encPd s.pods)<|.yes (dT ((↑i:Int)<(↑s.pods.length:Int)))<|.load (lB false 1 ζ5 1 1 (.str p.owner) ζ1)<|.yes (show(!p.owner==[])=true from by have hh:¬((p.owner==[])=true):=(by simp+zetaDelta [ho]);simp[hh])<|.load (lB false 1 ζ5 0 1 (.sl .sh (s.pods.map encPd)) ζ3)<|.idx hxi<|.load (rfl:loadA true 11 ζ5 (.ref ζ2)=some (.agg ζ2))<|.store (show storeA 11 {boxes:=ζ3::ζ1::(ex++[ζ6]),toks:=[],loops:=[]:Heap} (.ptr (ζ3::ζ1::ex).length (0:Nat)) (.agg ζ2)=some (ζ4)from store_box2 (cs:=ζ6) (cs':=ζ2) (by simp+zetaDelta) rfl (by simp+zetaDelta [List.set_append]))<|.load (show loadA false 1 ζ4 (.ptr (ζ3::ζ1::ex).length (1:Nat))=some (.str x.owner)from load_box (cs:=ζ2) (by simp+zetaDelta) rfl)<|.load (lB false 1 ζ4 1 1 (.str p.owner) ζ1)<|.yes (show(!x.owner==p.owner)=true from by have hh:¬((x.owner==p.owner)=true):=(by simp+zetaDelta [q2]);simp[hh])<|.tt<|.tt<|.tt<|.bin (iI i)<|.cutQ k160_0 [(2,.str d),(3,.ptr 0 0),(4,.ptr 1 0),(7,.int .i64 ↑n),(8,.int .i64 (↑(i+1)))] (ζ4) (fun T hT=>(ih0 T hT)))
theorem cntR_none(s:St)(p:Pod)(ho:p.owner=[])(hp:s.pods.length≤1000)(T:Env)(hT:Has T [(3,.ptr 0 0),(4,.ptr 1 0),(7,.int .i64 (0:Nat)),(8,.int .i64 (0:Nat))]):
 Goes cfg a160 k160_0 T ⟨[(encSt s).cells,(encPd p).cells],[],[]⟩ (IsRet (.int .i64 (0:Nat))):=by
 by_cases h0:s.pods.length=0
 ·exact gG 60 _ hT (.len (lM .sh encPd s.pods)<|.no (dF ((↑(0:Nat):Int)<(↑s.pods.length:Int)))<|.ff<|.fin ((.ret (.int .i64 (↑(0:Nat):Int)),{boxes:=[[.sl .sh (s.nodes.map encN),.sl .sh (s.pods.map encPd),.sl .sh (s.buds.map encB)],[.str p.name,.str p.owner,.int .i64 p.prio,.sl .sh (p.need.map encA),.sl .sh (p.labels.map encP),.sl .sh (p.sel.map encM),.sl .sh (p.tols.map encL),.str p.key,.int .i64 p.most,.str p.node,.bool p.hold]],toks:=[],loops:=[]:Heap})) rfl)
 ·exact gG 60 _ hT (.len (lM .sh encPd s.pods)<|.yes (dT ((↑(0:Nat):Int)<(↑s.pods.length:Int)))<|.no (show(!p.owner==[])=false from by have hh:(p.owner==[])=true:=(by simp;omega);simp[hh])<|.fin ((.ret (.int .i64 (↑(0:Nat):Int)),{boxes:=[[.sl .sh (s.nodes.map encN),.sl .sh (s.pods.map encPd),.sl .sh (s.buds.map encB)],[.str p.name,.str p.owner,.int .i64 p.prio,.sl .sh (p.need.map encA),.sl .sh (p.labels.map encP),.sl .sh (p.sel.map encM),.sl .sh (p.tols.map encL),.str p.key,.int .i64 p.most,.str p.node,.bool p.hold]],toks:=[],loops:=[]:Heap})) rfl)
theorem countR(s:St)(p:Pod)(d:List UInt8)(hp:s.pods.length≤1000)(hs:s.nodes.length<9223372036854775807)(hl:∀n∈s.nodes,n.labels.length<9223372036854775807):
 Gives cfg 160 [encSt s,encPd p,.str d] (.int .i64 (countS s p d)):=by
 refine Gives.run (l160 _ _) ?_
 by_cases ho:p.owner=[]
 ·have e:countS s p d=0:=by
   unfold countS
   rw[List.length_eq_zero_iff,List.filter_eq_nil_iff]
   intro x _
   simp[standB,ho]
  rw[e]
  have h:=cntR_none s p ho hp
  exact gG 60 [] trivial (.cutQ k160_0 [(3,.ptr 0 0),(4,.ptr 1 0),(7,.int .i64 0),(8,.int .i64 0)] ({boxes:=[[.sl .sh (s.nodes.map encN),.sl .sh (s.pods.map encPd),.sl .sh (s.buds.map encB)],[.str p.name,.str p.owner,.int .i64 p.prio,.sl .sh (p.need.map encA),.sl .sh (p.labels.map encP),.sl .sh (p.sel.map encM),.sl .sh (p.tols.map encL),.str p.key,.int .i64 p.most,.str p.node,.bool p.hold]],toks:=[],loops:=[]:Heap}) (fun T hT=>(h T hT)))
 ·have h:=cntR_loop s p d ho hp hs hl s.pods 0 rfl 0 (by omega) []
  rw[Nat.zero_add]at h
  unfold countS
  exact gG 60 [] trivial (.cutQ k160_0 [(2,.str d),(3,.ptr 0 0),(4,.ptr 1 0),(7,.int .i64 0),(8,.int .i64 0)] ({boxes:=[[.sl .sh (s.nodes.map encN),.sl .sh (s.pods.map encPd),.sl .sh (s.buds.map encB)],[.str p.name,.str p.owner,.int .i64 p.prio,.sl .sh (p.need.map encA),.sl .sh (p.labels.map encP),.sl .sh (p.sel.map encM),.sl .sh (p.tols.map encL),.str p.key,.int .i64 p.most,.str p.node,.bool p.hold]],toks:=[],loops:=[]:Heap}) (fun T hT=>(h T hT)))
end Go.Aa.T
set_option linter.unusedVariables false
set_option linter.unusedSimpArgs false
set_option maxRecDepth 100000
namespace Go.Aa.T
open Go.Aa Go.Proofs
end Go.Aa.T
set_option linter.unusedVariables false
set_option linter.unusedSimpArgs false
set_option maxRecDepth 100000
namespace Go.Aa.T
open Go.Aa Go.Proofs
theorem in2_d0{x:AV}{nb nt:Nat}(h:data0 x=true):in2 nb nt x=true:=in2_data0 h
def Tame(B:List (List AV)):Prop:=∀nb,B.length≤nb→B.all (·.all (in2 nb 0))=true
theorem tame_data{B:List (List AV)}(h:B.all (·.all data0)=true):Tame B:=fun nb _=>List.all_eq_true.2 fun b hb=>List.all_eq_true.2 fun x hx=>in2_d0 (List.all_eq_true.1 (List.all_eq_true.1 h b hb) x hx)
theorem tame_app{B ex:List (List AV)}(h:Tame B)(he:ex.all (·.all data0)=true):Tame (B++ex):=fun nb hn=>by
 rw[List.all_append,h nb (by simp at hn;omega),tame_data he nb (by simp at hn;omega)];rfl
theorem tame_set{B:List (List AV)}{k:Nat}{cs:List AV}(h:Tame B)(hc:cs.all data0=true):Tame (B.set k cs):=fun nb hn=>by
 refine List.all_eq_true.2 fun b hb=> ?_
 rcases List.mem_or_eq_of_mem_set hb with hb|rfl
 ·exact List.all_eq_true.1 (h nb (by simpa using hn)) b hb
 ·exact List.all_eq_true.2 fun x hx=>in2_d0 (List.all_eq_true.1 hc x hx)
theorem trunc_tame{B ex:List (List AV)}{v:AV}(hB:Tame B)(hv:within B.length 0 v=true):trunc B.length 0 v ⟨B++ex,[],[]⟩=⟨B,[],[]⟩:=by
 have h1:=hB B.length (Nat.le_refl _)
 unfold trunc
 simp only[List.take_left,List.length_nil,List.all_nil,Bool.true_and,hv,h1,Bool.and_self,if_true,List.take_zero,ite_self]
theorem does_closure{B ex:List (List AV)}{g:FuncId}{jj:Nat}{x v:AV}(h:lim cfg (.fn g) [x,.ptr jj 0] ⟨B,[],[]⟩=some (.ret v,⟨B++ex,[],[]⟩))(hx:shutA x=x)(hB:Tame B)(hv:within B.length 0 v=true)(hs:shutA v=v):
 Does cfg (.call (.c (.func g [.ptr jj 0])) [.c x]) ⟨B,[],[]⟩ v ⟨B,[],[]⟩∧Does cfg (.callM (.c (.func g [.ptr jj 0])) [.c x]) ⟨B,[],[]⟩ v ⟨B,[],[]⟩:=by
 have e1:=does_callE (cfg:=cfg) (xs:=[x]) (caps:=[.ptr jj 0]) h (by simp[hx]) (by simp[data0])
 have e2:Does cfg (.callM (.c (.func g [.ptr jj 0])) [.c x]) ⟨B,[],[]⟩ (shutA v) (trunc B.length 0 (shutA v) ⟨B++ex,[],[]⟩):=fun T=>by
  simp only[opStep,List.map_cons,List.map_nil,ev]
  simp only[callW,List.all_cons,List.all_nil,data0,Bool.and_false,Bool.false_and,Bool.and_true,Bool.false_eq_true,if_false,List.cons_append,List.nil_append,callE,hx,h]
  rfl
 rw[hs]at e1 e2
 rw[trunc_tame hB hv]at e2
 rw[show(⟨B,[],[]⟩:Heap).boxes.length=B.length from rfl,show(⟨B,[],[]⟩:Heap).toks.length=0 from rfl,trunc_tame hB hv]at e1
 exact⟨e1,e2⟩
abbrev pcs(l:List Pod):List AV:=rowCells (l.map encPd)
theorem encPd_el(l:List Pod):(l.map encPd).all (elOk 11)=true:=List.all_eq_true.2 fun x hx=>by
 obtain⟨j,_,rfl⟩:=List.mem_map.1 hx
 rfl
theorem pcs_len(l:List Pod):(pcs l).length=l.length*11:=by
 have:=rowCells_len (es:=11) (l:=l.map encPd) lenPd
 simpa using this
theorem pcs_data(l:List Pod):(pcs l).all data0=true:=by
 refine List.all_eq_true.2 fun x hx=> ?_
 simp only[pcs,rowCells,List.mem_flatMap,List.mem_map]at hx
 obtain⟨a,⟨p,-,rfl⟩,hx⟩:=hx
 simp only[encPd,AV.cells,List.mem_cons,List.not_mem_nil,or_false]at hx
 rcases hx with rfl|rfl|rfl|rfl|rfl|rfl|rfl|rfl|rfl|rfl|rfl<;>rfl
theorem pc_data(p:Pod):(encPd p).cells.all data0=true:=by rfl
theorem loadP{B:List (List AV)}{kk:Nat}{C:List Pod}{Z:List AV}{i:Nat}{p:Pod}(hk:B[kk]?=some (pcs C++Z))(hp:C[i]?=some p):Does cfg (.load true 11 (.c (.ptr kk (0+i*11)))) ⟨B,[],[]⟩ (encPd p) ⟨B,[],[]⟩:=fun T=>by
 obtain⟨h1,h2⟩:=cells_at (es:=11) (i:=i) (encPd_el C) (x:=encPd p) (by simp[hp])
 change((pcs C).drop (i*11)).take 11=_ at h1
 change _≤(pcs C).length at h2
 have:loadA true 11 ⟨B,[],[]⟩ (.ptr kk (0+i*11))=some (encPd p):=by
  simp only[loadA,hk,Nat.zero_add]
  rw[if_pos (by rw[List.length_append];omega),List.drop_append_of_le_length (by omega),List.take_append_of_le_length (by rw[List.length_drop];omega),h1];rfl
 simp only[opStep,ev,this]
theorem pcs_set:∀(C:List Pod)(j:Nat)(p:Pod),j<C.length→(pcs C).take (j*11)++(encPd p).cells++(pcs C).drop (j*11+11)=pcs (C.set j p)
 |[],j,p,h=>by simp at h
 |c::C,0,p,h=>by
  have e1:pcs (c::C)=(encPd c).cells++pcs C:=by simp[pcs,rowCells]
  have e2:pcs ((c::C).set 0 p)=(encPd p).cells++pcs C:=by simp[pcs,rowCells]
  rw[e1,e2]
  have e3:(encPd c).cells.length=11:=rfl
  rw[Nat.zero_mul,List.take_zero,List.nil_append,Nat.zero_add,List.drop_append_of_le_length (by omega),List.drop_eq_nil_of_le (by omega),List.nil_append]
 |c::C,j+1,p,h=>by
  have e1:pcs (c::C)=(encPd c).cells++pcs C:=by simp[pcs,rowCells]
  have e2:pcs ((c::C).set (j+1) p)=(encPd c).cells++pcs (C.set j p):=by simp[pcs,rowCells]
  have ih:=pcs_set C j p (by simpa using h)
  have e3:(encPd c).cells.length=11:=rfl
  rw[e1,e2,←ih,List.take_append,e3,List.take_of_length_le (by rw[e3];omega),show(j+1)*11-11=j*11 by omega,List.drop_append,e3,List.drop_eq_nil_of_le (by rw[e3];omega),List.nil_append,show(j+1)*11+11-11=j*11+11 by omega]
  simp only[List.append_assoc]
theorem storeP{B:List (List AV)}{kk:Nat}{C:List Pod}{j:Nat}(p:Pod)(hk:B[kk]?=some (pcs C))(hj:j<C.length):Does cfg (.store 11 (.c (.ptr kk (0+j*11))) (.c (encPd p))) ⟨B,[],[]⟩ .undef ⟨B.set kk (pcs (C.set j p)),[],[]⟩:=fun T=>by
 have hl:=pcs_len C
 have e3:(encPd p).cells.length=11:=rfl
 have:storeA 11 ⟨B,[],[]⟩ (.ptr kk (0+j*11)) (encPd p)=some ⟨B.set kk (pcs (C.set j p)),[],[]⟩:=by
  simp only[storeA,hk,Nat.zero_add]
  rw[if_pos ⟨by omega,rfl,rfl,by omega⟩,paste_spec _ _ _ (by omega),e3,pcs_set C j p hj]
 simp only[opStep,ev,this]
theorem pred_any{B:List (List AV)}{jj:Nat}{nm:List UInt8}(hj:B[jj]?=some [.str nm])(hB:Tame B)(p:Pod):
 Does cfg (.call (.c (.func 91 [.ptr jj 0])) [.c (encPd p)]) ⟨B,[],[]⟩ (.bool (p.name==nm)) ⟨B,[],[]⟩∧Does cfg (.callM (.c (.func 91 [.ptr jj 0])) [.c (encPd p)]) ⟨B,[],[]⟩ (.bool (p.name==nm)) ⟨B,[],[]⟩:=by
 have hlt:=(List.getElem?_eq_some_iff.1 hj).1
 have l1:Does cfg (.load false 1 (.c (.ptr B.length 0))) ⟨B++[(encPd p).cells],[],[]⟩ (.str p.name) ⟨B++[(encPd p).cells],[],[]⟩:=fun T=>by
  have:loadA false 1 ⟨B++[(encPd p).cells],[],[]⟩ (.ptr B.length 0)=some (.str p.name):=by
   simp only[loadA,List.getElem?_concat_length];rfl
  simp only[opStep,ev,this]
 have l2:Does cfg (.load false 1 (.c (.ptr jj 0))) ⟨B++[(encPd p).cells],[],[]⟩ (.str nm) ⟨B++[(encPd p).cells],[],[]⟩:=fun T=>by
  have:loadA false 1 ⟨B++[(encPd p).cells],[],[]⟩ (.ptr jj 0)=some (.str nm):=by
   simp only[loadA,List.getElem?_append_left hlt,hj];rfl
  simp only[opStep,ev,this]
 refine does_closure (ex:=[(encPd p).cells]) ?_ rfl hB rfl rfl
 rw[l91]
 have key:Goes cfg a91 [.c c91] (initEnv [encPd p,.ptr jj 0]) ⟨B,[],[]⟩ (fun r=>r=(.ret (.bool (p.name==nm)),⟨B++[(encPd p).cells],[],[]⟩)):=by
  exact let ζ1:Heap:={boxes:=B++[(encPd p).cells],toks:=[],loops:=[]:Heap};gG 60 [] trivial (.effY l1<|.effY l2<|.fin ((.ret (.bool (p.name==nm)),{boxes:=B++[[AV.str p.name,.str p.owner,.int .i64 p.prio,.sl .sh (p.need.map encA),.sl .sh (p.labels.map encP),.sl .sh (p.sel.map encM),.sl .sh (p.tols.map encL),.str p.key,.int .i64 p.most,.str p.node,.bool p.hold]],toks:=[],loops:=[]:Heap})) rfl)
 obtain⟨r,h,rfl⟩:=key
 exact h
def idxG(nm:List UInt8)(i:Int):List Pod→Int
 |[]=> -1
 |x::l=>if x.name=nm then i else idxG nm (i+1) l
theorem index_loop{B:List (List AV)}{jj kk n:Nat}{nm:List UInt8}{C:List Pod}(hj:B[jj]?=some [.str nm])(hk:B[kk]?=some (pcs C))(hB:Tame B)(hC:C.length=n)(hn:n<9223372036854775807):∀(post:List Pod)(i:Nat)(hd:C.drop i=post)(T:Env)
 (hT:Has T [(0,.msl kk 0 n 11),(1,.func 91 [.ptr jj 0]),(7,.int .i64 n),(8,.int .i64 i)]),
 Goes cfg a162 k162_0 T ⟨B,[],[]⟩ (fun r=>r=(.ret (.int .i64 (idxG nm i post)),⟨B,[],[]⟩)):=by
 intro post
 induction post with
 |nil=>
  intro i hd T hT
  have hge:=drop_ge hd
  have c1:binA .lss (.int .i64 (i:Nat)) (.int .i64 (n:Nat))=some (.bool false):=lssF (by omega)
  exact gG 60 _ hT (.no (dF ((↑i:Int)<(↑n:Int)))<|.fin ((.ret (.int .i64 (-1:Int)),{boxes:=B,toks:=[],loops:=[]:Heap})) rfl)
 |cons x post ih=>
  intro i hd T hT
  have hlt:=drop_lt hd
  have hnx:=drop_next hd
  have hx:=drop_at hd
  have c1:binA .lss (.int .i64 (i:Nat)) (.int .i64 (n:Nat))=some (.bool true):=lssT (by omega)
  have ld:=loadP (Z:=[]) (by rw[List.append_nil];exact hk) hx
  have i1:idxA 11 (.msl kk 0 n 11) (.int .i64 (i:Nat))=some (.ptr kk (0+i*11)):=idx_msl (by omega)
  have pr:=(pred_any hj hB x).1
  have inc:=inc_i (i:=i) (by omega)
  have ih':=ih (i+1) hnx
  have e:idxG nm i (x::post)=if x.name=nm then(i:Int)else idxG nm (((i+1:Nat):Int)) post:=rfl
  rw[e]
  by_cases h:x.name=nm
  ·rw[show(x.name==nm)=true by simpa using h]at pr
   rw[if_pos h]
   exact let ζ1:Heap:={boxes:=B,toks:=[],loops:=[]:Heap};gG 60 _ hT (.yes (dT ((↑i:Int)<(↑n:Int)))<|.idx i1<|.effY ld<|.effY pr<|.tt<|.fin ((.ret (.int .i64 ↑i),ζ1)) rfl)
  ·rw[show(x.name==nm)=false by simpa using h]at pr
   rw[if_neg h]
   exact let ζ1:Heap:={boxes:=B,toks:=[],loops:=[]:Heap};gG 60 _ hT (.yes (dT ((↑i:Int)<(↑n:Int)))<|.idx i1<|.effY ld<|.effY pr<|.ff<|.bin inc<|.cutQ k162_0 [(0,.msl kk (0:Nat) n (11:Nat)),(1,.func (91:Nat) [.ptr jj (0:Nat)]),(7,.int .i64 ↑n),(8,.int .i64 (↑(i+1)))] (ζ1) (fun T hT=>(ih' T hT)))
theorem index_any{B:List (List AV)}{jj kk n:Nat}{nm:List UInt8}{C:List Pod}(hj:B[jj]?=some [.str nm])(hk:B[kk]?=some (pcs C))(hB:Tame B)(hC:C.length=n)(hn:n<9223372036854775807):
 Does cfg (.callM (.c (.func 162 [])) [.c (.msl kk 0 n 11),.c (.func 91 [.ptr jj 0])]) ⟨B,[],[]⟩ (.int .i64 (idxG nm 0 C)) ⟨B,[],[]⟩:=by
 have key:Goes cfg a162 [.c c162] (initEnv [.msl kk 0 n 11,.func 91 [.ptr jj 0]]) ⟨B,[],[]⟩ (fun r=>r=(.ret (.int .i64 (idxG nm 0 C)),⟨B,[],[]⟩)):=by
  have h1:=index_loop hj hk hB hC hn C 0 rfl
  exact gG 60 [] trivial (.len (rfl:lenA false (.msl kk (0:Nat) n (11:Nat))=some (.int .i64 ↑n))<|.cutQ k162_0 [(0,.msl kk (0:Nat) n (11:Nat)),(1,.func (91:Nat) [.ptr jj (0:Nat)]),(7,.int .i64 ↑n),(8,.int .i64 0)] ({boxes:=B,toks:=[],loops:=[]:Heap}) (fun T hT=>(h1 T hT)))
 obtain⟨r,h,rfl⟩:=key
 have h':lim cfg (.fn 162) [.msl kk 0 n 11,.func 91 [.ptr jj 0]] ⟨B,[],[]⟩=some (.ret (.int .i64 (idxG nm 0 C)),⟨B,[],[]⟩):=by rw[l162];exact h
 have hd:=does_callM (xs:=[.msl kk 0 n 11,.func 91 [.ptr jj 0]]) h' rfl rfl
 have e:=trunc_tame (ex:=[]) (v:=.int .i64 (idxG nm 0 C)) hB rfl
 rw[List.append_nil]at e
 rw[show(⟨B,[],[]⟩:Heap).boxes.length=B.length from rfl,show(⟨B,[],[]⟩:Heap).toks.length=0 from rfl,show shutA (.int .i64 (idxG nm 0 C))=.int .i64 (idxG nm 0 C)from rfl,e]at hd
 exact hd
end Go.Aa.T
set_option linter.unusedVariables false
set_option linter.unusedSimpArgs false
set_option maxRecDepth 100000
namespace Go.Aa.T
open Go.Aa Go.Proofs
abbrev zpc:List AV:=[.str [],.str [],.int .i64 0,.sl .full [],.sl .full [],.sl .full [],.sl .full [],.str [],.int .i64 0,.str [],.bool false]
def offP(nm:List UInt8)(l:List Pod):List Pod:=l.filter fun p=> !(p.name==nm)
theorem store_last{B:List (List AV)}{z:List AV}(p:Pod)(hz:z.length=11):Does cfg (.store 11 (.c (.ptr B.length 0)) (.c (encPd p))) ⟨B++[z],[],[]⟩ .undef ⟨B++[(encPd p).cells],[],[]⟩:=fun T=>by
 have:storeA 11 ⟨B++[z],[],[]⟩ (.ptr B.length 0) (encPd p)=some ⟨B++[(encPd p).cells],[],[]⟩:=by
  simp only[storeA,List.getElem?_concat_length]
  rw[if_pos ⟨by omega,rfl,rfl,by omega⟩,paste_spec _ _ _ (by rw[show(encPd p).cells.length=11 from rfl];omega),List.take_zero,List.nil_append,show(encPd p).cells.length=11 from rfl,List.drop_eq_nil_of_le (by omega),List.append_nil,List.set_append_right _ _ (Nat.le_refl _),Nat.sub_self]
  rfl
 simp only[opStep,ev,this]
theorem load_last{B:List (List AV)}(p:Pod):Does cfg (.load true 11 (.c (.ptr B.length 0))) ⟨B++[(encPd p).cells],[],[]⟩ (encPd p) ⟨B++[(encPd p).cells],[],[]⟩:=fun T=>by
 have:loadA true 11 ⟨B++[(encPd p).cells],[],[]⟩ (.ptr B.length 0)=some (encPd p):=by
  simp only[loadA,List.getElem?_concat_length];rfl
 simp only[opStep,ev,this]
section
variable(B0:List (List AV))(kk jj n:Nat)(nm:List UInt8)
theorem pcs_app(a b:List Pod):pcs (a++b)=pcs a++pcs b:=by simp[pcs,rowCells]
structure DH(C:List Pod)(B:List (List AV)):Prop where
 row:B[kk]?=some (pcs C)
 nme:B[jj]?=some [.str nm]
 tame:Tame B
 from0:∃ex,B=B0.set kk (pcs C)++ex
variable{B0 kk jj n nm}
theorem DH.snoc{C:List Pod}{B:List (List AV)}(h:DH B0 kk jj nm C B){c:List AV}(hc:c.all data0=true):DH B0 kk jj nm C (B++[c]):=by
 obtain⟨ex,e⟩:=h.from0
 have h1:=(List.getElem?_eq_some_iff.1 h.row).1
 have h2:=(List.getElem?_eq_some_iff.1 h.nme).1
 exact⟨by rw[List.getElem?_append_left h1];exact h.row,by rw[List.getElem?_append_left h2];exact h.nme,tame_app h.tame (by simp[hc]),ex++[c],by rw[e,List.append_assoc]⟩
theorem DH.put{C:List Pod}{B:List (List AV)}(h:DH B0 kk jj nm C B)(hkj:kk≠jj)(hk:kk<B0.length)(C':List Pod):DH B0 kk jj nm C' (B.set kk (pcs C')):=by
 obtain⟨ex,e⟩:=h.from0
 have h1:=(List.getElem?_eq_some_iff.1 h.row).1
 refine⟨List.getElem?_set_self h1,by rw[List.getElem?_set_ne hkj];exact h.nme,tame_set h.tame (pcs_data C'),ex,?_⟩
 rw[e,List.set_append_left _ _ (by simpa using hk),List.set_set]
def RetD(B0:List (List AV))(kk n:Nat)(l:List Pod)(r:ARes×Heap):Prop:=∃Z ex,r=(.ret (.msl kk 0 l.length 11),⟨B0.set kk (pcs l++Z)++ex,[],[]⟩)∧Z.all data0=true∧(pcs l++Z).length=n*11
theorem delete_loop(hn:n<9223372036854775807)(hkj:kk≠jj)(hk0:kk<B0.length):∀(post:List Pod)(i:Nat)(U C:List Pod)(B:List (List AV))(hB:DH B0 kk jj nm C B)(hC:C.length=n)(hd:C.drop i=post)(hi:i≤n)(hU:C.take U.length=U)(hl:U.length<i)(T:Env)
 (hT:Has T [(0,.msl kk 0 n 11),(1,.func 91 [.ptr jj 0]),(5,.int .i64 U.length),(6,.int .i64 i)]),
 Goes cfg a89 k89_0 T ⟨B,[],[]⟩ (RetD B0 kk n (U++offP nm post)):=by
 intro post
 induction post with
 |nil=>
  intro i U C B hB hC hd hi hU hl T hT
  have hge:=drop_ge hd
  have hUn:U.length<n:=by omega
  have c1:binA .lss (.int .i64 (i:Nat)) (.int .i64 (n:Nat))=some (.bool false):=lssF (by omega)
  have s1:sliceA 11 (.msl kk 0 n 11) (some (.int .i64 (U.length:Nat))) none none=some (.msl kk (U.length*11) (n-U.length) 11):=by
   simp only[sliceA,sliceM,boundA]
   rw[if_neg (by omega)]
   rw[if_pos ⟨by omega,by omega⟩]
   simp only[Int.toNat_natCast]
   rw[if_pos (by omega)]
   simp
  have s2:sliceA 11 (.msl kk 0 n 11) none (some (.int .i64 (U.length:Nat))) none=some (.msl kk 0 U.length 11):=by
   simp only[sliceA,sliceM,boundA]
   rw[if_neg (by omega)]
   rw[if_pos ⟨by omega,by omega⟩]
   simp only[Int.toNat_natCast]
   rw[if_pos (by omega)]
   simp
  have hz:((List.replicate (n-U.length) zpc).flatten).length=(n-U.length)*11:=by simp
  have hzd:((List.replicate (n-U.length) zpc).flatten).all data0=true:=by
   refine List.all_eq_true.2 fun x hx=> ?_
   obtain⟨l,hl1,hl2⟩:=List.mem_flatten.1 hx
   rw[(List.mem_replicate.1 hl1).2]at hl2
   exact List.all_eq_true.1 (show zpc.all data0=true from rfl) x hl2
  have hpl:=pcs_len C
  have hpu:=pcs_len U
  have hpt:(pcs C).take (U.length*11)=pcs U:=by
   have e:C=U++C.drop U.length:=by
    have:=(List.take_append_drop U.length C).symm
    rwa [hU]at this
   rw[e,pcs_app,List.take_left' hpu]
  have cl:Does cfg (.clearM zpc (.c (.msl kk (U.length*11) (n-U.length) 11))) ⟨B,[],[]⟩ (.tuple []) ⟨B.set kk (pcs U++(List.replicate (n-U.length) zpc).flatten),[],[]⟩:=fun T=>by
   have:clearA zpc ⟨B,[],[]⟩ (.msl kk (U.length*11) (n-U.length) 11)=some ⟨B.set kk (pcs U++(List.replicate (n-U.length) zpc).flatten),[],[]⟩:=by
    simp only[clearA,hB.row]
    rw[if_pos ⟨by omega,rfl,by omega,by omega,rfl⟩,paste_spec _ _ _ (by omega),hpt,List.drop_eq_nil_of_le (by omega),List.append_nil]
   simp only[opStep,ev,this]
  obtain⟨ex,he⟩:=hB.from0
  have hfin:B.set kk (pcs U++(List.replicate (n-U.length) zpc).flatten)=B0.set kk (pcs U++(List.replicate (n-U.length) zpc).flatten)++ex:=by
   rw[he,List.set_append_left _ _ (by simpa using hk0),List.set_set]
  rw[show offP nm []=[]from rfl,List.append_nil]
  generalize(List.replicate (n-U.length) zpc).flatten=Z at cl hz hzd hfin
  rw[hfin]at cl
  have out:RetD B0 kk n U (.ret (.msl kk 0 U.length 11),⟨B0.set kk (pcs U++Z)++ex,[],[]⟩):=⟨Z,ex,rfl,hzd,by rw[List.length_append,hpu,hz];omega⟩
  exact let ζ1:Heap:={boxes:=B0.set kk (pcs U++Z)++ex,toks:=[],loops:=[]:Heap};gG 60 _ hT (.len (rfl:lenA false (.msl kk (0:Nat) n (11:Nat))=some (.int .i64 ↑n))<|.no (dF ((↑i:Int)<(↑n:Int)))<|.slice s1<|.effY cl<|.slice s2<|.fin ((.ret (.msl kk (0:Nat) U.length (11:Nat)),ζ1)) (by exact out))
 |cons x post ih=>
  intro i U C B hB hC hd hi hU hl T hT
  have hlt:=drop_lt hd
  have hnx:=drop_next hd
  have hx:=drop_at hd
  have c1:binA .lss (.int .i64 (i:Nat)) (.int .i64 (n:Nat))=some (.bool true):=lssT (by omega)
  have ld:=loadP (Z:=[]) (by rw[List.append_nil];exact hB.row) hx
  have i1:idxA 11 (.msl kk 0 n 11) (.int .i64 (i:Nat))=some (.ptr kk (0+i*11)):=idx_msl (by omega)
  have s1:=store_last (B:=B) (z:=zpc) x rfl
  have g1:=load_last (B:=B) x
  have hB1:=hB.snoc (pc_data x)
  have pr:=(pred_any hB1.nme hB1.tame x).2
  have inc:=inc_i (i:=i) (by omega)
  by_cases h:x.name=nm
  ·have e:offP nm (x::post)=offP nm post:=by simp[offP,h]
   rw[e]
   rw[show(x.name==nm)=true by simpa using h]at pr
   have ih':=ih (i+1) U C (B++[(encPd x).cells]) hB1 hC hnx (by omega) hU (by omega)
   exact let ζ1:Heap:={boxes:=B++[(encPd x).cells],toks:=[],loops:=[]:Heap};let ζ2:Heap:={boxes:=B,toks:=[],loops:=[]:Heap};gG 90 _ hT (.len (rfl:lenA false (.msl kk (0:Nat) n (11:Nat))=some (.int .i64 ↑n))<|.yes (dT ((↑i:Int)<(↑n:Int)))<|.idx i1<|.effY ld<|.effY s1<|.effY g1<|.effY pr<|.ff<|.bin inc<|.cutQ k89_0 [(0,.msl kk (0:Nat) n (11:Nat)),(1,.func (91:Nat) [.ptr jj (0:Nat)]),(5,.int .i64 (↑U.length)),(6,.int .i64 (↑(i+1)))] ({boxes:=B++[[AV.str x.name,.str x.owner,.int .i64 x.prio,.sl .sh (x.need.map encA),.sl .sh (x.labels.map encP),.sl .sh (x.sel.map encM),.sl .sh (x.tols.map encL),.str x.key,.int .i64 x.most,.str x.node,.bool x.hold]],toks:=[],loops:=[]:Heap}) (fun T hT=>(ih' T hT)))
  ·have e:offP nm (x::post)=x::offP nm post:=by simp[offP,h]
   rw[e]
   rw[show(x.name==nm)=false by simpa using h]at pr
   have i2:idxA 11 (.msl kk 0 n 11) (.int .i64 (U.length:Nat))=some (.ptr kk (0+U.length*11)):=idx_msl (by omega)
   have st:=storeP x hB1.row (j:=U.length) (by omega)
   have inc2:=inc_i (i:=U.length) (by omega)
   have ih':=ih (i+1) (U++[x]) (C.set U.length x) _ (hB1.put hkj hk0 (C.set U.length x)) (by simpa using hC) (by rw[List.drop_set_of_lt (by omega)];exact hnx) (by omega) (by
    rw[List.length_append,List.length_singleton,List.take_add_one,List.getElem?_set_self (by omega),List.take_set_of_le (Nat.le_refl _),hU]
    rfl) (by simp;omega)
   rw[List.append_assoc]at ih'
   have el:((U++[x]).length:Int)=((U.length+1:Nat):Int):=by simp
   rw[el]at ih'
   exact let ζ1:Heap:={boxes:=B++[(encPd x).cells],toks:=[],loops:=[]:Heap};let ζ2:Heap:={boxes:=(B++[(encPd x).cells]).set kk (pcs (C.set U.length x)),toks:=[],loops:=[]:Heap};let ζ3:Heap:={boxes:=B,toks:=[],loops:=[]:Heap};gG 90 _ hT (.len (rfl:lenA false (.msl kk (0:Nat) n (11:Nat))=some (.int .i64 ↑n))<|.yes (dT ((↑i:Int)<(↑n:Int)))<|.idx i1<|.effY ld<|.effY s1<|.effY g1<|.effY pr<|.tt<|.effY g1<|.idx i2<|.effY st<|.bin inc2<|.bin inc<|.cutQ k89_0 [(0,.msl kk (0:Nat) n (11:Nat)),(1,.func (91:Nat) [.ptr jj (0:Nat)]),(5,.int .i64 (↑(U.length+(1:Nat)):Int)),(6,.int .i64 (↑(i+1)))] (ζ2) (fun T hT=>(ih' T hT)))
end
end Go.Aa.T
set_option linter.unusedVariables false
set_option linter.unusedSimpArgs false
set_option maxRecDepth 100000
namespace Go.Aa.T
open Go.Aa Go.Proofs
theorem idx_spec(nm:List UInt8):∀(l:List Pod)(i:Nat),(idxG nm i l= -1∧offP nm l=l)∨∃q,idxG nm i l=((i+q:Nat):Int)∧q<l.length∧offP nm l=l.take q++offP nm (l.drop (q+1))
 |[],i=>.inl ⟨rfl,rfl⟩
 |x::l,i=>by
  have e:idxG nm i (x::l)=if x.name=nm then(i:Int)else idxG nm ((i+1:Nat):Int) l:=rfl
  rw[e]
  by_cases h:x.name=nm
  ·rw[if_pos h]
   exact .inr ⟨0,by simp,by simp,by simp[offP,h]⟩
  ·rw[if_neg h]
   have e2:offP nm (x::l)=x::offP nm l:=by simp[offP,h]
   rw[e2]
   rcases idx_spec nm l (i+1)with⟨h1,h2⟩|⟨q,h1,h2,h3⟩
   ·exact .inl ⟨h1,by rw[h2]⟩
   ·exact .inr ⟨q+1,by rw[h1];congr 1;omega,by simp;omega,by rw[h3];rfl⟩
theorem trunc_all{B:List (List AV)}{ex:List (List AV)}{nb:Nat}{v:AV}(hl:B.length=nb)(hB:Tame B)(hv:within nb 0 v=true):trunc nb 0 v ⟨B++ex,[],[]⟩=⟨B,[],[]⟩:=by
 subst hl;exact trunc_tame hB hv
theorem delete_any{B:List (List AV)}{kk jj n:Nat}{nm:List UInt8}{C:List Pod}(hn:n<9223372036854775807)(hkj:kk≠jj)(hk:B[kk]?=some (pcs C))(hj:B[jj]?=some [.str nm])(hB:Tame B)(hC:C.length=n):
 ∃Z,Z.all data0=true∧(pcs (offP nm C)++Z).length=n*11∧Does cfg (.callM (.c (.func 89 [])) [.c (.msl kk 0 n 11),.c (.func 91 [.ptr jj 0])]) ⟨B,[],[]⟩ (.msl kk 0 (offP nm C).length 11) ⟨B.set kk (pcs (offP nm C)++Z),[],[]⟩:=by
 have hk0:=(List.getElem?_eq_some_iff.1 hk).1
 have hi:=index_any hj hk hB hC hn
 have hself:B.set kk (pcs C)=B:=by
  obtain⟨h1,h2⟩:=List.getElem?_eq_some_iff.1 hk
  rw[←h2];exact List.set_getElem_self h1
 have hDH:DH B kk jj nm C B:=⟨hk,hj,hB,[],by rw[hself,List.append_nil]⟩
 have key:Goes cfg a89 [.c c89] (initEnv [.msl kk 0 n 11,.func 91 [.ptr jj 0]]) ⟨B,[],[]⟩ (RetD B kk n (offP nm C)):=by
  have hsp:(idxG nm 0 C= -1∧offP nm C=C)∨∃q,idxG nm 0 C=((0+q:Nat):Int)∧q<C.length∧offP nm C=C.take q++offP nm (C.drop (q+1)):=idx_spec nm C 0
  rcases hsp with⟨h1,h2⟩|⟨q,h1,h2,h3⟩
  ·rw[h1]at hi
   rw[h2]
   have out:RetD B kk n C (.ret (.msl kk 0 n 11),⟨B,[],[]⟩):=⟨[],[],by rw[hC,List.append_nil,List.append_nil,hself],rfl,by rw[List.append_nil,pcs_len,hC]⟩
   exact let ζ1:Heap:={boxes:=B,toks:=[],loops:=[]:Heap};gG 60 [] trivial (.effCM [.msl kk (0:Nat) n (11:Nat),.func (91:Nat) [.ptr jj (0:Nat)]] hi rfl<|.tt<|.fin ((.ret (.msl kk (0:Nat) n (11:Nat)),ζ1)) (by exact out))
  ·rw[Nat.zero_add]at h1
   rw[h1]at hi
   rw[h3]
   have hl:(C.take q).length=q:=by rw[List.length_take];omega
   have h2':=delete_loop hn hkj hk0 (C.drop (q+1)) (q+1) (C.take q) C B hDH hC rfl (by omega) (by rw[hl]) (by omega)
   rw[hl]at h2'
   have inc:=inc_i (i:=q) (by omega)
   have ne1:binA .eql (.int .i64 (q:Nat)) (.int .i64 (-1))=some (.bool false):=eqlF (by omega)
   exact let ζ1:Heap:={boxes:=B,toks:=[],loops:=[]:Heap};gG 60 [] trivial (.effCM [.msl kk (0:Nat) n (11:Nat),.func (91:Nat) [.ptr jj (0:Nat)]] hi rfl<|.ff<|.bin inc<|.cutQ k89_0 [(0,.msl kk (0:Nat) n (11:Nat)),(1,.func (91:Nat) [.ptr jj (0:Nat)]),(5,.int .i64 ↑q),(6,.int .i64 (↑(q+(1:Nat)):Int))] (ζ1) (fun T hT=>(h2' T hT)))
 obtain⟨r,h,Z,ex,rfl,hZ,hlen⟩:=key
 refine⟨Z,hZ,hlen,?_⟩
 have h':lim cfg (.fn 89) [.msl kk 0 n 11,.func 91 [.ptr jj 0]] ⟨B,[],[]⟩=some (.ret (.msl kk 0 (offP nm C).length 11),⟨B.set kk (pcs (offP nm C)++Z)++ex,[],[]⟩):=by rw[l89];exact h
 have hd:=does_callM (xs:=[.msl kk 0 n 11,.func 91 [.ptr jj 0]]) h' rfl rfl
 have hw:within B.length 0 (.msl kk 0 (offP nm C).length 11)=true:=by simp[within,in2,in1,in0,hk0]
 have e:=trunc_all (ex:=ex) (nb:=B.length) (by simp) (tame_set (k:=kk) hB (by rw[List.all_append,pcs_data,hZ];rfl:(pcs (offP nm C)++Z).all data0=true)) hw
 rw[show(⟨B,[],[]⟩:Heap).boxes.length=B.length from rfl,show(⟨B,[],[]⟩:Heap).toks.length=0 from rfl,show shutA (.msl kk 0 (offP nm C).length 11)=.msl kk 0 (offP nm C).length 11 from rfl,e]at hd
 exact hd
theorem delete_nil{B:List (List AV)}{jj:Nat}(hB:Tame B):Does cfg (.callM (.c (.func 89 [])) [.c (.sl .nil []),.c (.func 91 [.ptr jj 0])]) ⟨B,[],[]⟩ (.sl .nil []) ⟨B,[],[]⟩:=by
 have lp:∀(T:Env)(hT:Has T [(7,.int .i64 ((([]:List AV).length:Nat):Int)),(8,.int .i64 0)]),Goes cfg a162 k162_0 T ⟨B,[],[]⟩ (fun r=>r=(.ret (.int .i64 (-1)),⟨B,[],[]⟩)):=by
  intro T hT
  exact gG 60 _ hT (.ff<|.fin ((.ret (.int .i64 (-1:Int)),{boxes:=B,toks:=[],loops:=[]:Heap})) rfl)
 have k1:Goes cfg a162 [.c c162] (initEnv [.sl .nil [],.func 91 [.ptr jj 0]]) ⟨B,[],[]⟩ (fun r=>r=(.ret (.int .i64 (-1)),⟨B,[],[]⟩)):=by
  exact gG 60 [] trivial (.len (show lenA false (.sl .nil [])=some (.int .i64 (↑[].length:Int))from len_sl _ _)<|.cutQ k162_0 [(7,.int .i64 (↑[].length:Int)),(8,.int .i64 0)] ({boxes:=B,toks:=[],loops:=[]:Heap}) (fun T hT=>(lp T hT)))
 obtain⟨r,h,rfl⟩:=k1
 have h':lim cfg (.fn 162) [.sl .nil [],.func 91 [.ptr jj 0]] ⟨B,[],[]⟩=some (.ret (.int .i64 (-1)),⟨B,[],[]⟩):=by rw[l162];exact h
 have hd:=does_callM (xs:=[.sl .nil [],.func 91 [.ptr jj 0]]) h' rfl rfl
 have e:=trunc_tame (ex:=[]) (v:=.int .i64 (-1)) hB rfl
 rw[List.append_nil]at e
 rw[show(⟨B,[],[]⟩:Heap).boxes.length=B.length from rfl,show(⟨B,[],[]⟩:Heap).toks.length=0 from rfl,show shutA (.int .i64 (-1))=.int .i64 (-1)from rfl,e]at hd
 have hd':Does cfg (.callM (.c (.func 162 [])) [.c (.sl .nil []),.c (.func 91 [.ptr jj 0])]) ⟨B,[],[]⟩ (.int .i64 (-1)) ⟨B,[],[]⟩:=hd
 have k2:Goes cfg a89 [.c c89] (initEnv [.sl .nil [],.func 91 [.ptr jj 0]]) ⟨B,[],[]⟩ (fun r=>r=(.ret (.sl .nil []),⟨B,[],[]⟩)):=by
  exact let ζ1:Heap:={boxes:=B,toks:=[],loops:=[]:Heap};gG 60 [] trivial (.effY hd'<|.tt<|.fin ((.ret (.sl .nil []),ζ1)) rfl)
 obtain⟨r,h2,rfl⟩:=k2
 have h2':lim cfg (.fn 89) [.sl .nil [],.func 91 [.ptr jj 0]] ⟨B,[],[]⟩=some (.ret (.sl .nil []),⟨B,[],[]⟩):=by rw[l89];exact h2
 have hd2:=does_callM (xs:=[.sl .nil [],.func 91 [.ptr jj 0]]) h2' rfl rfl
 have e2:=trunc_tame (ex:=[]) (v:=.sl .nil []) hB rfl
 rw[List.append_nil]at e2
 rw[show(⟨B,[],[]⟩:Heap).boxes.length=B.length from rfl,show(⟨B,[],[]⟩:Heap).toks.length=0 from rfl,show shutA (.sl .nil [])=.sl .nil []from rfl,e2]at hd2
 exact hd2
end Go.Aa.T
