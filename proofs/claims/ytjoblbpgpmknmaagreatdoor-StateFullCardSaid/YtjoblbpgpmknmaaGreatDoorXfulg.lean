/-
  WHAT THE LAW LEANS ON, part 7 of 8: a machine of values and its soundness; the functions of the law upon it; what they come to.
-/
import Derived.Test.YtjoblbpgpmknmaaGreatDoorXfulf
set_option linter.unusedVariables false
set_option linter.unusedSimpArgs false
set_option maxRecDepth 100000
namespace Go.Aa.T
open Go.Aa Go.Proofs
structure StIn(s:St):Prop where
 nodes:s.nodes.length<9223372036854775807
 pods:s.pods.length≤1000
 cap:∀n∈s.nodes,Vin n.cap
 need:∀p∈s.pods,Vin p.need
theorem lenPd{l:List Pod}:lenOk 11 (l.map encPd)=true:=lenOk_map fun _=>rfl
theorem on_loop(s:St)(name:List UInt8)(hs:s.pods.length≤1000):∀(post:List Pod)(i:Nat)(hd:s.pods.drop i=post)(acc:List Pod)(ha:acc.length≤i)(ex:List (List AV))(T:Env)
 (hT:Has T [(1,.str name),(5,rowF encPd acc),(9,.sl .sh (s.pods.map encPd)),(10,.int .i64 s.pods.length),(11,.int .i64 i)]),
 Goes cfg a41 k41_0 T ⟨(encSt s).cells::ex,tkR encPd acc,[]⟩ (IsRet (rowF encPd (acc++post.filter (onP name)))):=by
 intro post
 induction post with
 |nil=>
  intro i hd acc ha ex T hT
  have hge:=drop_ge hd
  rw[show acc++([]:List Pod).filter (onP name)=acc by simp]
  exact goG 60 _ hT (.no (decide_eq_false (p:=(↑i:Int)<(↑s.pods.length:Int)) (by omega))<|.fin ((.ret (.sl (skF acc) (acc.map encPd)),{boxes:=[.sl .sh (s.nodes.map encN),.sl .sh (s.pods.map encPd),.sl .sh (s.buds.map encB)]::ex,toks:=tkR encPd acc,loops:=[]:Heap})) rfl) (by kernel_rfl)
 |cons x post ih=>
  intro i hd acc ha ex T hT
  have hlt:=drop_lt hd
  have hnx:=drop_next hd
  by_cases hq:onP name x=true
  ·have e:acc++(x::post).filter (onP name)=(acc++[x])++post.filter (onP name):=by simp[List.filter_cons,hq]
   rw[e]
   have ih':=ih (i+1) hnx (acc++[x]) (by simp;omega) (ex++[(encPd x).cells])
   have ap:∀bs ls,appendA 11 184 ⟨bs,tkR encPd acc,ls⟩ (rowF encPd acc) (.sl .full [encPd x])=some (rowF encPd (acc++[x]),⟨bs,tkR encPd (acc++[x]),ls⟩):=fun bs ls=>
    row_append_T encPd (x:=x) (by simp;omega) lenPd rfl rfl
   unfold onP at hq
   simp only[Bool.and_eq_true,beq_iff_eq,Bool.not_eq_true',beq_eq_false_iff_ne]at hq
   obtain⟨q1,q2⟩:=hq
   exact let ζ1:List AV:=[.str x.name,.str x.owner,.int .i64 x.prio,.sl .sh (x.need.map encA),.sl .sh (x.labels.map encP),.sl .sh (x.sel.map encM),.sl .sh (x.tols.map encL),.str x.key,.int .i64 x.most,.str x.node,.bool x.hold];let ζ2:List AV:=[.sl .sh (s.nodes.map encN),.sl .sh (s.pods.map encPd),.sl .sh (s.buds.map encB)];let ζ3:Heap:={boxes:=ζ2::(ex++[ζ1]),toks:=tkR encPd acc,loops:=[]:Heap};let ζ4:List AV:=[.str [],.str [],.int .i64 0,.sl .full [],.sl .full [],.sl .full [],.sl .full [],.str [],.int .i64 0,.str [],.bool false];let ζ5:Heap:={boxes:=ζ2::(ex++[ζ1]),toks:=tkR encPd (acc++[x]),loops:=[]:Heap};goG 120 _ hT (.yes (decide_eq_true (p:=(↑i:Int)<(↑s.pods.length:Int)) (by omega))<|.idx (show idxA 11 (.sl .sh (s.pods.map encPd)) (.int .i64 ↑i)=some (.ref (encPd x).cells)from idx_row hd (by rfl))<|.load (rfl:loadA true 11 {boxes:=ζ2::ex,toks:=tkR encPd acc,loops:=[]:Heap} (.ref ζ1)=some (.agg ζ1))<|.store (show storeA 11 {boxes:=ζ2::(ex++[ζ4]),toks:=tkR encPd acc,loops:=[]:Heap} (.ptr (ζ2::ex).length (0:Nat)) (.agg ζ1)=some (ζ3)from store_box2 (cs:=ζ4) (cs':=ζ1) (by simp+zetaDelta) rfl (by simp+zetaDelta [List.set_append]))<|.load (show loadA false 1 ζ3 (.ptr (ζ2::ex).length (9:Nat))=some (.str x.node)from load_box (cs:=ζ1) (by simp+zetaDelta) rfl)<|.yes (show(x.node==name)=true from(by simpa using q1))<|.yes (show(!name==[])=true from by have hh:¬((name==[])=true):=(by simpa using q2);simp[hh])<|.load (show loadA true 11 ζ3 (.ptr (ζ2::ex).length (0:Nat))=some (.agg ζ1)from load_box (cs:=ζ1) (by simp+zetaDelta) rfl)<|.append (show appendA (11:Nat) (184:Nat) ζ3 (.sl (skF acc) (acc.map encPd)) (.sl .full [.agg ζ1])=some ((rowF encPd (acc++[x]),ζ5))from ap _ _)<|.bin (show binA .add (.int .i64 ↑i) (.int .i64 1)=some (.int .i64 (↑(i+1)))from inc_i (by omega))<|.cutQ k41_0 [(1,.str name),(5,.sl (skF (acc++[x])) (List.map encPd (acc++[x]))),(9,.sl .sh (s.pods.map encPd)),(10,.int .i64 (↑s.pods.length)),(11,.int .i64 (↑(i+1)))] (ζ5) (fun T hT=>(ih' T hT))) (by kernel_rfl)
  ·have e:acc++(x::post).filter (onP name)=acc++post.filter (onP name):=by simp[List.filter_cons,hq]
   rw[e]
   have ih':=ih (i+1) hnx acc (by omega) (ex++[(encPd x).cells])
   by_cases q1:x.node=name
   ·have q2:name=[]:=by
     unfold onP at hq
     simpa[q1]using hq
    exact let ζ1:List AV:=[.str x.name,.str x.owner,.int .i64 x.prio,.sl .sh (x.need.map encA),.sl .sh (x.labels.map encP),.sl .sh (x.sel.map encM),.sl .sh (x.tols.map encL),.str x.key,.int .i64 x.most,.str x.node,.bool x.hold];let ζ2:List AV:=[.sl .sh (s.nodes.map encN),.sl .sh (s.pods.map encPd),.sl .sh (s.buds.map encB)];let ζ3:List AV:=[.str [],.str [],.int .i64 0,.sl .full [],.sl .full [],.sl .full [],.sl .full [],.str [],.int .i64 0,.str [],.bool false];let ζ4:Heap:={boxes:=ζ2::(ex++[ζ1]),toks:=tkR encPd acc,loops:=[]:Heap};goG 120 _ hT (.yes (decide_eq_true (p:=(↑i:Int)<(↑s.pods.length:Int)) (by omega))<|.idx (show idxA 11 (.sl .sh (s.pods.map encPd)) (.int .i64 ↑i)=some (.ref (encPd x).cells)from idx_row hd (by rfl))<|.load (rfl:loadA true 11 {boxes:=ζ2::ex,toks:=tkR encPd acc,loops:=[]:Heap} (.ref ζ1)=some (.agg ζ1))<|.store (show storeA 11 {boxes:=ζ2::(ex++[ζ3]),toks:=tkR encPd acc,loops:=[]:Heap} (.ptr (ζ2::ex).length (0:Nat)) (.agg ζ1)=some (ζ4)from store_box2 (cs:=ζ3) (cs':=ζ1) (by simp+zetaDelta) rfl (by simp+zetaDelta [List.set_append]))<|.load (show loadA false 1 ζ4 (.ptr (ζ2::ex).length (9:Nat))=some (.str x.node)from load_box (cs:=ζ1) (by simp+zetaDelta) rfl)<|.yes (show(x.node==name)=true from(by simpa using q1))<|.no (show(!name==[])=false from by have hh:(name==[])=true:=(by simpa using q2);simp[hh])<|.bin (show binA .add (.int .i64 ↑i) (.int .i64 1)=some (.int .i64 (↑(i+1)))from inc_i (by omega))<|.cutQ k41_0 [(1,.str name),(5,.sl (skF acc) (acc.map encPd)),(9,.sl .sh (s.pods.map encPd)),(10,.int .i64 (↑s.pods.length)),(11,.int .i64 (↑(i+1)))] (ζ4) (fun T hT=>(ih' T hT))) (by kernel_rfl)
   ·exact let ζ1:List AV:=[.str x.name,.str x.owner,.int .i64 x.prio,.sl .sh (x.need.map encA),.sl .sh (x.labels.map encP),.sl .sh (x.sel.map encM),.sl .sh (x.tols.map encL),.str x.key,.int .i64 x.most,.str x.node,.bool x.hold];let ζ2:List AV:=[.sl .sh (s.nodes.map encN),.sl .sh (s.pods.map encPd),.sl .sh (s.buds.map encB)];let ζ3:List AV:=[.str [],.str [],.int .i64 0,.sl .full [],.sl .full [],.sl .full [],.sl .full [],.str [],.int .i64 0,.str [],.bool false];let ζ4:Heap:={boxes:=ζ2::(ex++[ζ1]),toks:=tkR encPd acc,loops:=[]:Heap};goG 120 _ hT (.yes (decide_eq_true (p:=(↑i:Int)<(↑s.pods.length:Int)) (by omega))<|.idx (show idxA 11 (.sl .sh (s.pods.map encPd)) (.int .i64 ↑i)=some (.ref (encPd x).cells)from idx_row hd (by rfl))<|.load (rfl:loadA true 11 {boxes:=ζ2::ex,toks:=tkR encPd acc,loops:=[]:Heap} (.ref ζ1)=some (.agg ζ1))<|.store (show storeA 11 {boxes:=ζ2::(ex++[ζ3]),toks:=tkR encPd acc,loops:=[]:Heap} (.ptr (ζ2::ex).length (0:Nat)) (.agg ζ1)=some (ζ4)from store_box2 (cs:=ζ3) (cs':=ζ1) (by simp+zetaDelta) rfl (by simp+zetaDelta [List.set_append]))<|.load (show loadA false 1 ζ4 (.ptr (ζ2::ex).length (9:Nat))=some (.str x.node)from load_box (cs:=ζ1) (by simp+zetaDelta) rfl)<|.no (show(x.node==name)=false from Bool.eq_false_iff.2 (by simpa using q1))<|.ff<|.bin (show binA .add (.int .i64 ↑i) (.int .i64 1)=some (.int .i64 (↑(i+1)))from inc_i (by omega))<|.cutQ k41_0 [(1,.str name),(5,.sl (skF acc) (acc.map encPd)),(9,.sl .sh (s.pods.map encPd)),(10,.int .i64 (↑s.pods.length)),(11,.int .i64 (↑(i+1)))] (ζ4) (fun T hT=>(ih' T hT))) (by kernel_rfl)
theorem on_any(s:St)(name:List UInt8)(hs:s.pods.length≤1000):Gives cfg 41 [encSt s,.str name] (rowF encPd (onS s name)):=by
 refine Gives.run (l41 _ _) ?_
 have h:=on_loop s name hs s.pods 0 rfl [] (by simp) []
 have e:rowF encPd ([]:List Pod)=.sl .full []:=rfl
 rw[e,tk_nil,List.nil_append]at h
 exact goG 60 [] trivial (.len (show lenA false (.sl .sh (s.pods.map encPd))=some (.int .i64 (↑s.pods.length))from len_map _)<|.cutQ k41_0 [(1,.str name),(5,.sl .full []),(9,.sl .sh (s.pods.map encPd)),(10,.int .i64 (↑s.pods.length)),(11,.int .i64 0)] ({boxes:=[[.sl .sh (s.nodes.map encN),.sl .sh (s.pods.map encPd),.sl .sh (s.buds.map encB)]],toks:=[],loops:=[]:Heap}) (fun T hT=>(h T hT))) (by kernel_rfl)
def usedS(s:St)(name:List UInt8):List Amount×Int:=match findG Node.name s.nodes name with
 |none=>([],3)
 |some _=>sumG [] ((onS s name).map (·.need))
theorem on_mem{s:St}{name:List UInt8}{p:Pod}(h:p∈onS s name):p∈s.pods:=(List.mem_filter.1 h).1
theorem on_len(s:St)(name:List UInt8):(onS s name).length≤s.pods.length:=List.length_filter_le _ _
theorem used_any(s:St)(name:List UInt8)(hs:StIn s):∃c,Gives cfg 33 [encSt s,.str name] (resV c (usedS s name)):=by
 have h1:=findN_any s.nodes name hs.nodes
 cases hf:findG Node.name s.nodes name with
 |none=>
  rw[hf]at h1
  have e:usedS s name=([],3):=by unfold usedS;rw[hf]
  rw[e]
  refine⟨false,Gives.run (l33 _ _) ?_⟩
  exact let ζ1:List AV:=[.str [],.sl .sh [],.sl .sh [],.sl .sh [],.bool false];let ζ2:List AV:=[.sl .sh (s.nodes.map encN),.str name];goG 60 [] trivial (.callK (ζ2) (.tuple [.agg ζ1,.bool false]) (show Gives cfg (79:FuncId) ζ2 (findNV none)from h1)<|.tt<|.fin ((.ret (.tuple [.sl .full [],.int .i64 3]),{boxes:=[[.sl .sh (s.nodes.map encN),.sl .sh (s.pods.map encPd),.sl .sh (s.buds.map encB)],ζ1],toks:=[],loops:=[]:Heap})) rfl) (by kernel_rfl)
 |some n=>
  rw[hf]at h1
  have e:usedS s name=sumG [] ((onS s name).map (·.need)):=by unfold usedS;rw[hf]
  rw[e]
  have h2:=on_any s name hs.pods
  obtain⟨c,h3⟩:=sumP_any (onS s name) (by have:=on_len s name;have:=hs.pods;omega) (fun p hp=>hs.need p (on_mem hp))
  generalize sumG [] ((onS s name).map (·.need))=z at h3⊢
  refine⟨true,Gives.run (l33 _ _) ?_⟩
  exact let ζ1:List AV:=[.str n.name,.sl .sh (n.cap.map encA),.sl .sh (n.labels.map encP),.sl .sh (n.taints.map encT),.bool n.cordon];let ζ2:List AV:=[.sl .sh (s.nodes.map encN),.sl .sh (s.pods.map encPd),.sl .sh (s.buds.map encB)];let ζ3:List AV:=[.sl .sh (z.fst.map encA),.int .i64 z.snd];let ζ4:List AV:=[.sl .sh (s.nodes.map encN),.str name];goG 90 [] trivial (.callK (ζ4) (.tuple [.agg ζ1,.bool true]) (show Gives cfg (79:FuncId) ζ4 (findNV (some n))from h1)<|.ff<|.callG ([.agg ζ2,.str name]) (.sl .sh (List.map encPd (onS s name))) (show Gives cfg (41:FuncId) [encSt s,.str name] (rowF encPd (onS s name))from h2) ⟨rfl,rfl⟩ Res.p<|.callG ([.sl .sh (List.map encPd (onS s name)),.func (107:Nat) []]) (.tuple ζ3) (show Gives cfg (106:FuncId) [.sl .sh (List.map encPd (onS s name)),.func (107:FuncId) []] (resV c z)from h3) ⟨rfl,rfl⟩ Res.p<|.fin ((.ret (.tuple ζ3),{boxes:=[ζ2,ζ1],toks:=[],loops:=[]:Heap})) rfl) (by kernel_rfl)
def totalS(s:St):List Amount×Int:=sumG [] (s.nodes.map (·.cap))
theorem total_any(s:St)(hs:StIn s):∃c,Gives cfg 39 [encSt s] (resV c (totalS s)):=by
 obtain⟨c,h3⟩:=sumN_any s.nodes hs.nodes hs.cap
 unfold totalS
 generalize sumG [] (s.nodes.map (·.cap))=z at h3⊢
 refine⟨true,Gives.run (l39 _ _) ?_⟩
 exact let ζ1:List AV:=[.sl .sh (z.fst.map encA),.int .i64 z.snd];goG 90 [] trivial (.callG ([.sl .sh (s.nodes.map encN),.func (112:Nat) []]) (.tuple ζ1) (show Gives cfg (111:FuncId) [.sl .sh (s.nodes.map encN),.func (112:FuncId) []] (resV c z)from h3) ⟨rfl,rfl⟩ Res.p<|.fin ((.ret (.tuple ζ1),{boxes:=[[.sl .sh (s.nodes.map encN),.sl .sh (s.pods.map encPd),.sl .sh (s.buds.map encB)]],toks:=[],loops:=[]:Heap})) rfl) (by kernel_rfl)
theorem sumG_in:∀(vs:List (List Amount))(acc:List Amount),acc.length≤8∧rgA acc→(sumG acc vs).1.length≤8∧rgA (sumG acc vs).1
 |[],acc,h=>h
 |v::vs,acc,h=>by
  unfold sumG
  split
  ·exact sumG_in vs _ ⟨(addV_rg acc v).2,(addV_rg acc v).1⟩
  ·exact⟨by simp,fun x hx=>by cases hx⟩
theorem usedS_in(s:St)(name:List UInt8):(usedS s name).1.length≤8∧rgA (usedS s name).1:=by
 unfold usedS
 split
 ·exact⟨by simp,fun x hx=>by cases hx⟩
 ·exact sumG_in _ _ ⟨by simp,fun x hx=>by cases hx⟩
end Go.Aa.T
set_option linter.unusedVariables false
set_option linter.unusedSimpArgs false
set_option maxRecDepth 100000
namespace Go.Aa.T
open Go.Aa Go.Proofs
section
variable{call:CallF}{i p:Nat}{o:AOper}{ops:List AOper}{T:Env}{H H':Heap}{u v:AV}
theorem runD_val(hg:o.guard=none)(h:opStepD call o.op T H=some (.val u H')):runD call i (o::ops) none T H=runD call (i+1) ops none (setD T o.dst u) H':=by
 simp only[runD,wantedA,hg,h]
theorem runO_val(hg:o.guard=none)(h:opStep call o.op T H=some (.val u H')):runOps call (o::ops) T H=runOps call ops (setD T o.dst u) H':=by
 simp only[runOps,wantedA,hg,h]
theorem runD_pan(hg:o.guard=none)(h:opStepD call o.op T H=some (.pan v H')):runD call i (o::ops) none T H=runD call (i+1) ops (some (i,v)) T H':=by
 simp only[runD,wantedA,hg,h]
theorem runD_skip(hd:o.deps.contains p=true):runD call i (o::ops) (some (p,v)) T H=runD call (i+1) ops (some (p,v)) T H:=by
 simp only[runD,hd,if_true]
theorem runD_look(hd:o.deps.contains p=false)(hg:o.guard=none)(h:opStepD call o.op T H=some (.val u H')):runD call i (o::ops) (some (p,v)) T H=runD call (i+1) ops (some (p,v)) (setD T o.dst u) H':=by
 simp only[runD,wantedA,hd,hg,h,Bool.false_eq_true,if_false]
end
theorem Goes.imp{A:AFunc}{k:List AIt}{T:Env}{H:Heap}{R R':ARes×Heap→Prop}(h:Goes cfg A k T H R)(hi:∀r,R r→R' r):Goes cfg A k T H R':=by
 obtain⟨r,h1,h2⟩:=h
 exact⟨r,h1,hi r h2⟩
theorem load_any{agg:Bool}{n k off:Nat}{H:Heap}{cs:List AV}{v:AV}(h:H.boxes[k]?=some cs)(e:loadA agg n ⟨[cs],[],[]⟩ (.ptr 0 off)=some v)(T:Env):opStepD (lim cfg) (.load agg n (.c (.ptr k off))) T H=some (.val v H):=by
 simp only[opStepD,opStep,ev,load_box h e]
def ops50:List AOper:=[⟨some 50,.load true 3 (.t 0),none,[]⟩,⟨some 51,.fld 0 1 (.t 6),none,[]⟩,⟨some 52,.load false 1 (.t 51),none,[1]⟩,⟨some 53,.call (.c (.func 33 [])) [(.t 50),(.t 52)],none,[1,2,0]⟩,⟨some 54,.extract (.t 53) 0,none,[0,2,1,3]⟩,⟨some 55,.extract (.t 53) 1,none,[0,2,1,3]⟩,⟨some 56,.call (.c (.func 105 [])) [(.t 54),(.t 55)],none,[5,3,1,2,0,4]⟩,⟨some 57,.fld 1 1 (.t 6),none,[]⟩,⟨some 58,.load false 1 (.t 57),none,[7]⟩,⟨some 59,.call (.c (.func 58 [])) [(.t 56),(.t 58)],none,[7,8,4,0,2,1,3,5,6]⟩,⟨some 60,.un .not (.t 59),none,[6,5,3,1,2,0,4,8,7,9]⟩]
theorem room_reg(s:St)(x:Node)(ex:List (List AV))(w:List Amount)(er:Int)(h0:¬er=0)(c:Bool)(h1:Gives cfg 33 [encSt s,.str x.name] (resV c (w,er)))(T:Env)(t0:T 0=.ptr 0 0)(t6:T 6=.ptr (ex.length+1) 0):
 regionA (lim cfg) true ops50 T ⟨(encSt s).cells::(ex++[(encN x).cells]),[],[]⟩=
 some (.pan (stopV er) ⟨(encSt s).cells::(ex++[(encN x).cells]),[],[]⟩):=by
 have hb:(⟨(encSt s).cells::(ex++[(encN x).cells]),[],[]⟩:Heap).boxes[ex.length+1]?=some (encN x).cells:=by
  show((encSt s).cells::(ex++[(encN x).cells]))[ex.length+1]?=_
  rw[List.getElem?_cons_succ,List.getElem?_append_right (Nat.le_refl _),Nat.sub_self];rfl
 have hp:=takeN_A (w.map encA) h0
 have m1:=fun T H=>givesD (xs:=[encSt s,.str x.name]) (w:=.tuple [.sl .sh (w.map encA),.int .i64 er]) h1 ⟨rfl,rfl⟩ (by cases c<;>exact⟨rfl,rfl⟩) T H
 have m2:=fun T H=>pansD (xs:=[.sl .sh (w.map encA),.int .i64 er]) hp ⟨rfl,rfl⟩ rfl H T
 have l1:=fun T=>load_any (H:=⟨(encSt s).cells::(ex++[(encN x).cells]),[],[]⟩) (k:=0) (agg:=true) (n:=3) (off:=0) (v:=encSt s) (cs:=(encSt s).cells) rfl rfl T
 have l2:=fun T=>load_any (agg:=false) (n:=1) (off:=0) (v:=.str x.name) hb rfl T
 have l3:=fun T=>load_any (agg:=false) (n:=1) (off:=1) (v:=.sl .sh (x.cap.map encA)) hb rfl T
 generalize(⟨(encSt s).cells::(ex++[(encN x).cells]),[],[]⟩:Heap)=H at l1 l2 l3⊢
 have st:∀(T:Env)(o:AOp)(q:AOp)(r:Option Out),clOp T o=q→opStepD (lim cfg) q T H=r→opStepD (lim cfg) o T H=r:=fun T o q r h1 h2=>by
  rw[←cl_stepD _ T T,h1];exact h2
 change runD (lim cfg) 0 ops50 none T H=_
 unfold ops50
 refine Eq.trans (runD_val (u:=encSt s) (H':=H) rfl ?h) ?_
 case h=>exact st _ _ _ _ (by simp only[clOp,cl,ev,t0]) (l1 _)
 refine Eq.trans (runD_val (u:=.ptr (ex.length+1) 0) (H':=H) rfl ?h) ?_
 case h=>simp[opStepD,opStep,pureOp,ev,setD,upd_eq,t6,fldA]
 refine Eq.trans (runD_val (u:=.str x.name) (H':=H) rfl ?h) ?_
 case h=>exact st _ _ _ _ (by simp[clOp,cl,ev,setD,upd_eq]) (l2 _)
 refine Eq.trans (runD_val (u:=.tuple [.sl .sh (w.map encA),.int .i64 er]) (H':=H) rfl ?h) ?_
 case h=>exact st _ _ _ _ (by simp[clOp,cl,ev,setD,upd_eq]) (m1 _ _)
 refine Eq.trans (runD_val (u:=.sl .sh (w.map encA)) (H':=H) rfl ?h) ?_
 case h=>simp[opStepD,opStep,pureOp,ev,setD,upd_eq,extractA]
 refine Eq.trans (runD_val (u:=.int .i64 er) (H':=H) rfl ?h) ?_
 case h=>simp[opStepD,opStep,pureOp,ev,setD,upd_eq,extractA]
 refine Eq.trans (runD_pan (v:=stopV er) (H':=H) rfl ?h) ?_
 case h=>exact st _ _ _ _ (by simp[clOp,cl,ev,setD,upd_eq]) (m2 _ _)
 refine Eq.trans (runD_look (u:=.ptr (ex.length+1) 1) (H':=H) rfl rfl ?h) ?_
 case h=>simp[opStepD,opStep,pureOp,ev,setD,upd_eq,t6,fldA]
 refine Eq.trans (runD_look (u:=.sl .sh (x.cap.map encA)) (H':=H) rfl rfl ?h) ?_
 case h=>exact st _ _ _ _ (by simp[clOp,cl,ev,setD,upd_eq]) (l3 _)
 refine Eq.trans (runD_skip rfl) ?_
 refine Eq.trans (runD_skip rfl) ?_
 rfl
theorem room_pan(s:St)(x:Node)(ex:List (List AV))(w:List Amount)(er:Int)(h0:¬er=0)(c:Bool)(h1:Gives cfg 33 [encSt s,.str x.name] (resV c (w,er)))(i:Nat)(hlt:i<s.nodes.length)(hxi:idxA 5 (.sl .sh (s.nodes.map encN)) (.int .i64 (i:Nat))=some (.ref (encN x).cells))
 (T:Env)(hT:Has T [(0,.ptr 0 0),(44,.sl .sh (s.nodes.map encN)),(45,.int .i64 s.nodes.length),(46,.int .i64 i)]):
 Goes cfg a100 k100_1 T ⟨(encSt s).cells::ex,[],[]⟩ (fun r=>r.1=.pan (stopV er)):=by
 obtain⟨t0,t44,t45,t46,-⟩:=hT
 have r1:regionA (lim cfg) false [⟨some 47,.bin .lss (.t 46) (.t 45),none,[]⟩] T ⟨(encSt s).cells::ex,[],[]⟩=some (.env (upd T 47 (.bool true)) ⟨(encSt s).cells::ex,[],[]⟩):=by
  have hl:binA .lss (.int .i64 (i:Nat)) (.int .i64 (s.nodes.length:Nat))=some (.bool true):=lssT (by omega)
  simp only[regionA,Bool.false_eq_true,if_false,runOps,wantedA,opStep,pureOp,ev,setD,t46,t45,hl]
 have r2:∃T',regionA (lim cfg) false [⟨some 48,.idx 5 (.t 44) (.t 46),none,[]⟩,⟨some 49,.load true 5 (.t 48),none,[]⟩,⟨some 6,.box (.c (.agg [(.str []),(.sl .full []),(.sl .full []),(.sl .full []),(.bool false)])),none,[]⟩,⟨none,.store 5 (.t 6) (.t 49),none,[]⟩] (upd T 47 (.bool true)) ⟨(encSt s).cells::ex,[],[]⟩=
  some (.env T' ⟨(encSt s).cells::(ex++[(encN x).cells]),[],[]⟩)∧T' 0=.ptr 0 0∧T' 6=.ptr (ex.length+1) 0:=by
  have hl:loadA true 5 ⟨(encSt s).cells::ex,[],[]⟩ (.ref (encN x).cells)=some (encN x):=rfl
  have hs:storeA 5 ⟨(encSt s).cells::ex++[[.str [],.sl .full [],.sl .full [],.sl .full [],.bool false]],[],[]⟩ (.ptr (ex.length+1) 0) (encN x)=some ⟨(encSt s).cells::(ex++[(encN x).cells]),[],[]⟩:=by
   have hb:((encSt s).cells::ex++[[.str [],.sl .full [],.sl .full [],.sl .full [],.bool false]])[ex.length+1]?=some [.str [],.sl .full [],.sl .full [],.sl .full [],.bool false]:=by
    rw[List.cons_append,List.getElem?_cons_succ,List.getElem?_append_right (Nat.le_refl _),Nat.sub_self];rfl
   rw[store_box (cs:=[.str [],.sl .full [],.sl .full [],.sl .full [],.bool false]) (cs':=(encN x).cells) hb rfl]
   simp[List.set_append]
  refine⟨setD (setD (setD (setD (upd T 47 (.bool true)) (some 48) (.ref (encN x).cells)) (some 49) (encN x)) (some 6) (.ptr (ex.length+1) 0)) none .undef,?_,?_,?_⟩
  ·change runOps (lim cfg) _ _ _=_
   refine Eq.trans (runO_val (u:=.ref (encN x).cells) (H':=⟨(encSt s).cells::ex,[],[]⟩) rfl ?h) ?_
   case h=>simp[opStep,pureOp,ev,upd_eq,t44,t46,hxi]
   refine Eq.trans (runO_val (u:=encN x) (H':=⟨(encSt s).cells::ex,[],[]⟩) rfl ?h) ?_
   case h=>simp only[opStep,ev,setD,upd_eq,if_true,hl]
   refine Eq.trans (runO_val (u:=.ptr (ex.length+1) 0) (H':=⟨(encSt s).cells::ex++[[.str [],.sl .full [],.sl .full [],.sl .full [],.bool false]],[],[]⟩) rfl ?h) ?_
   case h=>simp[opStep,ev,boxA,AV.cells]
   refine Eq.trans (runO_val (u:=.undef) (H':=⟨(encSt s).cells::(ex++[(encN x).cells]),[],[]⟩) rfl ?h) ?_
   case h=>
    simp only[opStep,ev,setD,upd_eq,if_true,Nat.reduceEqDiff,if_false]
    rw[hs]
   rfl
  ·simp[setD,upd_eq,t0]
  ·simp[setD,upd_eq]
 obtain⟨T',r2,t0',t6'⟩:=r2
 have r3:=room_reg s x ex w er h0 c h1 T' t0' t6'
 refine⟨(.pan (stopV er),⟨(encSt s).cells::(ex++[(encN x).cells]),[],[]⟩),?_,rfl⟩
 rw[show k100_1=.lp b100_1::k100_1.tail from rfl,runL_lp]
 generalize k100_1.tail=tl
 generalize hbb:(AIt.lp b100_1::tl)=tl2
 unfold b100_1
 rw[runL_seq]
 erw [runL_region,r1]
 simp only
 rw[runL_seq,runL_cond]
 rw[show ev (upd T 47 (.bool true)) (.t 47)=.bool true from rfl]
 simp only[if_true]
 rw[runL_skip,runL_seq,runL_block,runL_seq]
 erw [runL_region]
 erw [r2]
 simp only
 rw[runL_seq]
 erw [runL_region]
 change(match regionA (lim cfg) true ops50 T' ⟨(encSt s).cells::(ex++[(encN x).cells]),[],[]⟩with|some (.env T' H')=>_|some (.pan v H')=>_|none=>_)=_
 rw[r3]
end Go.Aa.T
set_option linter.unusedVariables false
set_option linter.unusedSimpArgs false
set_option maxRecDepth 100000
namespace Go.Aa.T
open Go.Aa Go.Proofs
structure FewS(s:St):Prop where
 nodes:s.nodes.length≤34
 pods:s.pods.length≤130
 buds:fewBs s.buds=true
 node:∀n∈s.nodes,fewN n=true
 pod:∀p∈s.pods,fewPd p=true
def podsE(s:St):List Pod→Int
 |[]=>0
 |p::r=>if p.node≠[]∧findG Node.name s.nodes p.node=none then 3 else podsE s r
def roomE(s:St):List Node→Int
 |[]=>0
 |n::r=>if(usedS s n.name).2=0 then(if fitsV (usedS s n.name).1 n.cap=true then roomE s r else 7)else(usedS s n.name).2
def ckSt(s:St):Int:=firstE [ckAll 32 ckN Node.name s.nodes,ckAll 128 ckPd Pod.name s.pods,ckAll 8 ckB Bud.name s.buds,podsE s s.pods,roomE s s.nodes,(totalS s).2]
def ChkR(e:Int)(r:ARes×Heap):Prop:=(e=0∧r.1=.ret (.tuple []))∨(e≠0∧r.1=.pan (stopV e))
theorem firstE_cons(a:Int)(l:List Int):firstE (a::l)=if a=0 then firstE l else a:=rfl
theorem ck_room(s:St)(hs:StIn s):∀(post:List Node)(i:Nat)(hd:s.nodes.drop i=post)(ex:List (List AV))(T:Env)
 (hT:Has T [(0,.ptr 0 0),(44,.sl .sh (s.nodes.map encN)),(45,.int .i64 s.nodes.length),(46,.int .i64 i)]),
 Goes cfg a100 k100_1 T ⟨(encSt s).cells::ex,[],[]⟩ (ChkR (firstE [roomE s post,(totalS s).2])):=by
 intro post
 induction post with
 |nil=>
  intro i hd ex T hT
  have hge:=drop_ge hd
  obtain⟨c,h1⟩:=total_any s hs
  have e:firstE [roomE s [],(totalS s).2]=(totalS s).2:=by
   simp only[roomE,firstE,if_true];split<;>simp_all
  rw[e]
  generalize totalS s=z at h1⊢
  obtain⟨w,er⟩:=z
  simp only
  by_cases h0:er=0
  ·subst h0
   have h2:=take_A (w.map encA)
   exact let ζ1:List AV:=[.sl .sh (s.nodes.map encN),.sl .sh (s.pods.map encPd),.sl .sh (s.buds.map encB)];let ζ2:List AV:=[.sl .sh (List.map encA (w,(0:Int)).fst),.int .i64 (w,(0:Int)).snd];let ζ3:Heap:={boxes:=ζ1::ex,toks:=[],loops:=[]:Heap};goG 90 _ hT (.no (decide_eq_false (p:=(↑i:Int)<(↑s.nodes.length:Int)) (by omega))<|.load (show loadA true 3 ζ3 (.ptr 0 0)=some (.agg ζ1)from load_box (cs:=ζ1) (by simp+zetaDelta) rfl)<|.callG ([.agg ζ1]) (.tuple ζ2) (show Gives cfg (39:FuncId) [encSt s] (resV c (w,(0:Int)))from h1) ⟨rfl,rfl⟩ Res.p<|.callK (ζ2) (.sl .sh (w.map encA)) (show Gives cfg (105:FuncId) [.sl .sh (w.map encA),.int .i64 0] (.sl .sh (w.map encA))from h2)<|.fin ((.ret (.tuple []),ζ3)) (by exact .inl ⟨rfl,rfl⟩)) (by kernel_rfl)
  ·have h2:=takeN_A (w.map encA) h0
   exact let ζ1:List AV:=[.sl .sh (s.nodes.map encN),.sl .sh (s.pods.map encPd),.sl .sh (s.buds.map encB)];let ζ2:List AV:=[.sl .sh (List.map encA (w,er).fst),.int .i64 (w,er).snd];let ζ3:Heap:={boxes:=ζ1::ex,toks:=[],loops:=[]:Heap};goG 90 _ hT (.no (decide_eq_false (p:=(↑i:Int)<(↑s.nodes.length:Int)) (by omega))<|.load (show loadA true 3 ζ3 (.ptr 0 0)=some (.agg ζ1)from load_box (cs:=ζ1) (by simp+zetaDelta) rfl)<|.callG ([.agg ζ1]) (.tuple ζ2) (show Gives cfg (39:FuncId) [encSt s] (resV c (w,er))from h1) ⟨rfl,rfl⟩ Res.p<|.callP (ζ2) (ζ3) (show Pans cfg (105:FuncId) [.sl .sh (w.map encA),.int .i64 er] (stopV er)from h2) ⟨rfl,rfl⟩ rfl (by exact .inr ⟨h0,rfl⟩)) (by kernel_rfl)
 |cons x post ih=>
  intro i hd ex T hT
  have hlt:=drop_lt hd
  have hnx:=drop_next hd
  have hxi:idxA 5 (.sl .sh (s.nodes.map encN)) (.int .i64 (i:Nat))=some (.ref (encN x).cells):=idx_row (f:=encN) hd rfl
  have hnl:=hs.nodes
  obtain⟨c,h1⟩:=used_any s x.name hs
  have hin:=usedS_in s x.name
  have hx:=hs.cap x (drop_mem hd)
  have e:roomE s (x::post)=if(usedS s x.name).2=0 then(if fitsV (usedS s x.name).1 x.cap=true then roomE s post else 7)else(usedS s x.name).2:=rfl
  rw[firstE_cons]
  have h3:=fits_any (usedS s x.name).1 x.cap (by omega) hx.len
  by_cases h0:(usedS s x.name).2=0
  ·rw[if_pos h0]at e
   cases hb:fitsV (usedS s x.name).1 x.cap with
   |true=>
    rw[hb]at h3 e
    rw[if_pos rfl]at e
    rw[e]
    generalize usedS s x.name=z at h1 h3 h0
    obtain⟨w,er⟩:=z
    simp only at h0 h3
    subst h0
    have ih':=ih (i+1) hnx (ex++[(encN x).cells])
    rw[firstE_cons]at ih'
    have h2:=take_A (w.map encA)
    exact let ζ1:List AV:=[.str x.name,.sl .sh (x.cap.map encA),.sl .sh (x.labels.map encP),.sl .sh (x.taints.map encT),.bool x.cordon];let ζ2:List AV:=[.sl .sh (s.nodes.map encN),.sl .sh (s.pods.map encPd),.sl .sh (s.buds.map encB)];let ζ3:Heap:={boxes:=ζ2::(ex++[ζ1]),toks:=[],loops:=[]:Heap};let ζ4:List AV:=[.sl .sh (List.map encA (w,(0:Int)).fst),.int .i64 (w,(0:Int)).snd];let ζ5:List AV:=[.str [],.sl .full [],.sl .full [],.sl .full [],.bool false];let ζ6:List AV:=[.sl .sh (w.map encA),.sl .sh (x.cap.map encA)];goG 120 _ hT (.yes (decide_eq_true (p:=(↑i:Int)<(↑s.nodes.length:Int)) (by omega))<|.idx (show idxA 5 (.sl .sh (s.nodes.map encN)) (.int .i64 ↑i)=some (.ref (encN x).cells)from hxi)<|.load (rfl:loadA true 5 {boxes:=ζ2::ex,toks:=[],loops:=[]:Heap} (.ref ζ1)=some (.agg ζ1))<|.store (show storeA 5 {boxes:=ζ2::(ex++[ζ5]),toks:=[],loops:=[]:Heap} (.ptr (ζ2::ex).length (0:Nat)) (.agg ζ1)=some (ζ3)from store_box2 (cs:=ζ5) (cs':=ζ1) (by simp+zetaDelta) rfl (by simp+zetaDelta [List.set_append]))<|.load (show loadA true 3 ζ3 (.ptr 0 0)=some (.agg ζ2)from load_box (cs:=ζ2) (by simp+zetaDelta) rfl)<|.load (show loadA false 1 ζ3 (.ptr (ζ2::ex).length (0:Nat))=some (.str x.name)from load_box (cs:=ζ1) (by simp+zetaDelta) rfl)<|.callG ([.agg ζ2,.str x.name]) (.tuple ζ4) (show Gives cfg (33:FuncId) [encSt s,.str x.name] (resV c (w,(0:Int)))from h1) ⟨rfl,rfl⟩ Res.p<|.callK (ζ4) (.sl .sh (w.map encA)) (show Gives cfg (105:FuncId) [.sl .sh (w.map encA),.int .i64 0] (.sl .sh (w.map encA))from h2)<|.load (show loadA false 1 ζ3 (.ptr (ζ2::ex).length (1:Nat))=some (.sl .sh (x.cap.map encA))from load_box (cs:=ζ1) (by simp+zetaDelta) rfl)<|.callK (ζ6) (.bool true) (show Gives cfg (58:FuncId) ζ6 (.bool true)from h3)<|.ff<|.bin (show binA .add (.int .i64 ↑i) (.int .i64 1)=some (.int .i64 (↑(i+1)))from inc_i (by omega))<|.cutQ k100_1 [(0,.ptr 0 0),(44,.sl .sh (s.nodes.map encN)),(45,.int .i64 (↑s.nodes.length)),(46,.int .i64 (↑(i+1)))] (ζ3) (fun T hT=>(ih' T hT))) (by kernel_rfl)
   |false=>
    rw[hb]at h3 e
    rw[if_neg (by decide)]at e
    rw[e,if_neg (by decide)]
    generalize usedS s x.name=z at h1 h3 h0
    obtain⟨w,er⟩:=z
    simp only at h0 h3
    subst h0
    have h2:=take_A (w.map encA)
    have hst:Pans cfg 101 [.int .i64 7] (stopV 7):=stop_pan (by decide)
    exact let ζ1:List AV:=[.str x.name,.sl .sh (x.cap.map encA),.sl .sh (x.labels.map encP),.sl .sh (x.taints.map encT),.bool x.cordon];let ζ2:List AV:=[.sl .sh (s.nodes.map encN),.sl .sh (s.pods.map encPd),.sl .sh (s.buds.map encB)];let ζ3:Heap:={boxes:=ζ2::(ex++[ζ1]),toks:=[],loops:=[]:Heap};let ζ4:List AV:=[.sl .sh (List.map encA (w,(0:Int)).fst),.int .i64 (w,(0:Int)).snd];let ζ5:List AV:=[.str [],.sl .full [],.sl .full [],.sl .full [],.bool false];let ζ6:List AV:=[.sl .sh (w.map encA),.sl .sh (x.cap.map encA)];goG 120 _ hT (.yes (decide_eq_true (p:=(↑i:Int)<(↑s.nodes.length:Int)) (by omega))<|.idx (show idxA 5 (.sl .sh (s.nodes.map encN)) (.int .i64 ↑i)=some (.ref (encN x).cells)from hxi)<|.load (rfl:loadA true 5 {boxes:=ζ2::ex,toks:=[],loops:=[]:Heap} (.ref ζ1)=some (.agg ζ1))<|.store (show storeA 5 {boxes:=ζ2::(ex++[ζ5]),toks:=[],loops:=[]:Heap} (.ptr (ζ2::ex).length (0:Nat)) (.agg ζ1)=some (ζ3)from store_box2 (cs:=ζ5) (cs':=ζ1) (by simp+zetaDelta) rfl (by simp+zetaDelta [List.set_append]))<|.load (show loadA true 3 ζ3 (.ptr 0 0)=some (.agg ζ2)from load_box (cs:=ζ2) (by simp+zetaDelta) rfl)<|.load (show loadA false 1 ζ3 (.ptr (ζ2::ex).length (0:Nat))=some (.str x.name)from load_box (cs:=ζ1) (by simp+zetaDelta) rfl)<|.callG ([.agg ζ2,.str x.name]) (.tuple ζ4) (show Gives cfg (33:FuncId) [encSt s,.str x.name] (resV c (w,(0:Int)))from h1) ⟨rfl,rfl⟩ Res.p<|.callK (ζ4) (.sl .sh (w.map encA)) (show Gives cfg (105:FuncId) [.sl .sh (w.map encA),.int .i64 0] (.sl .sh (w.map encA))from h2)<|.load (show loadA false 1 ζ3 (.ptr (ζ2::ex).length (1:Nat))=some (.sl .sh (x.cap.map encA))from load_box (cs:=ζ1) (by simp+zetaDelta) rfl)<|.callK (ζ6) (.bool false) (show Gives cfg (58:FuncId) ζ6 (.bool false)from h3)<|.tt<|.callP ([.int .i64 7]) (ζ3) (show Pans cfg (101:FuncId) [.int .i64 7] (stopV (7:Int))from hst) ⟨rfl,rfl⟩ rfl (by exact .inr ⟨by decide,rfl⟩)) (by kernel_rfl)
  ·rw[if_neg h0]at e
   rw[e,if_neg h0]
   generalize usedS s x.name=z at h1 h3 h0⊢
   obtain⟨w,er⟩:=z
   simp only at h0 h3⊢
   exact Goes.imp (room_pan s x ex w er h0 c h1 i hlt hxi T hT) fun r hr=>.inr ⟨h0,hr⟩
theorem ck_pods(s:St)(hs:StIn s):∀(post:List Pod)(i:Nat)(hd:s.pods.drop i=post)(ex:List (List AV))(T:Env)
 (hT:Has T [(0,.ptr 0 0),(20,.sl .sh (s.pods.map encPd)),(21,.int .i64 s.pods.length),(22,.int .i64 i)]),
 Goes cfg a100 k100_0 T ⟨(encSt s).cells::ex,[],[]⟩ (ChkR (firstE [podsE s post,roomE s s.nodes,(totalS s).2])):=by
 intro post
 induction post with
 |nil=>
  intro i hd ex T hT
  have hge:=drop_ge hd
  have hp:=hs.pods
  have h1:=ck_room s hs s.nodes 0 rfl ex
  have e:firstE [podsE s [],roomE s s.nodes,(totalS s).2]=firstE [roomE s s.nodes,(totalS s).2]:=rfl
  rw[e]
  exact let ζ1:List AV:=[.sl .sh (s.nodes.map encN),.sl .sh (s.pods.map encPd),.sl .sh (s.buds.map encB)];let ζ2:Heap:={boxes:=ζ1::ex,toks:=[],loops:=[]:Heap};goG 90 _ hT (.no (decide_eq_false (p:=(↑i:Int)<(↑s.pods.length:Int)) (by omega))<|.load (show loadA false 1 ζ2 (.ptr 0 0)=some (.sl .sh (s.nodes.map encN))from load_box (cs:=ζ1) (by simp+zetaDelta) rfl)<|.len (show lenA false (.sl .sh (s.nodes.map encN))=some (.int .i64 (↑s.nodes.length))from len_map _)<|.cutQ k100_1 [(0,.ptr 0 0),(44,.sl .sh (s.nodes.map encN)),(45,.int .i64 (↑s.nodes.length)),(46,.int .i64 0)] (ζ2) (fun T hT=>(h1 T hT))) (by kernel_rfl)
 |cons x post ih=>
  intro i hd ex T hT
  have hlt:=drop_lt hd
  have hnx:=drop_next hd
  have hp:=hs.pods
  have hxi:idxA 11 (.sl .sh (s.pods.map encPd)) (.int .i64 (i:Nat))=some (.ref (encPd x).cells):=idx_row (f:=encPd) hd rfl
  have h1:=findN_any s.nodes x.node hs.nodes
  have hst:Pans cfg 101 [.int .i64 3] (stopV 3):=stop_pan (by decide)
  have e:podsE s (x::post)=if x.node≠[]∧findG Node.name s.nodes x.node=none then 3 else podsE s post:=rfl
  rw[firstE_cons]
  cases hf:findG Node.name s.nodes x.node with
  |none=>
   rw[hf]at h1
   by_cases hn:x.node=[]
   ·have e':podsE s (x::post)=podsE s post:=by rw[e,if_neg (by simp[hn])]
    rw[e']
    have ih':=ih (i+1) hnx (ex++[(encPd x).cells,(encN noN).cells])
    rw[firstE_cons]at ih'
    exact let ζ1:List AV:=[.str x.name,.str x.owner,.int .i64 x.prio,.sl .sh (x.need.map encA),.sl .sh (x.labels.map encP),.sl .sh (x.sel.map encM),.sl .sh (x.tols.map encL),.str x.key,.int .i64 x.most,.str x.node,.bool x.hold];let ζ2:List AV:=[.sl .sh (s.nodes.map encN),.sl .sh (s.pods.map encPd),.sl .sh (s.buds.map encB)];let ζ3:List AV:=[.str [],.sl .sh [],.sl .sh [],.sl .sh [],.bool false];let ζ4:List AV:=[.str [],.str [],.int .i64 0,.sl .full [],.sl .full [],.sl .full [],.sl .full [],.str [],.int .i64 0,.str [],.bool false];let ζ5:Heap:={boxes:=ζ2::(ex++[ζ1,ζ3]),toks:=[],loops:=[]:Heap};let ζ6:Heap:={boxes:=ζ2::(ex++[ζ1]),toks:=[],loops:=[]:Heap};let ζ7:List AV:=[.str [],.sl .full [],.sl .full [],.sl .full [],.bool false];let ζ8:List AV:=[.sl .sh (s.nodes.map encN),.str x.node];goG 120 _ hT (.yes (decide_eq_true (p:=(↑i:Int)<(↑s.pods.length:Int)) (by omega))<|.idx (show idxA 11 (.sl .sh (s.pods.map encPd)) (.int .i64 ↑i)=some (.ref (encPd x).cells)from hxi)<|.load (rfl:loadA true 11 {boxes:=ζ2::ex,toks:=[],loops:=[]:Heap} (.ref ζ1)=some (.agg ζ1))<|.store (show storeA 11 {boxes:=ζ2::(ex++[ζ4]),toks:=[],loops:=[]:Heap} (.ptr (ζ2::ex).length (0:Nat)) (.agg ζ1)=some (ζ6)from store_box2 (cs:=ζ4) (cs':=ζ1) (by simp+zetaDelta) rfl (by simp+zetaDelta [List.set_append]))<|.load (show loadA false 1 ζ6 (.ptr 0 0)=some (.sl .sh (s.nodes.map encN))from load_box (cs:=ζ2) (by simp+zetaDelta) rfl)<|.load (show loadA false 1 ζ6 (.ptr (ζ2::ex).length (9:Nat))=some (.str x.node)from load_box (cs:=ζ1) (by simp+zetaDelta) rfl)<|.callK (ζ8) (.tuple [.agg ζ3,.bool false]) (show Gives cfg (79:FuncId) ζ8 (findNV none)from h1)<|.store (show storeA 5 {boxes:=ζ2::(ex++[ζ1]++[ζ7]),toks:=[],loops:=[]:Heap} (.ptr (ζ2::(ex++[ζ1])).length (0:Nat)) (.agg ζ3)=some (ζ5)from store_box2 (cs:=ζ7) (cs':=ζ3) (by simp+zetaDelta) rfl (by simp+zetaDelta [List.set_append]))<|.load (show loadA false 1 ζ5 (.ptr (ζ2::ex).length (9:Nat))=some (.str x.node)from load_box (cs:=ζ1) (by simp+zetaDelta) rfl)<|.no (show(!x.node==[])=false from by have hh:(x.node==[])=true:=(by simpa using hn);simp[hh])<|.ff<|.bin (show binA .add (.int .i64 ↑i) (.int .i64 1)=some (.int .i64 (↑(i+1)))from inc_i (by omega))<|.cutQ k100_0 [(0,.ptr 0 0),(20,.sl .sh (s.pods.map encPd)),(21,.int .i64 (↑s.pods.length)),(22,.int .i64 (↑(i+1)))] (ζ5) (fun T hT=>(ih' T hT))) (by kernel_rfl)
   ·have e':podsE s (x::post)=3:=by rw[e,if_pos ⟨hn,hf⟩]
    rw[e',if_neg (by decide)]
    exact let ζ1:List AV:=[.str x.name,.str x.owner,.int .i64 x.prio,.sl .sh (x.need.map encA),.sl .sh (x.labels.map encP),.sl .sh (x.sel.map encM),.sl .sh (x.tols.map encL),.str x.key,.int .i64 x.most,.str x.node,.bool x.hold];let ζ2:List AV:=[.sl .sh (s.nodes.map encN),.sl .sh (s.pods.map encPd),.sl .sh (s.buds.map encB)];let ζ3:List AV:=[.str [],.sl .sh [],.sl .sh [],.sl .sh [],.bool false];let ζ4:List AV:=[.str [],.str [],.int .i64 0,.sl .full [],.sl .full [],.sl .full [],.sl .full [],.str [],.int .i64 0,.str [],.bool false];let ζ5:Heap:={boxes:=ζ2::(ex++[ζ1,ζ3]),toks:=[],loops:=[]:Heap};let ζ6:Heap:={boxes:=ζ2::(ex++[ζ1]),toks:=[],loops:=[]:Heap};let ζ7:List AV:=[.str [],.sl .full [],.sl .full [],.sl .full [],.bool false];let ζ8:List AV:=[.sl .sh (s.nodes.map encN),.str x.node];goG 120 _ hT (.yes (decide_eq_true (p:=(↑i:Int)<(↑s.pods.length:Int)) (by omega))<|.idx (show idxA 11 (.sl .sh (s.pods.map encPd)) (.int .i64 ↑i)=some (.ref (encPd x).cells)from hxi)<|.load (rfl:loadA true 11 {boxes:=ζ2::ex,toks:=[],loops:=[]:Heap} (.ref ζ1)=some (.agg ζ1))<|.store (show storeA 11 {boxes:=ζ2::(ex++[ζ4]),toks:=[],loops:=[]:Heap} (.ptr (ζ2::ex).length (0:Nat)) (.agg ζ1)=some (ζ6)from store_box2 (cs:=ζ4) (cs':=ζ1) (by simp+zetaDelta) rfl (by simp+zetaDelta [List.set_append]))<|.load (show loadA false 1 ζ6 (.ptr 0 0)=some (.sl .sh (s.nodes.map encN))from load_box (cs:=ζ2) (by simp+zetaDelta) rfl)<|.load (show loadA false 1 ζ6 (.ptr (ζ2::ex).length (9:Nat))=some (.str x.node)from load_box (cs:=ζ1) (by simp+zetaDelta) rfl)<|.callK (ζ8) (.tuple [.agg ζ3,.bool false]) (show Gives cfg (79:FuncId) ζ8 (findNV none)from h1)<|.store (show storeA 5 {boxes:=ζ2::(ex++[ζ1]++[ζ7]),toks:=[],loops:=[]:Heap} (.ptr (ζ2::(ex++[ζ1])).length (0:Nat)) (.agg ζ3)=some (ζ5)from store_box2 (cs:=ζ7) (cs':=ζ3) (by simp+zetaDelta) rfl (by simp+zetaDelta [List.set_append]))<|.load (show loadA false 1 ζ5 (.ptr (ζ2::ex).length (9:Nat))=some (.str x.node)from load_box (cs:=ζ1) (by simp+zetaDelta) rfl)<|.yes (show(!x.node==[])=true from by have hh:¬((x.node==[])=true):=(by simpa using hn);simp[hh])<|.tt<|.callP ([.int .i64 3]) (ζ5) (show Pans cfg (101:FuncId) [.int .i64 3] (stopV (3:Int))from hst) ⟨rfl,rfl⟩ rfl (by exact .inr ⟨by decide,rfl⟩)) (by kernel_rfl)
  |some n=>
   rw[hf]at h1
   have e':podsE s (x::post)=podsE s post:=by rw[e,if_neg (by simp[hf])]
   rw[e']
   have ih':=ih (i+1) hnx (ex++[(encPd x).cells,(encN n).cells])
   rw[firstE_cons]at ih'
   by_cases hn:x.node=[]
   ·exact let ζ1:List AV:=[.str x.name,.str x.owner,.int .i64 x.prio,.sl .sh (x.need.map encA),.sl .sh (x.labels.map encP),.sl .sh (x.sel.map encM),.sl .sh (x.tols.map encL),.str x.key,.int .i64 x.most,.str x.node,.bool x.hold];let ζ2:List AV:=[.sl .sh (s.nodes.map encN),.sl .sh (s.pods.map encPd),.sl .sh (s.buds.map encB)];let ζ3:List AV:=[.str n.name,.sl .sh (n.cap.map encA),.sl .sh (n.labels.map encP),.sl .sh (n.taints.map encT),.bool n.cordon];let ζ4:List AV:=[.str [],.str [],.int .i64 0,.sl .full [],.sl .full [],.sl .full [],.sl .full [],.str [],.int .i64 0,.str [],.bool false];let ζ5:Heap:={boxes:=ζ2::(ex++[ζ1,ζ3]),toks:=[],loops:=[]:Heap};let ζ6:Heap:={boxes:=ζ2::(ex++[ζ1]),toks:=[],loops:=[]:Heap};let ζ7:List AV:=[.str [],.sl .full [],.sl .full [],.sl .full [],.bool false];let ζ8:List AV:=[.sl .sh (s.nodes.map encN),.str x.node];goG 120 _ hT (.yes (decide_eq_true (p:=(↑i:Int)<(↑s.pods.length:Int)) (by omega))<|.idx (show idxA 11 (.sl .sh (s.pods.map encPd)) (.int .i64 ↑i)=some (.ref (encPd x).cells)from hxi)<|.load (rfl:loadA true 11 {boxes:=ζ2::ex,toks:=[],loops:=[]:Heap} (.ref ζ1)=some (.agg ζ1))<|.store (show storeA 11 {boxes:=ζ2::(ex++[ζ4]),toks:=[],loops:=[]:Heap} (.ptr (ζ2::ex).length (0:Nat)) (.agg ζ1)=some (ζ6)from store_box2 (cs:=ζ4) (cs':=ζ1) (by simp+zetaDelta) rfl (by simp+zetaDelta [List.set_append]))<|.load (show loadA false 1 ζ6 (.ptr 0 0)=some (.sl .sh (s.nodes.map encN))from load_box (cs:=ζ2) (by simp+zetaDelta) rfl)<|.load (show loadA false 1 ζ6 (.ptr (ζ2::ex).length (9:Nat))=some (.str x.node)from load_box (cs:=ζ1) (by simp+zetaDelta) rfl)<|.callK (ζ8) (.tuple [.agg ζ3,.bool true]) (show Gives cfg (79:FuncId) ζ8 (findNV (some n))from h1)<|.store (show storeA 5 {boxes:=ζ2::(ex++[ζ1]++[ζ7]),toks:=[],loops:=[]:Heap} (.ptr (ζ2::(ex++[ζ1])).length (0:Nat)) (.agg ζ3)=some (ζ5)from store_box2 (cs:=ζ7) (cs':=ζ3) (by simp+zetaDelta) rfl (by simp+zetaDelta [List.set_append]))<|.load (show loadA false 1 ζ5 (.ptr (ζ2::ex).length (9:Nat))=some (.str x.node)from load_box (cs:=ζ1) (by simp+zetaDelta) rfl)<|.no (show(!x.node==[])=false from by have hh:(x.node==[])=true:=(by simpa using hn);simp[hh])<|.ff<|.bin (show binA .add (.int .i64 ↑i) (.int .i64 1)=some (.int .i64 (↑(i+1)))from inc_i (by omega))<|.cutQ k100_0 [(0,.ptr 0 0),(20,.sl .sh (s.pods.map encPd)),(21,.int .i64 (↑s.pods.length)),(22,.int .i64 (↑(i+1)))] (ζ5) (fun T hT=>(ih' T hT))) (by kernel_rfl)
   ·exact let ζ1:List AV:=[.str x.name,.str x.owner,.int .i64 x.prio,.sl .sh (x.need.map encA),.sl .sh (x.labels.map encP),.sl .sh (x.sel.map encM),.sl .sh (x.tols.map encL),.str x.key,.int .i64 x.most,.str x.node,.bool x.hold];let ζ2:List AV:=[.sl .sh (s.nodes.map encN),.sl .sh (s.pods.map encPd),.sl .sh (s.buds.map encB)];let ζ3:List AV:=[.str n.name,.sl .sh (n.cap.map encA),.sl .sh (n.labels.map encP),.sl .sh (n.taints.map encT),.bool n.cordon];let ζ4:List AV:=[.str [],.str [],.int .i64 0,.sl .full [],.sl .full [],.sl .full [],.sl .full [],.str [],.int .i64 0,.str [],.bool false];let ζ5:Heap:={boxes:=ζ2::(ex++[ζ1,ζ3]),toks:=[],loops:=[]:Heap};let ζ6:Heap:={boxes:=ζ2::(ex++[ζ1]),toks:=[],loops:=[]:Heap};let ζ7:List AV:=[.str [],.sl .full [],.sl .full [],.sl .full [],.bool false];let ζ8:List AV:=[.sl .sh (s.nodes.map encN),.str x.node];goG 120 _ hT (.yes (decide_eq_true (p:=(↑i:Int)<(↑s.pods.length:Int)) (by omega))<|.idx (show idxA 11 (.sl .sh (s.pods.map encPd)) (.int .i64 ↑i)=some (.ref (encPd x).cells)from hxi)<|.load (rfl:loadA true 11 {boxes:=ζ2::ex,toks:=[],loops:=[]:Heap} (.ref ζ1)=some (.agg ζ1))<|.store (show storeA 11 {boxes:=ζ2::(ex++[ζ4]),toks:=[],loops:=[]:Heap} (.ptr (ζ2::ex).length (0:Nat)) (.agg ζ1)=some (ζ6)from store_box2 (cs:=ζ4) (cs':=ζ1) (by simp+zetaDelta) rfl (by simp+zetaDelta [List.set_append]))<|.load (show loadA false 1 ζ6 (.ptr 0 0)=some (.sl .sh (s.nodes.map encN))from load_box (cs:=ζ2) (by simp+zetaDelta) rfl)<|.load (show loadA false 1 ζ6 (.ptr (ζ2::ex).length (9:Nat))=some (.str x.node)from load_box (cs:=ζ1) (by simp+zetaDelta) rfl)<|.callK (ζ8) (.tuple [.agg ζ3,.bool true]) (show Gives cfg (79:FuncId) ζ8 (findNV (some n))from h1)<|.store (show storeA 5 {boxes:=ζ2::(ex++[ζ1]++[ζ7]),toks:=[],loops:=[]:Heap} (.ptr (ζ2::(ex++[ζ1])).length (0:Nat)) (.agg ζ3)=some (ζ5)from store_box2 (cs:=ζ7) (cs':=ζ3) (by simp+zetaDelta) rfl (by simp+zetaDelta [List.set_append]))<|.load (show loadA false 1 ζ5 (.ptr (ζ2::ex).length (9:Nat))=some (.str x.node)from load_box (cs:=ζ1) (by simp+zetaDelta) rfl)<|.yes (show(!x.node==[])=true from by have hh:¬((x.node==[])=true):=(by simpa using hn);simp[hh])<|.ff<|.bin (show binA .add (.int .i64 ↑i) (.int .i64 1)=some (.int .i64 (↑(i+1)))from inc_i (by omega))<|.cutQ k100_0 [(0,.ptr 0 0),(20,.sl .sh (s.pods.map encPd)),(21,.int .i64 (↑s.pods.length)),(22,.int .i64 (↑(i+1)))] (ζ5) (fun T hT=>(ih' T hT))) (by kernel_rfl)
theorem ck_all(s:St)(hs:StIn s):Goes cfg a100 [.c c100] (initEnv [.ptr 0 0]) ⟨[(encSt s).cells],[],[]⟩ (ChkR (ckSt s)):=by
 have c1:=ckNs_any s.nodes
 have c2:=ckPds_any s.pods
 have c3:=ckBs_any s.buds
 have h:=ck_pods s hs s.pods 0 rfl []
 unfold ckSt
 generalize ckAll 32 ckN Node.name s.nodes=e1 at c1⊢
 generalize ckAll 128 ckPd Pod.name s.pods=e2 at c2⊢
 generalize ckAll 8 ckB Bud.name s.buds=e3 at c3⊢
 rw[firstE_cons]
 by_cases h1:e1=0
 ·subst h1
  rw[if_pos rfl,firstE_cons]
  by_cases h2:e2=0
  ·subst h2
   rw[if_pos rfl,firstE_cons]
   by_cases h3:e3=0
   ·subst h3
    rw[if_pos rfl]
    exact goG 90 [] trivial (.callK ([.sl .sh (s.nodes.map encN)]) (.int .i64 0) (show Gives cfg (102:FuncId) [.sl .sh (s.nodes.map encN)] (.int .i64 0)from c1)<|.callK ([.int .i64 0]) (.tuple []) (show Gives cfg (101:FuncId) [.int .i64 0] (.tuple [])from stop_ok)<|.callK ([.sl .sh (s.pods.map encPd)]) (.int .i64 0) (show Gives cfg (103:FuncId) [.sl .sh (s.pods.map encPd)] (.int .i64 0)from c2)<|.callK ([.int .i64 0]) (.tuple []) (show Gives cfg (101:FuncId) [.int .i64 0] (.tuple [])from stop_ok)<|.callK ([.sl .sh (s.buds.map encB)]) (.int .i64 0) (show Gives cfg (104:FuncId) [.sl .sh (s.buds.map encB)] (.int .i64 0)from c3)<|.callK ([.int .i64 0]) (.tuple []) (show Gives cfg (101:FuncId) [.int .i64 0] (.tuple [])from stop_ok)<|.len (show lenA false (.sl .sh (s.pods.map encPd))=some (.int .i64 (↑s.pods.length))from len_map _)<|.cutQ k100_0 [(0,.ptr 0 0),(20,.sl .sh (s.pods.map encPd)),(21,.int .i64 (↑s.pods.length)),(22,.int .i64 0)] ({boxes:=[[.sl .sh (s.nodes.map encN),.sl .sh (s.pods.map encPd),.sl .sh (s.buds.map encB)]],toks:=[],loops:=[]:Heap}) (fun T hT=>(h T hT))) (by kernel_rfl)
   ·rw[if_neg h3]
    have hst:=stop_pan h3
    exact goG 90 [] trivial (.callK ([.sl .sh (s.nodes.map encN)]) (.int .i64 0) (show Gives cfg (102:FuncId) [.sl .sh (s.nodes.map encN)] (.int .i64 0)from c1)<|.callK ([.int .i64 0]) (.tuple []) (show Gives cfg (101:FuncId) [.int .i64 0] (.tuple [])from stop_ok)<|.callK ([.sl .sh (s.pods.map encPd)]) (.int .i64 0) (show Gives cfg (103:FuncId) [.sl .sh (s.pods.map encPd)] (.int .i64 0)from c2)<|.callK ([.int .i64 0]) (.tuple []) (show Gives cfg (101:FuncId) [.int .i64 0] (.tuple [])from stop_ok)<|.callK ([.sl .sh (s.buds.map encB)]) (.int .i64 e3) (show Gives cfg (104:FuncId) [.sl .sh (s.buds.map encB)] (.int .i64 e3)from c3)<|.callP ([.int .i64 e3]) ({boxes:=[[.sl .sh (s.nodes.map encN),.sl .sh (s.pods.map encPd),.sl .sh (s.buds.map encB)]],toks:=[],loops:=[]:Heap}) (show Pans cfg (101:FuncId) [.int .i64 e3] (stopV e3)from hst) ⟨rfl,rfl⟩ rfl (by exact .inr ⟨h3,rfl⟩)) (by kernel_rfl)
  ·rw[if_neg h2]
   have hst:=stop_pan h2
   exact goG 90 [] trivial (.callK ([.sl .sh (s.nodes.map encN)]) (.int .i64 0) (show Gives cfg (102:FuncId) [.sl .sh (s.nodes.map encN)] (.int .i64 0)from c1)<|.callK ([.int .i64 0]) (.tuple []) (show Gives cfg (101:FuncId) [.int .i64 0] (.tuple [])from stop_ok)<|.callK ([.sl .sh (s.pods.map encPd)]) (.int .i64 e2) (show Gives cfg (103:FuncId) [.sl .sh (s.pods.map encPd)] (.int .i64 e2)from c2)<|.callP ([.int .i64 e2]) ({boxes:=[[.sl .sh (s.nodes.map encN),.sl .sh (s.pods.map encPd),.sl .sh (s.buds.map encB)]],toks:=[],loops:=[]:Heap}) (show Pans cfg (101:FuncId) [.int .i64 e2] (stopV e2)from hst) ⟨rfl,rfl⟩ rfl (by exact .inr ⟨h2,rfl⟩)) (by kernel_rfl)
 ·rw[if_neg h1]
  have hst:=stop_pan h1
  exact goG 90 [] trivial (.callK ([.sl .sh (s.nodes.map encN)]) (.int .i64 e1) (show Gives cfg (102:FuncId) [.sl .sh (s.nodes.map encN)] (.int .i64 e1)from c1)<|.callP ([.int .i64 e1]) ({boxes:=[[.sl .sh (s.nodes.map encN),.sl .sh (s.pods.map encPd),.sl .sh (s.buds.map encB)]],toks:=[],loops:=[]:Heap}) (show Pans cfg (101:FuncId) [.int .i64 e1] (stopV e1)from hst) ⟨rfl,rfl⟩ rfl (by exact .inr ⟨h1,rfl⟩)) (by kernel_rfl)
theorem ckSt_any(s:St)(hs:StIn s):Gives cfg 32 [encSt s] (.int .i64 (ckSt s)):=by
 refine Gives.run (l32 _ _) ?_
 obtain⟨⟨a,H1⟩,hr,hR⟩:=ck_all s hs
 generalize ckSt s=e at hR⊢
 have ht:lim cfg (.fn 77) [.func 100 [.ptr 0 0]] ⟨[(encSt s).cells],[],[]⟩=some (.ret (.int .i64 e),H1):=by
  rw[lim_try rfl,l100,hr]
  rcases hR with⟨h0,h1⟩|⟨h0,h1⟩
  ·simp only at h1;subst h1;subst h0;rfl
  ·simp only at h1;subst h1;rfl
 have hd:=does_callE (xs:=[.func 100 [.ptr 0 0]]) (caps:=[]) ht rfl rfl
 generalize trunc _ _ _ H1=H2 at hd
 exact goG 60 [] trivial (.effY (show Does cfg (.call (.c (.func (77:FuncId) [])) (List.map .c [.func (100:FuncId) [.ptr 0 0]])) {boxes:=[(encSt s).cells],toks:=[],loops:=[]:Heap} (shutA (.int .i64 e)) H2 from hd)<|.fin ((.ret (.int .i64 e),H2)) rfl) (by kernel_rfl)
structure RgS(s:St):Prop where
 cap:∀n∈s.nodes,rgA n.cap
 need:∀p∈s.pods,rgA p.need
end Go.Aa.T
set_option linter.unusedVariables false
set_option linter.unusedSimpArgs false
set_option maxRecDepth 100000
namespace Go.Aa.T
open Go.Aa Go.Proofs
structure SmN(n:Node):Prop where
 cap:n.cap.length<9223372036854775807
 labels:n.labels.length<9223372036854775807
 taints:n.taints.length<9223372036854775807
structure SmP(p:Pod):Prop where
 need:p.need.length<9223372036854775807
 labels:p.labels.length<9223372036854775807
 sel:p.sel.length<9223372036854775807
 tols:p.tols.length<9223372036854775807
structure SmS(s:St):Prop where
 nodes:s.nodes.length<9223372036854775807
 pods:s.pods.length<9223372036854775807
 buds:s.buds.length<9223372036854775807
 node:∀x∈s.nodes,SmN x
 pod:∀x∈s.pods,SmP x
 bud:∀x∈s.buds,x.sel.length<9223372036854775807
theorem known29':Gives cfg 29 [] (.bool true):=by
 obtain⟨H,h⟩:=known_ret29
 exact Gives.of h
end Go.Aa.T
set_option linter.unusedVariables false
set_option linter.unusedSimpArgs false
set_option maxRecDepth 100000
namespace Go.Aa.T
open Go.Aa Go.Proofs
end Go.Aa.T
set_option linter.unusedVariables false
set_option linter.unusedSimpArgs false
set_option maxRecDepth 100000
namespace Go.Aa.T
open Go.Aa Go.Proofs
theorem tyU8{k:Nat}{x:AV}(hx:TyV Tryz.prog (k+1) 5 x):∃n:Nat,n<256∧x=.int .u8 (n:Int):=by
 obtain⟨m,rfl,hm⟩:=tyv_int Tryz.underlying5 hx
 have h':IntKind.u8.min≤m∧m≤IntKind.u8.max:=by simpa[Lit.wf,IntKind.has]using hm
 have e1:IntKind.u8.min=0:=rfl
 have e2:IntKind.u8.max=255:=rfl
 exact⟨m.toNat,by omega,by congr 1;omega⟩
end Go.Aa.T
set_option linter.unusedVariables false
set_option linter.unusedSimpArgs false
set_option maxRecDepth 100000
namespace Go.Aa.T
open Go.Aa Go.Proofs
end Go.Aa.T
set_option linter.unusedVariables false
set_option linter.unusedSimpArgs false
set_option maxRecDepth 100000
namespace Go.Aa.T
open Go.Aa Go.Proofs
theorem in2_d0{x:AV}{nb nt:Nat}(h:data0 x=true):in2 nb nt x=true:=in2_data0 h
def Tame(B:List (List AV)):Prop:=∀nb,B.length≤nb→B.all (·.all (in2 nb 0))=true
theorem tame_data{B:List (List AV)}(h:B.all (·.all data0)=true):Tame B:=fun nb _=>List.all_eq_true.2 fun b hb=>List.all_eq_true.2 fun x hx=>in2_d0 (List.all_eq_true.1 (List.all_eq_true.1 h b hb) x hx)
theorem tame_app{B ex:List (List AV)}(h:Tame B)(he:ex.all (·.all data0)=true):Tame (B++ex):=fun nb hn=>by
 rw[List.all_append,h nb (by simp at hn;omega),tame_data he nb (by simp at hn;omega)];rfl
theorem tame_set{B:List (List AV)}{k:Nat}{cs:List AV}(h:Tame B)(hc:cs.all data0=true):Tame (B.set k cs):=fun nb hn=>by
 refine List.all_eq_true.2 fun b hb=> ?_
 rcases List.mem_or_eq_of_mem_set hb with hb|rfl
 ·exact List.all_eq_true.1 (h nb (by simpa using hn)) b hb
 ·exact List.all_eq_true.2 fun x hx=>in2_d0 (List.all_eq_true.1 hc x hx)
theorem trunc_tame{B ex:List (List AV)}{v:AV}(hB:Tame B)(hv:within B.length 0 v=true):trunc B.length 0 v ⟨B++ex,[],[]⟩=⟨B,[],[]⟩:=by
 have h1:=hB B.length (Nat.le_refl _)
 unfold trunc
 simp only[List.take_left,List.length_nil,List.all_nil,Bool.true_and,hv,h1,Bool.and_self,if_true,List.take_zero,ite_self]
theorem does_closure{B ex:List (List AV)}{g:FuncId}{jj:Nat}{x v:AV}(h:lim cfg (.fn g) [x,.ptr jj 0] ⟨B,[],[]⟩=some (.ret v,⟨B++ex,[],[]⟩))(hx:shutA x=x)(hB:Tame B)(hv:within B.length 0 v=true)(hs:shutA v=v):
 Does cfg (.call (.c (.func g [.ptr jj 0])) [.c x]) ⟨B,[],[]⟩ v ⟨B,[],[]⟩∧Does cfg (.callM (.c (.func g [.ptr jj 0])) [.c x]) ⟨B,[],[]⟩ v ⟨B,[],[]⟩:=by
 have e1:=does_callE (cfg:=cfg) (xs:=[x]) (caps:=[.ptr jj 0]) h (by simp[hx]) (by simp[data0])
 have e2:Does cfg (.callM (.c (.func g [.ptr jj 0])) [.c x]) ⟨B,[],[]⟩ (shutA v) (trunc B.length 0 (shutA v) ⟨B++ex,[],[]⟩):=fun T=>by
  simp only[opStep,List.map_cons,List.map_nil,ev]
  simp only[callW,List.all_cons,List.all_nil,data0,Bool.and_false,Bool.false_and,Bool.and_true,Bool.false_eq_true,if_false,List.cons_append,List.nil_append,callE,hx,h]
  rfl
 rw[hs]at e1 e2
 rw[trunc_tame hB hv]at e2
 rw[show(⟨B,[],[]⟩:Heap).boxes.length=B.length from rfl,show(⟨B,[],[]⟩:Heap).toks.length=0 from rfl,trunc_tame hB hv]at e1
 exact⟨e1,e2⟩
abbrev pcs(l:List Pod):List AV:=rowCells (l.map encPd)
theorem encPd_el(l:List Pod):(l.map encPd).all (elOk 11)=true:=List.all_eq_true.2 fun x hx=>by
 obtain⟨j,_,rfl⟩:=List.mem_map.1 hx
 rfl
theorem pcs_len(l:List Pod):(pcs l).length=l.length*11:=by
 have:=rowCells_len (es:=11) (l:=l.map encPd) lenPd
 simpa using this
theorem pcs_data(l:List Pod):(pcs l).all data0=true:=by
 refine List.all_eq_true.2 fun x hx=> ?_
 simp only[pcs,rowCells,List.mem_flatMap,List.mem_map]at hx
 obtain⟨a,⟨p,-,rfl⟩,hx⟩:=hx
 simp only[encPd,AV.cells,List.mem_cons,List.not_mem_nil,or_false]at hx
 rcases hx with rfl|rfl|rfl|rfl|rfl|rfl|rfl|rfl|rfl|rfl|rfl<;>rfl
theorem pc_data(p:Pod):(encPd p).cells.all data0=true:=by rfl
theorem loadP{B:List (List AV)}{kk:Nat}{C:List Pod}{Z:List AV}{i:Nat}{p:Pod}(hk:B[kk]?=some (pcs C++Z))(hp:C[i]?=some p):Does cfg (.load true 11 (.c (.ptr kk (0+i*11)))) ⟨B,[],[]⟩ (encPd p) ⟨B,[],[]⟩:=fun T=>by
 obtain⟨h1,h2⟩:=cells_at (es:=11) (i:=i) (encPd_el C) (x:=encPd p) (by simp[hp])
 change((pcs C).drop (i*11)).take 11=_ at h1
 change _≤(pcs C).length at h2
 have:loadA true 11 ⟨B,[],[]⟩ (.ptr kk (0+i*11))=some (encPd p):=by
  simp only[loadA,hk,Nat.zero_add]
  rw[if_pos (by rw[List.length_append];omega),List.drop_append_of_le_length (by omega),List.take_append_of_le_length (by rw[List.length_drop];omega),h1];rfl
 simp only[opStep,ev,this]
theorem pcs_set:∀(C:List Pod)(j:Nat)(p:Pod),j<C.length→(pcs C).take (j*11)++(encPd p).cells++(pcs C).drop (j*11+11)=pcs (C.set j p)
 |[],j,p,h=>by simp at h
 |c::C,0,p,h=>by
  have e1:pcs (c::C)=(encPd c).cells++pcs C:=by simp[pcs,rowCells]
  have e2:pcs ((c::C).set 0 p)=(encPd p).cells++pcs C:=by simp[pcs,rowCells]
  rw[e1,e2]
  have e3:(encPd c).cells.length=11:=rfl
  rw[Nat.zero_mul,List.take_zero,List.nil_append,Nat.zero_add,List.drop_append_of_le_length (by omega),List.drop_eq_nil_of_le (by omega),List.nil_append]
 |c::C,j+1,p,h=>by
  have e1:pcs (c::C)=(encPd c).cells++pcs C:=by simp[pcs,rowCells]
  have e2:pcs ((c::C).set (j+1) p)=(encPd c).cells++pcs (C.set j p):=by simp[pcs,rowCells]
  have ih:=pcs_set C j p (by simpa using h)
  have e3:(encPd c).cells.length=11:=rfl
  rw[e1,e2,←ih,List.take_append,e3,List.take_of_length_le (by rw[e3];omega),show(j+1)*11-11=j*11 by omega,List.drop_append,e3,List.drop_eq_nil_of_le (by rw[e3];omega),List.nil_append,show(j+1)*11+11-11=j*11+11 by omega]
  simp only[List.append_assoc]
theorem storeP{B:List (List AV)}{kk:Nat}{C:List Pod}{j:Nat}(p:Pod)(hk:B[kk]?=some (pcs C))(hj:j<C.length):Does cfg (.store 11 (.c (.ptr kk (0+j*11))) (.c (encPd p))) ⟨B,[],[]⟩ .undef ⟨B.set kk (pcs (C.set j p)),[],[]⟩:=fun T=>by
 have hl:=pcs_len C
 have e3:(encPd p).cells.length=11:=rfl
 have:storeA 11 ⟨B,[],[]⟩ (.ptr kk (0+j*11)) (encPd p)=some ⟨B.set kk (pcs (C.set j p)),[],[]⟩:=by
  simp only[storeA,hk,Nat.zero_add]
  rw[if_pos ⟨by omega,rfl,rfl,by omega⟩,paste_spec _ _ _ (by omega),e3,pcs_set C j p hj]
 simp only[opStep,ev,this]
theorem pred_any{B:List (List AV)}{jj:Nat}{nm:List UInt8}(hj:B[jj]?=some [.str nm])(hB:Tame B)(p:Pod):
 Does cfg (.call (.c (.func 91 [.ptr jj 0])) [.c (encPd p)]) ⟨B,[],[]⟩ (.bool (p.name==nm)) ⟨B,[],[]⟩∧Does cfg (.callM (.c (.func 91 [.ptr jj 0])) [.c (encPd p)]) ⟨B,[],[]⟩ (.bool (p.name==nm)) ⟨B,[],[]⟩:=by
 have hlt:=(List.getElem?_eq_some_iff.1 hj).1
 have l1:Does cfg (.load false 1 (.c (.ptr B.length 0))) ⟨B++[(encPd p).cells],[],[]⟩ (.str p.name) ⟨B++[(encPd p).cells],[],[]⟩:=fun T=>by
  have:loadA false 1 ⟨B++[(encPd p).cells],[],[]⟩ (.ptr B.length 0)=some (.str p.name):=by
   simp only[loadA,List.getElem?_concat_length];rfl
  simp only[opStep,ev,this]
 have l2:Does cfg (.load false 1 (.c (.ptr jj 0))) ⟨B++[(encPd p).cells],[],[]⟩ (.str nm) ⟨B++[(encPd p).cells],[],[]⟩:=fun T=>by
  have:loadA false 1 ⟨B++[(encPd p).cells],[],[]⟩ (.ptr jj 0)=some (.str nm):=by
   simp only[loadA,List.getElem?_append_left hlt,hj];rfl
  simp only[opStep,ev,this]
 refine does_closure (ex:=[(encPd p).cells]) ?_ rfl hB rfl rfl
 rw[l91]
 have key:Goes cfg a91 [.c c91] (initEnv [encPd p,.ptr jj 0]) ⟨B,[],[]⟩ (fun r=>r=(.ret (.bool (p.name==nm)),⟨B++[(encPd p).cells],[],[]⟩)):=by
  exact let ζ1:Heap:={boxes:=B++[(encPd p).cells],toks:=[],loops:=[]:Heap};goG 60 [] trivial (.effY (show Does cfg (.load false (1:Nat) (.c (.ptr B.length (0:Nat)))) ζ1 (.str p.name) ζ1 from l1)<|.effY (show Does cfg (.load false (1:Nat) (.c (.ptr jj (0:Nat)))) ζ1 (.str nm) ζ1 from l2)<|.fin ((.ret (.bool (p.name==nm)),{boxes:=B++[[AV.str p.name,.str p.owner,.int .i64 p.prio,.sl .sh (p.need.map encA),.sl .sh (p.labels.map encP),.sl .sh (p.sel.map encM),.sl .sh (p.tols.map encL),.str p.key,.int .i64 p.most,.str p.node,.bool p.hold]],toks:=[],loops:=[]:Heap})) rfl) (by kernel_rfl)
 obtain⟨r,h,rfl⟩:=key
 exact h
def idxG(nm:List UInt8)(i:Int):List Pod→Int
 |[]=> -1
 |x::l=>if x.name=nm then i else idxG nm (i+1) l
theorem index_loop{B:List (List AV)}{jj kk n:Nat}{nm:List UInt8}{C:List Pod}(hj:B[jj]?=some [.str nm])(hk:B[kk]?=some (pcs C))(hB:Tame B)(hC:C.length=n)(hn:n<9223372036854775807):∀(post:List Pod)(i:Nat)(hd:C.drop i=post)(T:Env)
 (hT:Has T [(0,.msl kk 0 n 11),(1,.func 91 [.ptr jj 0]),(7,.int .i64 n),(8,.int .i64 i)]),
 Goes cfg a162 k162_0 T ⟨B,[],[]⟩ (fun r=>r=(.ret (.int .i64 (idxG nm i post)),⟨B,[],[]⟩)):=by
 intro post
 induction post with
 |nil=>
  intro i hd T hT
  have hge:=drop_ge hd
  have c1:binA .lss (.int .i64 (i:Nat)) (.int .i64 (n:Nat))=some (.bool false):=lssF (by omega)
  exact goG 60 _ hT (.no (decide_eq_false (p:=(↑i:Int)<(↑n:Int)) (by omega))<|.fin ((.ret (.int .i64 (-1:Int)),{boxes:=B,toks:=[],loops:=[]:Heap})) rfl) (by kernel_rfl)
 |cons x post ih=>
  intro i hd T hT
  have hlt:=drop_lt hd
  have hnx:=drop_next hd
  have hx:=drop_at hd
  have c1:binA .lss (.int .i64 (i:Nat)) (.int .i64 (n:Nat))=some (.bool true):=lssT (by omega)
  have ld:=loadP (Z:=[]) (by rw[List.append_nil];exact hk) hx
  have i1:idxA 11 (.msl kk 0 n 11) (.int .i64 (i:Nat))=some (.ptr kk (0+i*11)):=idx_msl (by omega)
  have pr:=(pred_any hj hB x).1
  have inc:=inc_i (i:=i) (by omega)
  have ih':=ih (i+1) hnx
  have e:idxG nm i (x::post)=if x.name=nm then(i:Int)else idxG nm (((i+1:Nat):Int)) post:=rfl
  rw[e]
  by_cases h:x.name=nm
  ·rw[show(x.name==nm)=true by simpa using h]at pr
   rw[if_pos h]
   exact let ζ1:Heap:={boxes:=B,toks:=[],loops:=[]:Heap};goG 60 _ hT (.yes (decide_eq_true (p:=(↑i:Int)<(↑n:Int)) (by omega))<|.idx (show idxA 11 (.msl kk (0:Nat) n (11:Nat)) (.int .i64 ↑i)=some (.ptr kk ((0:Nat)+i*(11:Nat)))from i1)<|.effY (show Does cfg (.load true (11:Nat) (.c (.ptr kk ((0:Nat)+i*(11:Nat))))) ζ1 (encPd x) ζ1 from ld)<|.effY (show Does cfg (.call (.c (.func (91:FuncId) [.ptr jj (0:Nat)])) [.c (encPd x)]) ζ1 (.bool true) ζ1 from pr)<|.tt<|.fin ((.ret (.int .i64 ↑i),ζ1)) rfl) (by kernel_rfl)
  ·rw[show(x.name==nm)=false by simpa using h]at pr
   rw[if_neg h]
   exact let ζ1:Heap:={boxes:=B,toks:=[],loops:=[]:Heap};goG 60 _ hT (.yes (decide_eq_true (p:=(↑i:Int)<(↑n:Int)) (by omega))<|.idx (show idxA 11 (.msl kk (0:Nat) n (11:Nat)) (.int .i64 ↑i)=some (.ptr kk ((0:Nat)+i*(11:Nat)))from i1)<|.effY (show Does cfg (.load true (11:Nat) (.c (.ptr kk ((0:Nat)+i*(11:Nat))))) ζ1 (encPd x) ζ1 from ld)<|.effY (show Does cfg (.call (.c (.func (91:FuncId) [.ptr jj (0:Nat)])) [.c (encPd x)]) ζ1 (.bool false) ζ1 from pr)<|.ff<|.bin (show binA .add (.int .i64 ↑i) (.int .i64 1)=some (.int .i64 (↑(i+1)))from inc)<|.cutQ k162_0 [(0,.msl kk (0:Nat) n (11:Nat)),(1,.func (91:Nat) [.ptr jj (0:Nat)]),(7,.int .i64 ↑n),(8,.int .i64 (↑(i+1)))] (ζ1) (fun T hT=>(ih' T hT))) (by kernel_rfl)
theorem index_any{B:List (List AV)}{jj kk n:Nat}{nm:List UInt8}{C:List Pod}(hj:B[jj]?=some [.str nm])(hk:B[kk]?=some (pcs C))(hB:Tame B)(hC:C.length=n)(hn:n<9223372036854775807):
 Does cfg (.callM (.c (.func 162 [])) [.c (.msl kk 0 n 11),.c (.func 91 [.ptr jj 0])]) ⟨B,[],[]⟩ (.int .i64 (idxG nm 0 C)) ⟨B,[],[]⟩:=by
 have key:Goes cfg a162 [.c c162] (initEnv [.msl kk 0 n 11,.func 91 [.ptr jj 0]]) ⟨B,[],[]⟩ (fun r=>r=(.ret (.int .i64 (idxG nm 0 C)),⟨B,[],[]⟩)):=by
  have h1:=index_loop hj hk hB hC hn C 0 rfl
  exact goG 60 [] trivial (.len (rfl:lenA false (.msl kk (0:Nat) n (11:Nat))=some (.int .i64 ↑n))<|.cutQ k162_0 [(0,.msl kk (0:Nat) n (11:Nat)),(1,.func (91:Nat) [.ptr jj (0:Nat)]),(7,.int .i64 ↑n),(8,.int .i64 0)] ({boxes:=B,toks:=[],loops:=[]:Heap}) (fun T hT=>(h1 T hT))) (by kernel_rfl)
 obtain⟨r,h,rfl⟩:=key
 have h':lim cfg (.fn 162) [.msl kk 0 n 11,.func 91 [.ptr jj 0]] ⟨B,[],[]⟩=some (.ret (.int .i64 (idxG nm 0 C)),⟨B,[],[]⟩):=by rw[l162];exact h
 have hd:=does_callM (xs:=[.msl kk 0 n 11,.func 91 [.ptr jj 0]]) h' rfl rfl
 have e:=trunc_tame (ex:=[]) (v:=.int .i64 (idxG nm 0 C)) hB rfl
 rw[List.append_nil]at e
 rw[show(⟨B,[],[]⟩:Heap).boxes.length=B.length from rfl,show(⟨B,[],[]⟩:Heap).toks.length=0 from rfl,show shutA (.int .i64 (idxG nm 0 C))=.int .i64 (idxG nm 0 C)from rfl,e]at hd
 exact hd
end Go.Aa.T
set_option linter.unusedVariables false
set_option linter.unusedSimpArgs false
set_option maxRecDepth 100000
namespace Go.Aa.T
open Go.Aa Go.Proofs
abbrev zpc:List AV:=[.str [],.str [],.int .i64 0,.sl .full [],.sl .full [],.sl .full [],.sl .full [],.str [],.int .i64 0,.str [],.bool false]
def offP(nm:List UInt8)(l:List Pod):List Pod:=l.filter fun p=> !(p.name==nm)
theorem store_last{B:List (List AV)}{z:List AV}(p:Pod)(hz:z.length=11):Does cfg (.store 11 (.c (.ptr B.length 0)) (.c (encPd p))) ⟨B++[z],[],[]⟩ .undef ⟨B++[(encPd p).cells],[],[]⟩:=fun T=>by
 have:storeA 11 ⟨B++[z],[],[]⟩ (.ptr B.length 0) (encPd p)=some ⟨B++[(encPd p).cells],[],[]⟩:=by
  simp only[storeA,List.getElem?_concat_length]
  rw[if_pos ⟨by omega,rfl,rfl,by omega⟩,paste_spec _ _ _ (by rw[show(encPd p).cells.length=11 from rfl];omega),List.take_zero,List.nil_append,show(encPd p).cells.length=11 from rfl,List.drop_eq_nil_of_le (by omega),List.append_nil,List.set_append_right _ _ (Nat.le_refl _),Nat.sub_self]
  rfl
 simp only[opStep,ev,this]
theorem load_last{B:List (List AV)}(p:Pod):Does cfg (.load true 11 (.c (.ptr B.length 0))) ⟨B++[(encPd p).cells],[],[]⟩ (encPd p) ⟨B++[(encPd p).cells],[],[]⟩:=fun T=>by
 have:loadA true 11 ⟨B++[(encPd p).cells],[],[]⟩ (.ptr B.length 0)=some (encPd p):=by
  simp only[loadA,List.getElem?_concat_length];rfl
 simp only[opStep,ev,this]
section
variable(B0:List (List AV))(kk jj n:Nat)(nm:List UInt8)
theorem pcs_app(a b:List Pod):pcs (a++b)=pcs a++pcs b:=by simp[pcs,rowCells]
structure DH(C:List Pod)(B:List (List AV)):Prop where
 row:B[kk]?=some (pcs C)
 nme:B[jj]?=some [.str nm]
 tame:Tame B
 from0:∃ex,B=B0.set kk (pcs C)++ex
variable{B0 kk jj n nm}
theorem DH.snoc{C:List Pod}{B:List (List AV)}(h:DH B0 kk jj nm C B){c:List AV}(hc:c.all data0=true):DH B0 kk jj nm C (B++[c]):=by
 obtain⟨ex,e⟩:=h.from0
 have h1:=(List.getElem?_eq_some_iff.1 h.row).1
 have h2:=(List.getElem?_eq_some_iff.1 h.nme).1
 exact⟨by rw[List.getElem?_append_left h1];exact h.row,by rw[List.getElem?_append_left h2];exact h.nme,tame_app h.tame (by simp[hc]),ex++[c],by rw[e,List.append_assoc]⟩
theorem DH.put{C:List Pod}{B:List (List AV)}(h:DH B0 kk jj nm C B)(hkj:kk≠jj)(hk:kk<B0.length)(C':List Pod):DH B0 kk jj nm C' (B.set kk (pcs C')):=by
 obtain⟨ex,e⟩:=h.from0
 have h1:=(List.getElem?_eq_some_iff.1 h.row).1
 refine⟨List.getElem?_set_self h1,by rw[List.getElem?_set_ne hkj];exact h.nme,tame_set h.tame (pcs_data C'),ex,?_⟩
 rw[e,List.set_append_left _ _ (by simpa using hk),List.set_set]
def RetD(B0:List (List AV))(kk n:Nat)(l:List Pod)(r:ARes×Heap):Prop:=∃Z ex,r=(.ret (.msl kk 0 l.length 11),⟨B0.set kk (pcs l++Z)++ex,[],[]⟩)∧Z.all data0=true∧(pcs l++Z).length=n*11
theorem delete_loop(hn:n<9223372036854775807)(hkj:kk≠jj)(hk0:kk<B0.length):∀(post:List Pod)(i:Nat)(U C:List Pod)(B:List (List AV))(hB:DH B0 kk jj nm C B)(hC:C.length=n)(hd:C.drop i=post)(hi:i≤n)(hU:C.take U.length=U)(hl:U.length<i)(T:Env)
 (hT:Has T [(0,.msl kk 0 n 11),(1,.func 91 [.ptr jj 0]),(5,.int .i64 U.length),(6,.int .i64 i)]),
 Goes cfg a89 k89_0 T ⟨B,[],[]⟩ (RetD B0 kk n (U++offP nm post)):=by
 intro post
 induction post with
 |nil=>
  intro i U C B hB hC hd hi hU hl T hT
  have hge:=drop_ge hd
  have hUn:U.length<n:=by omega
  have c1:binA .lss (.int .i64 (i:Nat)) (.int .i64 (n:Nat))=some (.bool false):=lssF (by omega)
  have s1:sliceA 11 (.msl kk 0 n 11) (some (.int .i64 (U.length:Nat))) none none=some (.msl kk (U.length*11) (n-U.length) 11):=by
   simp only[sliceA,sliceM,boundA]
   rw[if_neg (by omega)]
   rw[if_pos ⟨by omega,by omega⟩]
   simp only[Int.toNat_natCast]
   rw[if_pos (by omega)]
   simp
  have s2:sliceA 11 (.msl kk 0 n 11) none (some (.int .i64 (U.length:Nat))) none=some (.msl kk 0 U.length 11):=by
   simp only[sliceA,sliceM,boundA]
   rw[if_neg (by omega)]
   rw[if_pos ⟨by omega,by omega⟩]
   simp only[Int.toNat_natCast]
   rw[if_pos (by omega)]
   simp
  have hz:((List.replicate (n-U.length) zpc).flatten).length=(n-U.length)*11:=by simp
  have hzd:((List.replicate (n-U.length) zpc).flatten).all data0=true:=by
   refine List.all_eq_true.2 fun x hx=> ?_
   obtain⟨l,hl1,hl2⟩:=List.mem_flatten.1 hx
   rw[(List.mem_replicate.1 hl1).2]at hl2
   exact List.all_eq_true.1 (show zpc.all data0=true from rfl) x hl2
  have hpl:=pcs_len C
  have hpu:=pcs_len U
  have hpt:(pcs C).take (U.length*11)=pcs U:=by
   have e:C=U++C.drop U.length:=by
    have:=(List.take_append_drop U.length C).symm
    rwa [hU]at this
   rw[e,pcs_app,List.take_left' hpu]
  have cl:Does cfg (.clearM zpc (.c (.msl kk (U.length*11) (n-U.length) 11))) ⟨B,[],[]⟩ (.tuple []) ⟨B.set kk (pcs U++(List.replicate (n-U.length) zpc).flatten),[],[]⟩:=fun T=>by
   have:clearA zpc ⟨B,[],[]⟩ (.msl kk (U.length*11) (n-U.length) 11)=some ⟨B.set kk (pcs U++(List.replicate (n-U.length) zpc).flatten),[],[]⟩:=by
    simp only[clearA,hB.row]
    rw[if_pos ⟨by omega,rfl,by omega,by omega,rfl⟩,paste_spec _ _ _ (by omega),hpt,List.drop_eq_nil_of_le (by omega),List.append_nil]
   simp only[opStep,ev,this]
  obtain⟨ex,he⟩:=hB.from0
  have hfin:B.set kk (pcs U++(List.replicate (n-U.length) zpc).flatten)=B0.set kk (pcs U++(List.replicate (n-U.length) zpc).flatten)++ex:=by
   rw[he,List.set_append_left _ _ (by simpa using hk0),List.set_set]
  rw[show offP nm []=[]from rfl,List.append_nil]
  generalize(List.replicate (n-U.length) zpc).flatten=Z at cl hz hzd hfin
  rw[hfin]at cl
  have out:RetD B0 kk n U (.ret (.msl kk 0 U.length 11),⟨B0.set kk (pcs U++Z)++ex,[],[]⟩):=⟨Z,ex,rfl,hzd,by rw[List.length_append,hpu,hz];omega⟩
  exact let ζ1:Heap:={boxes:=B0.set kk (pcs U++Z)++ex,toks:=[],loops:=[]:Heap};goG 60 _ hT (.len (rfl:lenA false (.msl kk (0:Nat) n (11:Nat))=some (.int .i64 ↑n))<|.no (decide_eq_false (p:=(↑i:Int)<(↑n:Int)) (by omega))<|.slice (show sliceA (11:Nat) (.msl kk (0:Nat) n (11:Nat)) (some (.int .i64 (↑U.length))) none none=some (.msl kk (U.length*(11:Nat)) (n-U.length) (11:Nat))from s1)<|.effY (show Does cfg (.clearM zpc (.c (.msl kk (U.length*(11:Nat)) (n-U.length) (11:Nat)))) {boxes:=B,toks:=[],loops:=[]:Heap} (.tuple []) ζ1 from cl)<|.slice (show sliceA (11:Nat) (.msl kk (0:Nat) n (11:Nat)) none (some (.int .i64 (↑U.length))) none=some (.msl kk (0:Nat) U.length (11:Nat))from s2)<|.fin ((.ret (.msl kk (0:Nat) U.length (11:Nat)),ζ1)) (by exact out)) (by kernel_rfl)
 |cons x post ih=>
  intro i U C B hB hC hd hi hU hl T hT
  have hlt:=drop_lt hd
  have hnx:=drop_next hd
  have hx:=drop_at hd
  have c1:binA .lss (.int .i64 (i:Nat)) (.int .i64 (n:Nat))=some (.bool true):=lssT (by omega)
  have ld:=loadP (Z:=[]) (by rw[List.append_nil];exact hB.row) hx
  have i1:idxA 11 (.msl kk 0 n 11) (.int .i64 (i:Nat))=some (.ptr kk (0+i*11)):=idx_msl (by omega)
  have s1:=store_last (B:=B) (z:=zpc) x rfl
  have g1:=load_last (B:=B) x
  have hB1:=hB.snoc (pc_data x)
  have pr:=(pred_any hB1.nme hB1.tame x).2
  have inc:=inc_i (i:=i) (by omega)
  by_cases h:x.name=nm
  ·have e:offP nm (x::post)=offP nm post:=by simp[offP,h]
   rw[e]
   rw[show(x.name==nm)=true by simpa using h]at pr
   have ih':=ih (i+1) U C (B++[(encPd x).cells]) hB1 hC hnx (by omega) hU (by omega)
   exact let ζ1:Heap:={boxes:=B++[(encPd x).cells],toks:=[],loops:=[]:Heap};let ζ2:Heap:={boxes:=B,toks:=[],loops:=[]:Heap};goG 90 _ hT (.len (rfl:lenA false (.msl kk (0:Nat) n (11:Nat))=some (.int .i64 ↑n))<|.yes (decide_eq_true (p:=(↑i:Int)<(↑n:Int)) (by omega))<|.idx (show idxA 11 (.msl kk (0:Nat) n (11:Nat)) (.int .i64 ↑i)=some (.ptr kk ((0:Nat)+i*(11:Nat)))from i1)<|.effY (show Does cfg (.load true (11:Nat) (.c (.ptr kk ((0:Nat)+i*(11:Nat))))) ζ2 (encPd x) ζ2 from ld)<|.effY (show Does cfg (.store (11:Nat) (.c (.ptr B.length (0:Nat))) (.c (encPd x))) {boxes:=B++[zpc],toks:=[],loops:=[]:Heap} .undef ζ1 from s1)<|.effY (show Does cfg (.load true (11:Nat) (.c (.ptr B.length (0:Nat)))) ζ1 (encPd x) ζ1 from g1)<|.effY (show Does cfg (.callM (.c (.func (91:FuncId) [.ptr jj (0:Nat)])) [.c (encPd x)]) ζ1 (.bool true) ζ1 from pr)<|.ff<|.bin (show binA .add (.int .i64 ↑i) (.int .i64 1)=some (.int .i64 (↑(i+1)))from inc)<|.cutQ k89_0 [(0,.msl kk (0:Nat) n (11:Nat)),(1,.func (91:Nat) [.ptr jj (0:Nat)]),(5,.int .i64 (↑U.length)),(6,.int .i64 (↑(i+1)))] ({boxes:=B++[[AV.str x.name,.str x.owner,.int .i64 x.prio,.sl .sh (x.need.map encA),.sl .sh (x.labels.map encP),.sl .sh (x.sel.map encM),.sl .sh (x.tols.map encL),.str x.key,.int .i64 x.most,.str x.node,.bool x.hold]],toks:=[],loops:=[]:Heap}) (fun T hT=>(ih' T hT))) (by kernel_rfl)
  ·have e:offP nm (x::post)=x::offP nm post:=by simp[offP,h]
   rw[e]
   rw[show(x.name==nm)=false by simpa using h]at pr
   have i2:idxA 11 (.msl kk 0 n 11) (.int .i64 (U.length:Nat))=some (.ptr kk (0+U.length*11)):=idx_msl (by omega)
   have st:=storeP x hB1.row (j:=U.length) (by omega)
   have inc2:=inc_i (i:=U.length) (by omega)
   have ih':=ih (i+1) (U++[x]) (C.set U.length x) _ (hB1.put hkj hk0 (C.set U.length x)) (by simpa using hC) (by rw[List.drop_set_of_lt (by omega)];exact hnx) (by omega) (by
    rw[List.length_append,List.length_singleton,List.take_add_one,List.getElem?_set_self (by omega),List.take_set_of_le (Nat.le_refl _),hU]
    rfl) (by simp;omega)
   rw[List.append_assoc]at ih'
   have el:((U++[x]).length:Int)=((U.length+1:Nat):Int):=by simp
   rw[el]at ih'
   exact let ζ1:Heap:={boxes:=B++[(encPd x).cells],toks:=[],loops:=[]:Heap};let ζ2:Heap:={boxes:=(B++[(encPd x).cells]).set kk (pcs (C.set U.length x)),toks:=[],loops:=[]:Heap};let ζ3:Heap:={boxes:=B,toks:=[],loops:=[]:Heap};goG 90 _ hT (.len (rfl:lenA false (.msl kk (0:Nat) n (11:Nat))=some (.int .i64 ↑n))<|.yes (decide_eq_true (p:=(↑i:Int)<(↑n:Int)) (by omega))<|.idx (show idxA 11 (.msl kk (0:Nat) n (11:Nat)) (.int .i64 ↑i)=some (.ptr kk ((0:Nat)+i*(11:Nat)))from i1)<|.effY (show Does cfg (.load true (11:Nat) (.c (.ptr kk ((0:Nat)+i*(11:Nat))))) ζ3 (encPd x) ζ3 from ld)<|.effY (show Does cfg (.store (11:Nat) (.c (.ptr B.length (0:Nat))) (.c (encPd x))) {boxes:=B++[zpc],toks:=[],loops:=[]:Heap} .undef ζ1 from s1)<|.effY (show Does cfg (.load true (11:Nat) (.c (.ptr B.length (0:Nat)))) ζ1 (encPd x) ζ1 from g1)<|.effY (show Does cfg (.callM (.c (.func (91:FuncId) [.ptr jj (0:Nat)])) [.c (encPd x)]) ζ1 (.bool false) ζ1 from pr)<|.tt<|.effY (show Does cfg (.load true (11:Nat) (.c (.ptr B.length (0:Nat)))) ζ1 (encPd x) ζ1 from g1)<|.idx (show idxA 11 (.msl kk (0:Nat) n (11:Nat)) (.int .i64 (↑U.length))=some (.ptr kk ((0:Nat)+U.length*(11:Nat)))from i2)<|.effY (show Does cfg (.store (11:Nat) (.c (.ptr kk ((0:Nat)+U.length*(11:Nat)))) (.c (encPd x))) ζ1 .undef ζ2 from st)<|.bin (show binA .add (.int .i64 (↑U.length)) (.int .i64 1)=some (.int .i64 (↑(U.length+(1:Nat)):Int))from inc2)<|.bin (show binA .add (.int .i64 ↑i) (.int .i64 1)=some (.int .i64 (↑(i+1)))from inc)<|.cutQ k89_0 [(0,.msl kk (0:Nat) n (11:Nat)),(1,.func (91:Nat) [.ptr jj (0:Nat)]),(5,.int .i64 (↑(U.length+(1:Nat)):Int)),(6,.int .i64 (↑(i+1)))] (ζ2) (fun T hT=>(ih' T hT))) (by kernel_rfl)
end
end Go.Aa.T
set_option linter.unusedVariables false
set_option linter.unusedSimpArgs false
set_option maxRecDepth 100000
namespace Go.Aa.T
open Go.Aa Go.Proofs
theorem idx_spec(nm:List UInt8):∀(l:List Pod)(i:Nat),(idxG nm i l= -1∧offP nm l=l)∨∃q,idxG nm i l=((i+q:Nat):Int)∧q<l.length∧offP nm l=l.take q++offP nm (l.drop (q+1))
 |[],i=>.inl ⟨rfl,rfl⟩
 |x::l,i=>by
  have e:idxG nm i (x::l)=if x.name=nm then(i:Int)else idxG nm ((i+1:Nat):Int) l:=rfl
  rw[e]
  by_cases h:x.name=nm
  ·rw[if_pos h]
   exact .inr ⟨0,by simp,by simp,by simp[offP,h]⟩
  ·rw[if_neg h]
   have e2:offP nm (x::l)=x::offP nm l:=by simp[offP,h]
   rw[e2]
   rcases idx_spec nm l (i+1)with⟨h1,h2⟩|⟨q,h1,h2,h3⟩
   ·exact .inl ⟨h1,by rw[h2]⟩
   ·exact .inr ⟨q+1,by rw[h1];congr 1;omega,by simp;omega,by rw[h3];rfl⟩
theorem trunc_all{B:List (List AV)}{ex:List (List AV)}{nb:Nat}{v:AV}(hl:B.length=nb)(hB:Tame B)(hv:within nb 0 v=true):trunc nb 0 v ⟨B++ex,[],[]⟩=⟨B,[],[]⟩:=by
 subst hl;exact trunc_tame hB hv
theorem delete_any{B:List (List AV)}{kk jj n:Nat}{nm:List UInt8}{C:List Pod}(hn:n<9223372036854775807)(hkj:kk≠jj)(hk:B[kk]?=some (pcs C))(hj:B[jj]?=some [.str nm])(hB:Tame B)(hC:C.length=n):
 ∃Z,Z.all data0=true∧(pcs (offP nm C)++Z).length=n*11∧Does cfg (.callM (.c (.func 89 [])) [.c (.msl kk 0 n 11),.c (.func 91 [.ptr jj 0])]) ⟨B,[],[]⟩ (.msl kk 0 (offP nm C).length 11) ⟨B.set kk (pcs (offP nm C)++Z),[],[]⟩:=by
 have hk0:=(List.getElem?_eq_some_iff.1 hk).1
 have hi:=index_any hj hk hB hC hn
 have hself:B.set kk (pcs C)=B:=by
  obtain⟨h1,h2⟩:=List.getElem?_eq_some_iff.1 hk
  rw[←h2];exact List.set_getElem_self h1
 have hDH:DH B kk jj nm C B:=⟨hk,hj,hB,[],by rw[hself,List.append_nil]⟩
 have key:Goes cfg a89 [.c c89] (initEnv [.msl kk 0 n 11,.func 91 [.ptr jj 0]]) ⟨B,[],[]⟩ (RetD B kk n (offP nm C)):=by
  have hsp:(idxG nm 0 C= -1∧offP nm C=C)∨∃q,idxG nm 0 C=((0+q:Nat):Int)∧q<C.length∧offP nm C=C.take q++offP nm (C.drop (q+1)):=idx_spec nm C 0
  rcases hsp with⟨h1,h2⟩|⟨q,h1,h2,h3⟩
  ·rw[h1]at hi
   rw[h2]
   have out:RetD B kk n C (.ret (.msl kk 0 n 11),⟨B,[],[]⟩):=⟨[],[],by rw[hC,List.append_nil,List.append_nil,hself],rfl,by rw[List.append_nil,pcs_len,hC]⟩
   exact let ζ1:Heap:={boxes:=B,toks:=[],loops:=[]:Heap};goG 60 [] trivial (.effCM [.msl kk (0:Nat) n (11:Nat),.func (91:Nat) [.ptr jj (0:Nat)]] (show Does cfg (.callM (.c (.func (162:FuncId) [])) [.c (.msl kk (0:Nat) n (11:Nat)),.c (.func (91:FuncId) [.ptr jj (0:Nat)])]) ζ1 (.int .i64 (-1:Int)) ζ1 from hi) rfl<|.tt<|.fin ((.ret (.msl kk (0:Nat) n (11:Nat)),ζ1)) (by exact out)) (by kernel_rfl)
  ·rw[Nat.zero_add]at h1
   rw[h1]at hi
   rw[h3]
   have hl:(C.take q).length=q:=by rw[List.length_take];omega
   have h2':=delete_loop hn hkj hk0 (C.drop (q+1)) (q+1) (C.take q) C B hDH hC rfl (by omega) (by rw[hl]) (by omega)
   rw[hl]at h2'
   have inc:=inc_i (i:=q) (by omega)
   have ne1:binA .eql (.int .i64 (q:Nat)) (.int .i64 (-1))=some (.bool false):=eqlF (by omega)
   exact let ζ1:Heap:={boxes:=B,toks:=[],loops:=[]:Heap};goG 60 [] trivial (.effCM [.msl kk (0:Nat) n (11:Nat),.func (91:Nat) [.ptr jj (0:Nat)]] (show Does cfg (.callM (.c (.func (162:FuncId) [])) [.c (.msl kk (0:Nat) n (11:Nat)),.c (.func (91:FuncId) [.ptr jj (0:Nat)])]) ζ1 (.int .i64 ↑q) ζ1 from hi) rfl<|.ff<|.bin (show binA .add (.int .i64 ↑q) (.int .i64 1)=some (.int .i64 (↑(q+(1:Nat)):Int))from inc)<|.cutQ k89_0 [(0,.msl kk (0:Nat) n (11:Nat)),(1,.func (91:Nat) [.ptr jj (0:Nat)]),(5,.int .i64 ↑q),(6,.int .i64 (↑(q+(1:Nat)):Int))] (ζ1) (fun T hT=>(h2' T hT))) (by kernel_rfl)
 obtain⟨r,h,Z,ex,rfl,hZ,hlen⟩:=key
 refine⟨Z,hZ,hlen,?_⟩
 have h':lim cfg (.fn 89) [.msl kk 0 n 11,.func 91 [.ptr jj 0]] ⟨B,[],[]⟩=some (.ret (.msl kk 0 (offP nm C).length 11),⟨B.set kk (pcs (offP nm C)++Z)++ex,[],[]⟩):=by rw[l89];exact h
 have hd:=does_callM (xs:=[.msl kk 0 n 11,.func 91 [.ptr jj 0]]) h' rfl rfl
 have hw:within B.length 0 (.msl kk 0 (offP nm C).length 11)=true:=by simp[within,in2,in1,in0,hk0]
 have e:=trunc_all (ex:=ex) (nb:=B.length) (by simp) (tame_set (k:=kk) hB (by rw[List.all_append,pcs_data,hZ];rfl:(pcs (offP nm C)++Z).all data0=true)) hw
 rw[show(⟨B,[],[]⟩:Heap).boxes.length=B.length from rfl,show(⟨B,[],[]⟩:Heap).toks.length=0 from rfl,show shutA (.msl kk 0 (offP nm C).length 11)=.msl kk 0 (offP nm C).length 11 from rfl,e]at hd
 exact hd
theorem delete_nil{B:List (List AV)}{jj:Nat}(hB:Tame B):Does cfg (.callM (.c (.func 89 [])) [.c (.sl .nil []),.c (.func 91 [.ptr jj 0])]) ⟨B,[],[]⟩ (.sl .nil []) ⟨B,[],[]⟩:=by
 have lp:∀(T:Env)(hT:Has T [(7,.int .i64 ((([]:List AV).length:Nat):Int)),(8,.int .i64 0)]),Goes cfg a162 k162_0 T ⟨B,[],[]⟩ (fun r=>r=(.ret (.int .i64 (-1)),⟨B,[],[]⟩)):=by
  intro T hT
  exact goG 60 _ hT (.ff<|.fin ((.ret (.int .i64 (-1:Int)),{boxes:=B,toks:=[],loops:=[]:Heap})) rfl) (by kernel_rfl)
 have k1:Goes cfg a162 [.c c162] (initEnv [.sl .nil [],.func 91 [.ptr jj 0]]) ⟨B,[],[]⟩ (fun r=>r=(.ret (.int .i64 (-1)),⟨B,[],[]⟩)):=by
  exact goG 60 [] trivial (.len (show lenA false (.sl .nil [])=some (.int .i64 (↑[].length:Int))from len_sl _ _)<|.cutQ k162_0 [(7,.int .i64 (↑[].length:Int)),(8,.int .i64 0)] ({boxes:=B,toks:=[],loops:=[]:Heap}) (fun T hT=>(lp T hT))) (by kernel_rfl)
 obtain⟨r,h,rfl⟩:=k1
 have h':lim cfg (.fn 162) [.sl .nil [],.func 91 [.ptr jj 0]] ⟨B,[],[]⟩=some (.ret (.int .i64 (-1)),⟨B,[],[]⟩):=by rw[l162];exact h
 have hd:=does_callM (xs:=[.sl .nil [],.func 91 [.ptr jj 0]]) h' rfl rfl
 have e:=trunc_tame (ex:=[]) (v:=.int .i64 (-1)) hB rfl
 rw[List.append_nil]at e
 rw[show(⟨B,[],[]⟩:Heap).boxes.length=B.length from rfl,show(⟨B,[],[]⟩:Heap).toks.length=0 from rfl,show shutA (.int .i64 (-1))=.int .i64 (-1)from rfl,e]at hd
 have hd':Does cfg (.callM (.c (.func 162 [])) [.c (.sl .nil []),.c (.func 91 [.ptr jj 0])]) ⟨B,[],[]⟩ (.int .i64 (-1)) ⟨B,[],[]⟩:=hd
 have k2:Goes cfg a89 [.c c89] (initEnv [.sl .nil [],.func 91 [.ptr jj 0]]) ⟨B,[],[]⟩ (fun r=>r=(.ret (.sl .nil []),⟨B,[],[]⟩)):=by
  exact let ζ1:Heap:={boxes:=B,toks:=[],loops:=[]:Heap};goG 60 [] trivial (.effY (show Does cfg (.callM (.c (.func (162:FuncId) [])) [.c (.sl .nil []),.c (.func (91:FuncId) [.ptr jj (0:Nat)])]) ζ1 (.int .i64 (-1:Int)) ζ1 from hd')<|.tt<|.fin ((.ret (.sl .nil []),ζ1)) rfl) (by kernel_rfl)
 obtain⟨r,h2,rfl⟩:=k2
 have h2':lim cfg (.fn 89) [.sl .nil [],.func 91 [.ptr jj 0]] ⟨B,[],[]⟩=some (.ret (.sl .nil []),⟨B,[],[]⟩):=by rw[l89];exact h2
 have hd2:=does_callM (xs:=[.sl .nil [],.func 91 [.ptr jj 0]]) h2' rfl rfl
 have e2:=trunc_tame (ex:=[]) (v:=.sl .nil []) hB rfl
 rw[List.append_nil]at e2
 rw[show(⟨B,[],[]⟩:Heap).boxes.length=B.length from rfl,show(⟨B,[],[]⟩:Heap).toks.length=0 from rfl,show shutA (.sl .nil [])=.sl .nil []from rfl,e2]at hd2
 exact hd2
end Go.Aa.T
set_option linter.unusedVariables false
set_option linter.unusedSimpArgs false
set_option maxRecDepth 100000
namespace Go.Aa.T
open Go.Aa Go.Proofs
theorem does_callN{xs:List AV}{g:FuncId}{v0 v:AV}{H H0 H2:Heap}(h0:lim cfg (.fn g) xs Heap.nil=some (.ret v0,H0))(hn:isData (shutA v0)=false)(h:lim cfg (.fn g) xs H=some (.ret v,H2))(hx:xs.map shutA=xs)(hd:xs.all isData=true):
 Does cfg (.callM (.c (.func g [])) (xs.map .c)) H (shutA v) (trunc H.boxes.length H.toks.length (shutA v) H2):=fun T=>by
 have e:(xs.map Opd.c).map (fun x=>shutA (ev T x))=xs:=by rw[List.map_map];exact hx
 simp only[opStep,e]
 rw[show ev T (.c (.func g []))=.func g []from rfl]
 simp only[callW,hd,List.all_nil,Bool.and_self,if_true,List.append_nil,h0,hn,Bool.false_eq_true,if_false,callE,h]
theorem trunc_new{B ex:List (List AV)}{nb k off n es:Nat}(hl:nb≤k):trunc nb 0 (.msl k off n es) ⟨B,[],[]⟩=⟨B,[],[]⟩:=by
 unfold trunc
 have hw:within nb 0 (.msl k off n es)=false:=by simp[within,in2,in1,in0];omega
 simp only[hw,List.length_nil,List.all_nil,Bool.true_and,Bool.and_false,Bool.false_and,Bool.false_eq_true,if_false,List.take_zero,ite_self]
theorem clone_lim{l:List Pod}(hl:l≠[])(hs:l.length≤100000)(B:List (List AV)):lim cfg (.fn 90) [.sl .sh (l.map encPd)] ⟨B,[],[]⟩=some (.ret (.msl B.length 0 l.length 11),⟨B++[pcs l],[],[]⟩):=by
 rw[lim_ext (g:=cloneE 11 184) rfl rfl]
 obtain⟨x,m,rfl⟩:=List.exists_cons_of_ne_nil hl
 have hd:dataOk ((x::m).map encPd)=true:=dataOk_map fun _=>rfl
 simp only[cloneE,List.map_cons,appendMA]
 rw[if_pos ⟨by trivial,by trivial,by simp only[List.length_cons,List.length_map]at hs⊢;omega,lenPd (l:=x::m),hd⟩]
 simp[pcs]
theorem clone_any{l:List Pod}(hl:l≠[])(hs:l.length≤100000)(B:List (List AV)):Does cfg (.callM (.c (.func 90 [])) [.c (.sl .sh (l.map encPd))]) ⟨B,[],[]⟩ (.msl B.length 0 l.length 11) ⟨B++[pcs l],[],[]⟩:=by
 have h:=does_callN (xs:=[.sl .sh (l.map encPd)]) (clone_lim hl hs []) rfl (clone_lim hl hs B) rfl rfl
 rw[show shutA (.msl B.length 0 l.length 11)=.msl B.length 0 l.length 11 from rfl,show(⟨B,[],[]⟩:Heap).boxes.length=B.length from rfl,show(⟨B,[],[]⟩:Heap).toks.length=0 from rfl,trunc_new (ex:=[]) (Nat.le_refl _)]at h
 exact h
theorem clone_none(B:List (List AV))(hB:Tame B):Does cfg (.callM (.c (.func 90 [])) [.c (.sl .sh [])]) ⟨B,[],[]⟩ (.sl .nil []) ⟨B,[],[]⟩:=by
 have h:∀H,lim cfg (.fn 90) [.sl .sh []] H=some (.ret (.sl .nil []),H):=fun H=>by
  rw[lim_ext (g:=cloneE 11 184) rfl rfl];rfl
 have h:=does_callN (xs:=[.sl .sh []]) (h Heap.nil) rfl (h ⟨B,[],[]⟩) rfl rfl
 have e:=trunc_tame (ex:=[]) (v:=.sl .nil []) hB rfl
 rw[List.append_nil]at e
 rw[show shutA (.sl .nil [])=.sl .nil []from rfl,show(⟨B,[],[]⟩:Heap).boxes.length=B.length from rfl,show(⟨B,[],[]⟩:Heap).toks.length=0 from rfl,e]at h
 exact h
inductive PR(kk:Nat)(n:Nat)(l:List Pod):AV→List (List AV)→Prop
 |some(Z:List AV)(hZ:Z.all data0=true)(hn:0<n)(hl:(pcs l++Z).length=n*11):PR kk n l (.msl kk 0 l.length 11) [pcs l++Z]
 |none(h0:n=0)(hl:l=[]):PR kk n l (.sl .nil []) []
abbrev stC(s:St)(v:AV):List AV:=[.sl .sh (s.nodes.map encN),v,.sl .sh (s.buds.map encB)]
def stA(s:St)(v:AV):AV:=.agg (stC s v)
def RetDr(B:List (List AV))(s:St)(nm:List UInt8)(r:ARes×Heap):Prop:=∃v ex,PR (B.length+3) s.pods.length (offP nm s.pods) v ex∧r=(.ret (stA s v),⟨B++([stC s v,[.str nm],stC s v]++ex),[],[]⟩)
theorem drop0(s:St)(nm:List UInt8)(hs:s.pods.length≤100000):Goes cfg a27 [.c c27] (initEnv [encSt s,.str nm]) ⟨[],[],[]⟩ (RetDr [] s nm):=by
 obtain⟨nodes,pods,buds⟩:=s
 have hT:Tame [(encSt ⟨nodes,pods,buds⟩).cells,[.str nm],[.sl .full [],.sl .full [],.sl .full []]]:=tame_data rfl
 by_cases hp:pods=[]
 ·subst hp
  have h1:=clone_none [(encSt ⟨nodes,[],buds⟩).cells,[.str nm],[.sl .full [],.sl .full [],.sl .full []]] hT
  have h2:=delete_nil (jj:=1) hT
  have out:RetDr [] ⟨nodes,[],buds⟩ nm (.ret (stA ⟨nodes,[],buds⟩ (.sl .nil [])),⟨[stC ⟨nodes,[],buds⟩ (.sl .nil []),[.str nm],stC ⟨nodes,[],buds⟩ (.sl .nil [])],[],[]⟩):=⟨_,[],.none rfl rfl,rfl⟩
  exact let ζ1:Heap:={boxes:=[(encSt {nodes:=nodes,pods:=[],buds:=buds:St}).cells,[.str nm],[.sl .full [],.sl .full [],.sl .full []]],toks:=[],loops:=[]:Heap};let ζ2:List AV:=[.sl .sh (List.map encN {nodes:=nodes,pods:=[],buds:=buds:St}.nodes),.sl .nil [],.sl .sh (List.map encB {nodes:=nodes,pods:=[],buds:=buds:St}.buds)];goG 60 [] trivial (.effY (show Does cfg (.callM (.c (.func (90:FuncId) [])) [.c (.sl .sh [])]) ζ1 (.sl .nil []) ζ1 from h1)<|.effY (show Does cfg (.callM (.c (.func (89:FuncId) [])) [.c (.sl .nil []),.c (.func (91:FuncId) [.ptr 1 0])]) ζ1 (.sl .nil []) ζ1 from h2)<|.fin ((.ret (.agg ζ2),{boxes:=[ζ2,[.str nm],ζ2],toks:=[],loops:=[]:Heap})) (by exact out)) (by kernel_rfl)
 ·have h1:=clone_any hp hs [(encSt ⟨nodes,pods,buds⟩).cells,[.str nm],[.sl .full [],.sl .full [],.sl .full []]]
  obtain⟨Z,hZ,hl,h2⟩:=delete_any (B:=[(encSt ⟨nodes,pods,buds⟩).cells,[.str nm],[.sl .full [],.sl .full [],.sl .full []],pcs pods]) (kk:=3) (jj:=1) (n:=pods.length) (nm:=nm) (C:=pods) (by simp only at hs;omega) (by decide) rfl rfl (tame_app (ex:=[pcs pods]) hT (by simp[pcs_data])) rfl
  have hpos:0<pods.length:=List.length_pos_iff.2 hp
  have out:RetDr [] ⟨nodes,pods,buds⟩ nm (.ret (stA ⟨nodes,pods,buds⟩ (.msl 3 0 (offP nm pods).length 11)),⟨[stC ⟨nodes,pods,buds⟩ (.msl 3 0 (offP nm pods).length 11),[.str nm],stC ⟨nodes,pods,buds⟩ (.msl 3 0 (offP nm pods).length 11),pcs (offP nm pods)++Z],[],[]⟩):=⟨_,_,.some Z hZ hpos hl,rfl⟩
  have h1':Does cfg (.callM (.c (.func 90 [])) [.c (.sl .sh (pods.map encPd))]) ⟨[(encSt ⟨nodes,pods,buds⟩).cells,[.str nm],[.sl .full [],.sl .full [],.sl .full []]],[],[]⟩ (.msl 3 0 pods.length 11) ⟨[(encSt ⟨nodes,pods,buds⟩).cells,[.str nm],[.sl .full [],.sl .full [],.sl .full []],pcs pods],[],[]⟩:=h1
  have h2':Does cfg (.callM (.c (.func 89 [])) [.c (.msl 3 0 pods.length 11),.c (.func 91 [.ptr 1 0])]) ⟨[(encSt ⟨nodes,pods,buds⟩).cells,[.str nm],[.sl .full [],.sl .full [],.sl .full []],pcs pods],[],[]⟩ (.msl 3 0 (offP nm pods).length 11) ⟨[(encSt ⟨nodes,pods,buds⟩).cells,[.str nm],[.sl .full [],.sl .full [],.sl .full []],pcs (offP nm pods)++Z],[],[]⟩:=h2
  generalize pcs (offP nm pods)++Z=R at h2' out
  generalize pcs pods=Q at h1' h2'
  exact let ζ1:List AV:=[.sl .sh (List.map encN {nodes:=nodes,pods:=pods,buds:=buds:St}.nodes),.msl (3:Nat) (0:Nat) (offP nm pods).length (11:Nat),.sl .sh (List.map encB {nodes:=nodes,pods:=pods,buds:=buds:St}.buds)];let ζ3:List AV:=[.sl .full [],.sl .full [],.sl .full []];let ζ2:Heap:={boxes:=[(encSt {nodes:=nodes,pods:=pods,buds:=buds:St}).cells,[.str nm],ζ3,Q],toks:=[],loops:=[]:Heap};goG 60 [] trivial (.effY (show Does cfg (.callM (.c (.func (90:FuncId) [])) [.c (.sl .sh (pods.map encPd))]) {boxes:=[(encSt {nodes:=nodes,pods:=pods,buds:=buds:St}).cells,[.str nm],ζ3],toks:=[],loops:=[]:Heap} (.msl (3:Nat) (0:Nat) pods.length (11:Nat)) ζ2 from h1')<|.effY (show Does cfg (.callM (.c (.func (89:FuncId) [])) [.c (.msl (3:Nat) (0:Nat) pods.length (11:Nat)),.c (.func (91:FuncId) [.ptr 1 0])]) ζ2 (.msl (3:Nat) (0:Nat) (offP nm pods).length (11:Nat)) {boxes:=[(encSt {nodes:=nodes,pods:=pods,buds:=buds:St}).cells,[.str nm],ζ3,R],toks:=[],loops:=[]:Heap}from h2')<|.fin ((.ret (.agg ζ1),{boxes:=[ζ1,[.str nm],ζ1,R],toks:=[],loops:=[]:Heap})) (by exact out)) (by kernel_rfl)
theorem drop3(b0 b1 b2:List AV)(hb:Tame [b0,b1,b2])(s:St)(nm:List UInt8)(hs:s.pods.length≤100000):Goes cfg a27 [.c c27] (initEnv [encSt s,.str nm]) ⟨[b0,b1,b2],[],[]⟩ (RetDr [b0,b1,b2] s nm):=by
 obtain⟨nodes,pods,buds⟩:=s
 have hT:Tame [b0,b1,b2,(encSt ⟨nodes,pods,buds⟩).cells,[.str nm],[.sl .full [],.sl .full [],.sl .full []]]:=tame_app (ex:=[(encSt ⟨nodes,pods,buds⟩).cells,[.str nm],[.sl .full [],.sl .full [],.sl .full []]]) hb rfl
 by_cases hp:pods=[]
 ·subst hp
  have h1:=clone_none [b0,b1,b2,(encSt ⟨nodes,[],buds⟩).cells,[.str nm],[.sl .full [],.sl .full [],.sl .full []]] hT
  have h2:=delete_nil (jj:=4) hT
  have out:RetDr [b0,b1,b2] ⟨nodes,[],buds⟩ nm (.ret (stA ⟨nodes,[],buds⟩ (.sl .nil [])),⟨[b0,b1,b2,stC ⟨nodes,[],buds⟩ (.sl .nil []),[.str nm],stC ⟨nodes,[],buds⟩ (.sl .nil [])],[],[]⟩):=⟨_,[],.none rfl rfl,rfl⟩
  exact let ζ1:Heap:={boxes:=[b0,b1,b2,(encSt {nodes:=nodes,pods:=[],buds:=buds:St}).cells,[.str nm],[.sl .full [],.sl .full [],.sl .full []]],toks:=[],loops:=[]:Heap};let ζ2:List AV:=[.sl .sh (List.map encN {nodes:=nodes,pods:=[],buds:=buds:St}.nodes),.sl .nil [],.sl .sh (List.map encB {nodes:=nodes,pods:=[],buds:=buds:St}.buds)];goG 60 [] trivial (.effY (show Does cfg (.callM (.c (.func (90:FuncId) [])) [.c (.sl .sh [])]) ζ1 (.sl .nil []) ζ1 from h1)<|.effY (show Does cfg (.callM (.c (.func (89:FuncId) [])) [.c (.sl .nil []),.c (.func (91:FuncId) [.ptr 4 0])]) ζ1 (.sl .nil []) ζ1 from h2)<|.fin ((.ret (.agg ζ2),{boxes:=[b0,b1,b2,ζ2,[.str nm],ζ2],toks:=[],loops:=[]:Heap})) (by exact out)) (by kernel_rfl)
 ·have h1:=clone_any hp hs [b0,b1,b2,(encSt ⟨nodes,pods,buds⟩).cells,[.str nm],[.sl .full [],.sl .full [],.sl .full []]]
  obtain⟨Z,hZ,hl,h2⟩:=delete_any (B:=[b0,b1,b2,(encSt ⟨nodes,pods,buds⟩).cells,[.str nm],[.sl .full [],.sl .full [],.sl .full []],pcs pods]) (kk:=6) (jj:=4) (n:=pods.length) (nm:=nm) (C:=pods) (by simp only at hs;omega) (by decide) rfl rfl (tame_app (ex:=[pcs pods]) hT (by simp[pcs_data])) rfl
  have hpos:0<pods.length:=List.length_pos_iff.2 hp
  have out:RetDr [b0,b1,b2] ⟨nodes,pods,buds⟩ nm (.ret (stA ⟨nodes,pods,buds⟩ (.msl 6 0 (offP nm pods).length 11)),⟨[b0,b1,b2,stC ⟨nodes,pods,buds⟩ (.msl 6 0 (offP nm pods).length 11),[.str nm],stC ⟨nodes,pods,buds⟩ (.msl 6 0 (offP nm pods).length 11),pcs (offP nm pods)++Z],[],[]⟩):=⟨_,_,.some Z hZ hpos hl,rfl⟩
  have h1':Does cfg (.callM (.c (.func 90 [])) [.c (.sl .sh (pods.map encPd))]) ⟨[b0,b1,b2,(encSt ⟨nodes,pods,buds⟩).cells,[.str nm],[.sl .full [],.sl .full [],.sl .full []]],[],[]⟩ (.msl 6 0 pods.length 11) ⟨[b0,b1,b2,(encSt ⟨nodes,pods,buds⟩).cells,[.str nm],[.sl .full [],.sl .full [],.sl .full []],pcs pods],[],[]⟩:=h1
  have h2':Does cfg (.callM (.c (.func 89 [])) [.c (.msl 6 0 pods.length 11),.c (.func 91 [.ptr 4 0])]) ⟨[b0,b1,b2,(encSt ⟨nodes,pods,buds⟩).cells,[.str nm],[.sl .full [],.sl .full [],.sl .full []],pcs pods],[],[]⟩ (.msl 6 0 (offP nm pods).length 11) ⟨[b0,b1,b2,(encSt ⟨nodes,pods,buds⟩).cells,[.str nm],[.sl .full [],.sl .full [],.sl .full []],pcs (offP nm pods)++Z],[],[]⟩:=h2
  generalize pcs (offP nm pods)++Z=R at h2' out
  generalize pcs pods=Q at h1' h2'
  exact let ζ1:List AV:=[.sl .sh (List.map encN {nodes:=nodes,pods:=pods,buds:=buds:St}.nodes),.msl (6:Nat) (0:Nat) (offP nm pods).length (11:Nat),.sl .sh (List.map encB {nodes:=nodes,pods:=pods,buds:=buds:St}.buds)];let ζ3:List AV:=[.sl .full [],.sl .full [],.sl .full []];let ζ2:Heap:={boxes:=[b0,b1,b2,(encSt {nodes:=nodes,pods:=pods,buds:=buds:St}).cells,[.str nm],ζ3,Q],toks:=[],loops:=[]:Heap};goG 60 [] trivial (.effY (show Does cfg (.callM (.c (.func (90:FuncId) [])) [.c (.sl .sh (pods.map encPd))]) {boxes:=[b0,b1,b2,(encSt {nodes:=nodes,pods:=pods,buds:=buds:St}).cells,[.str nm],ζ3],toks:=[],loops:=[]:Heap} (.msl (6:Nat) (0:Nat) pods.length (11:Nat)) ζ2 from h1')<|.effY (show Does cfg (.callM (.c (.func (89:FuncId) [])) [.c (.msl (6:Nat) (0:Nat) pods.length (11:Nat)),.c (.func (91:FuncId) [.ptr 4 0])]) ζ2 (.msl (6:Nat) (0:Nat) (offP nm pods).length (11:Nat)) {boxes:=[b0,b1,b2,(encSt {nodes:=nodes,pods:=pods,buds:=buds:St}).cells,[.str nm],ζ3,R],toks:=[],loops:=[]:Heap}from h2')<|.fin ((.ret (.agg ζ1),{boxes:=[b0,b1,b2,ζ1,[.str nm],ζ1,R],toks:=[],loops:=[]:Heap})) (by exact out)) (by kernel_rfl)
theorem unrow_pods(Z:List AV):∀l:List Pod,unrow 11 l.length (pcs l++Z)=l.map encPd
 |[]=>rfl
 |x::l=>by
  have e:pcs (x::l)++Z=(encPd x).cells++(pcs l++Z):=by simp[pcs,rowCells]
  have ih:=unrow_pods Z l
  rw[e]
  show encPd x::unrow 11 l.length (pcs l++Z)=_
  rw[ih];rfl
theorem frz_pods{bs:List (List AV)}{kk:Nat}{l:List Pod}{Z:List AV}(hk:bs[kk]?=some (pcs l++Z))(hZ:Z.all data0=true):frz1 ⟨bs,[],[]⟩ (.msl kk 0 l.length 11)=some (.sl .sh (l.map encPd)):=by
 have hl:=pcs_len l
 simp only[frz1,hk,List.drop_zero]
 rw[if_pos ⟨by rw[List.length_append];omega,Nat.zero_le _,by decide,by rw[List.all_append,pcs_data,hZ];rfl⟩,unrow_pods]
theorem out_stA{bs:List (List AV)}{s:St}{v:AV}{l:List Pod}(hv:isData (shutA (stA s v))=false)(hs:shut1 v=v)(hf:frz1 ⟨bs,[],[]⟩ v=some (.sl .sh (l.map encPd))):dataOut ⟨bs,[],[]⟩ (stA s v)=some (encSt {s with pods:=l}):=by
 unfold dataOut
 rw[if_neg (by rw[hv];decide)]
 have:frzA ⟨bs,[],[]⟩ (stA s v)=some (encSt {s with pods:=l}):=by
  simp only[stA,frzA,frz2,frzL,hf]
  simp[frz1,encSt]
 rw[this]
 rfl
end Go.Aa.T
set_option linter.unusedVariables false
set_option linter.unusedSimpArgs false
set_option maxRecDepth 100000
namespace Go.Aa.T
open Go.Aa Go.Proofs
theorem cmp_less:∀(a b:List UInt8),decide (Lib.compareBytes a b<0)=Op.bytesLess a b
 |[],[]=>rfl
 |[],_::_=>rfl
 |_::_,[]=>rfl
 |x::a,y::b=>by
  have ih:=cmp_less a b
  unfold Lib.compareBytes Op.bytesLess
  by_cases h1:x<y
  ·simp[h1]
  ·by_cases h2:y<x
   ·have hne:¬x=y:=fun e=>by subst e;exact h1 h2
    simp[h1,h2,hne]
   ·have he:x=y:=by
     have a1:¬x.toNat<y.toNat:=fun h=>h1 h
     have a2:¬y.toNat<x.toNat:=fun h=>h2 h
     exact UInt8.toNat_inj.1 (by omega)
    subst he
    simp[h1,ih]
theorem cmp_any(p:Pod)(nm:List UInt8):Gives cfg 117 [encPd p,.str nm] (.int .i64 (Lib.compareBytes p.name nm)):=by
 refine Gives.run (l117 _ _) ?_
 have h:Gives cfg 118 [.str p.name,.str nm] (.int .i64 (Lib.compareBytes p.name nm)):=Gives.of (H':=Heap.nil) (by rw[lim_ext (g:=cmpE) rfl rfl];rfl)
 exact goG 60 [] trivial (.callK ([.str p.name,.str nm]) (.int .i64 (Lib.compareBytes p.name nm)) (show Gives cfg (118:FuncId) [.str p.name,.str nm] (.int .i64 (Lib.compareBytes p.name nm))from h)<|.fin ((.ret (.int .i64 (Lib.compareBytes p.name nm)),{boxes:=[[.str p.name,.str p.owner,.int .i64 p.prio,.sl .sh (p.need.map encA),.sl .sh (p.labels.map encP),.sl .sh (p.sel.map encM),.sl .sh (p.tols.map encL),.str p.key,.int .i64 p.most,.str p.node,.bool p.hold]],toks:=[],loops:=[]:Heap})) rfl) (by kernel_rfl)
theorem conv_u{m:Nat}(h:m<9223372036854775808):convA (.int .u64) (.int .i64 (m:Nat))=some (.int .u64 (m:Nat)):=by
 have e:IntKind.u64.wrap (m:Int)=(m:Int):=by
  simp only[IntKind.wrap,IntKind.bits,IntKind.signed,Bool.false_and,Bool.false_eq_true,if_false]
  omega
 simp[convA,e]
theorem shr_1(m:Nat):binA .shr (.int .u64 (m:Nat)) (.int .u64 1)=some (.int .u64 ((m/2:Nat))):=by
 have e:(m:Int).fdiv 2=((m/2:Nat):Int):=by
  rw[Int.fdiv_eq_ediv_of_nonneg _ (by decide)];rfl
 show some (AV.int .u64 ((m:Int).fdiv (2^(min (1:Int).toNat IntKind.u64.bits))))=_
 rw[show(2:Int)^(min (1:Int).toNat IntKind.u64.bits)=2 from rfl,e]
def before(nm:List UInt8)(p:Pod):Bool:=Op.bytesLess p.name nm
def RetB(B:List (List AV))(q:Nat)(r:ARes×Heap):Prop:=∃f,r=(.ret (.tuple [.int .i64 (q:Nat),.bool f]),⟨B,[],[]⟩)
theorem bs_loop{B:List (List AV)}{kk n:Nat}{nm:List UInt8}{C:List Pod}{Z:List AV}{q:Nat}(hk:B[kk]?=some (pcs C++Z))(hC:C.length=n)(hn:n≤100000)(hq:q≤n)(h1:∀k p,C[k]?=some p→k<q→before nm p=true)(h2:∀k p,C[k]?=some p→q≤k→before nm p=false):
 ∀(d i j:Nat)(hd:j-i≤d)(hi:i≤q)(hj:q≤j)(hjn:j≤n)(T:Env)
 (hT:Has T [(0,.msl kk 0 n 11),(1,.str nm),(2,.func 117 []),(8,.int .i64 n),(9,.int .i64 i),(10,.int .i64 j)]),
 Goes cfg a116 k116_0 T ⟨B,[],[]⟩ (RetB B q):=by
 intro d
 induction d with
 |zero=>
  intro i j hd hi hj hjn T hT
  have e1:i=q:=by omega
  have e2:j=q:=by omega
  subst e1
  subst e2
  have c1:binA .lss (.int .i64 (j:Nat)) (.int .i64 (j:Nat))=some (.bool false):=lssF (by omega)
  by_cases hqn:j<n
  ·obtain⟨p,hp⟩:∃p,C[j]?=some p:=⟨C[j],List.getElem?_eq_getElem (by omega)⟩
   have ld:=loadP hk hp
   have c2:binA .lss (.int .i64 (j:Nat)) (.int .i64 (n:Nat))=some (.bool true):=lssT (by omega)
   have i1:idxA 11 (.msl kk 0 n 11) (.int .i64 (j:Nat))=some (.ptr kk (0+j*11)):=idx_msl (by omega)
   have cm:=cmp_any p nm
   have e3:=binA_eql .i64 (Lib.compareBytes p.name nm) 0
   generalize Lib.compareBytes p.name nm=z at cm e3
   exact let ζ1:Heap:={boxes:=B,toks:=[],loops:=[]:Heap};goG 60 _ hT (.no (decide_eq_false (p:=(↑j:Int)<(↑j:Int)) (by omega))<|.yes (decide_eq_true (p:=(↑j:Int)<(↑n:Int)) (by omega))<|.idx (show idxA 11 (.msl kk (0:Nat) n (11:Nat)) (.int .i64 ↑j)=some (.ptr kk ((0:Nat)+j*(11:Nat)))from i1)<|.effY (show Does cfg (.load true (11:Nat) (.c (.ptr kk ((0:Nat)+j*(11:Nat))))) ζ1 (encPd p) ζ1 from ld)<|.callK ([.agg [.str p.name,.str p.owner,.int .i64 p.prio,.sl .sh (p.need.map encA),.sl .sh (p.labels.map encP),.sl .sh (p.sel.map encM),.sl .sh (p.tols.map encL),.str p.key,.int .i64 p.most,.str p.node,.bool p.hold],.str nm]) (.int .i64 z) (show Gives cfg (117:FuncId) [encPd p,.str nm] (.int .i64 z)from cm)<|.fin ((.ret (.tuple [.int .i64 ↑j,.bool (z==(0:Int))]),ζ1)) (by exact⟨_,rfl⟩)) (by kernel_rfl)
  ·have c2:binA .lss (.int .i64 (j:Nat)) (.int .i64 (n:Nat))=some (.bool false):=lssF (by omega)
   exact goG 60 _ hT (.no (decide_eq_false (p:=(↑j:Int)<(↑j:Int)) (by omega))<|.no (decide_eq_false (p:=(↑j:Int)<(↑n:Int)) (by omega))<|.fin ((.ret (.tuple [.int .i64 ↑j,.bool false]),{boxes:=B,toks:=[],loops:=[]:Heap})) (by exact⟨_,rfl⟩)) (by kernel_rfl)
 |succ d ih=>
  intro i j hd hi hj hjn T hT
  by_cases hij:i<j
  ·have c1:binA .lss (.int .i64 (i:Nat)) (.int .i64 (j:Nat))=some (.bool true):=lssT (by omega)
   have ad:binA .add (.int .i64 (i:Nat)) (.int .i64 (j:Nat))=some (.int .i64 ((i+j:Nat):Int)):=addI (by omega) (by omega)
   have cv:=conv_u (m:=i+j) (by omega)
   have sh:=shr_1 (i+j)
   obtain⟨h,hh⟩:∃h,h=(i+j)/2:=⟨_,rfl⟩
   rw[←hh]at sh
   have ci:convA (.int .i64) (.int .u64 (h:Nat))=some (.int .i64 (h:Nat)):=conv_i64 (by omega)
   obtain⟨p,hp⟩:∃p,C[h]?=some p:=⟨C[h]'(by omega),List.getElem?_eq_getElem (by omega)⟩
   have ld:=loadP hk hp
   have i1:idxA 11 (.msl kk 0 n 11) (.int .i64 (h:Nat))=some (.ptr kk (0+h*11)):=idx_msl (by omega)
   have cm:=cmp_any p nm
   have hl:=cmp_less p.name nm
   have inc:=inc_i (i:=h) (by omega)
   by_cases hb:before nm p=true
   ·have hz:Lib.compareBytes p.name nm<0:=by
     have:=hl.trans hb
     simpa using this
    have lt:binA .lss (.int .i64 (Lib.compareBytes p.name nm)) (.int .i64 0)=some (.bool true):=lssT hz
    have hqh:h<q:=by
     rcases Nat.lt_or_ge h q with h'|h'
     ·exact h'
     ·rw[h2 h p hp h']at hb;cases hb
    have ih':=ih (h+1) j (by omega) (by omega) hj hjn
    generalize Lib.compareBytes p.name nm=z at cm lt hz
    exact let ζ1:Heap:={boxes:=B,toks:=[],loops:=[]:Heap};goG 90 _ hT (.yes (decide_eq_true (p:=(↑i:Int)<(↑j:Int)) (by omega))<|.bin (show binA .add (.int .i64 ↑i) (.int .i64 ↑j)=some (.int .i64 (↑(i+j):Int))from ad)<|.conv (show convA (CV.int IntKind.u64) (.int .i64 (↑(i+j):Int))=some (.int .u64 (↑(i+j):Int))from cv)<|.bin (show binA .shr (.int .u64 (↑(i+j):Int)) (.int .u64 1)=some (.int .u64 ↑h)from sh)<|.conv (show convA (CV.int IntKind.i64) (.int .u64 ↑h)=some (.int .i64 ↑h)from ci)<|.idx (show idxA 11 (.msl kk (0:Nat) n (11:Nat)) (.int .i64 ↑h)=some (.ptr kk ((0:Nat)+h*(11:Nat)))from i1)<|.effY (show Does cfg (.load true (11:Nat) (.c (.ptr kk ((0:Nat)+h*(11:Nat))))) ζ1 (encPd p) ζ1 from ld)<|.callK ([.agg [.str p.name,.str p.owner,.int .i64 p.prio,.sl .sh (p.need.map encA),.sl .sh (p.labels.map encP),.sl .sh (p.sel.map encM),.sl .sh (p.tols.map encL),.str p.key,.int .i64 p.most,.str p.node,.bool p.hold],.str nm]) (.int .i64 z) (show Gives cfg (117:FuncId) [encPd p,.str nm] (.int .i64 z)from cm)<|.yes (decide_eq_true (p:=z<(0:Int)) (by omega))<|.bin (show binA .add (.int .i64 ↑h) (.int .i64 1)=some (.int .i64 (↑(h+(1:Nat)):Int))from inc)<|.cutQ k116_0 [(0,.msl kk (0:Nat) n (11:Nat)),(1,.str nm),(2,.func (117:Nat) []),(8,.int .i64 ↑n),(9,.int .i64 (↑(h+(1:Nat)):Int)),(10,.int .i64 ↑j)] (ζ1) (fun T hT=>(ih' T hT))) (by kernel_rfl)
   ·have hz:¬Lib.compareBytes p.name nm<0:=fun hlt=>hb (by rw[before,←hl];simpa using hlt)
    have lt:binA .lss (.int .i64 (Lib.compareBytes p.name nm)) (.int .i64 0)=some (.bool false):=lssF (by omega)
    have hqh:q≤h:=by
     rcases Nat.lt_or_ge h q with h'|h'
     ·exact absurd (h1 h p hp h') hb
     ·exact h'
    have ih':=ih i h (by omega) hi hqh (by omega)
    generalize Lib.compareBytes p.name nm=z at cm lt hz
    exact let ζ1:Heap:={boxes:=B,toks:=[],loops:=[]:Heap};goG 90 _ hT (.yes (decide_eq_true (p:=(↑i:Int)<(↑j:Int)) (by omega))<|.bin (show binA .add (.int .i64 ↑i) (.int .i64 ↑j)=some (.int .i64 (↑(i+j):Int))from ad)<|.conv (show convA (CV.int IntKind.u64) (.int .i64 (↑(i+j):Int))=some (.int .u64 (↑(i+j):Int))from cv)<|.bin (show binA .shr (.int .u64 (↑(i+j):Int)) (.int .u64 1)=some (.int .u64 ↑h)from sh)<|.conv (show convA (CV.int IntKind.i64) (.int .u64 ↑h)=some (.int .i64 ↑h)from ci)<|.idx (show idxA 11 (.msl kk (0:Nat) n (11:Nat)) (.int .i64 ↑h)=some (.ptr kk ((0:Nat)+h*(11:Nat)))from i1)<|.effY (show Does cfg (.load true (11:Nat) (.c (.ptr kk ((0:Nat)+h*(11:Nat))))) ζ1 (encPd p) ζ1 from ld)<|.callK ([.agg [.str p.name,.str p.owner,.int .i64 p.prio,.sl .sh (p.need.map encA),.sl .sh (p.labels.map encP),.sl .sh (p.sel.map encM),.sl .sh (p.tols.map encL),.str p.key,.int .i64 p.most,.str p.node,.bool p.hold],.str nm]) (.int .i64 z) (show Gives cfg (117:FuncId) [encPd p,.str nm] (.int .i64 z)from cm)<|.no (decide_eq_false (p:=z<(0:Int)) (by omega))<|.cutQ k116_0 [(0,.msl kk (0:Nat) n (11:Nat)),(1,.str nm),(2,.func (117:Nat) []),(8,.int .i64 ↑n),(9,.int .i64 ↑i),(10,.int .i64 ↑h)] (ζ1) (fun T hT=>(ih' T hT))) (by kernel_rfl)
  ·exact ih i j (by omega) hi hj hjn T hT
theorem bs_any{B:List (List AV)}{kk n:Nat}{nm:List UInt8}{C:List Pod}{Z:List AV}{q:Nat}(hk:B[kk]?=some (pcs C++Z))(hB:Tame B)(hC:C.length=n)(hn:n≤100000)(hq:q≤n)(h1:∀k p,C[k]?=some p→k<q→before nm p=true)(h2:∀k p,C[k]?=some p→q≤k→before nm p=false):
 ∃f,Does cfg (.callM (.c (.func 116 [])) [.c (.msl kk 0 n 11),.c (.str nm),.c (.func 117 [])]) ⟨B,[],[]⟩ (.tuple [.int .i64 (q:Nat),.bool f]) ⟨B,[],[]⟩:=by
 have key:Goes cfg a116 [.c c116] (initEnv [.msl kk 0 n 11,.str nm,.func 117 []]) ⟨B,[],[]⟩ (RetB B q):=by
  have h:=bs_loop hk hC hn hq h1 h2 n 0 n (by omega) (by omega) hq (by omega)
  exact goG 60 [] trivial (.len (rfl:lenA false (.msl kk (0:Nat) n (11:Nat))=some (.int .i64 ↑n))<|.cutQ k116_0 [(0,.msl kk (0:Nat) n (11:Nat)),(1,.str nm),(2,.func (117:Nat) []),(8,.int .i64 ↑n),(9,.int .i64 0),(10,.int .i64 ↑n)] ({boxes:=B,toks:=[],loops:=[]:Heap}) (fun T hT=>(h T hT))) (by kernel_rfl)
 obtain⟨r,h,f,rfl⟩:=key
 refine⟨f,?_⟩
 have h':lim cfg (.fn 116) [.msl kk 0 n 11,.str nm,.func 117 []] ⟨B,[],[]⟩=some (.ret (.tuple [.int .i64 (q:Nat),.bool f]),⟨B,[],[]⟩):=by rw[l116];exact h
 have hd:=does_callM (xs:=[.msl kk 0 n 11,.str nm,.func 117 []]) h' rfl rfl
 have e:=trunc_tame (ex:=[]) (v:=.tuple [.int .i64 (q:Nat),.bool f]) hB rfl
 rw[List.append_nil]at e
 rw[show(⟨B,[],[]⟩:Heap).boxes.length=B.length from rfl,show(⟨B,[],[]⟩:Heap).toks.length=0 from rfl,show shutA (.tuple [.int .i64 (q:Nat),.bool f])=.tuple [.int .i64 (q:Nat),.bool f]from rfl,e]at hd
 exact hd
end Go.Aa.T
set_option linter.unusedVariables false
set_option linter.unusedSimpArgs false
set_option maxRecDepth 100000
namespace Go.Aa.T
open Go.Aa Go.Proofs
abbrev pzc:List AV:=[.sl .full [],.sl .full [],.sl .full []]
theorem does_bsl{B:List (List AV)}(p:Pod):Does cfg (.bsliceM 11 [.c (encPd p)]) ⟨B,[],[]⟩ (.msl B.length 0 1 11) ⟨B++[(encPd p).cells],[],[]⟩:=fun T=>by
 have:bsliceA 11 ⟨B,[],[]⟩ [encPd p]=some (.msl B.length 0 1 11,⟨B++[(encPd p).cells],[],[]⟩):=by
  simp only[bsliceA]
  rw[if_pos ⟨rfl,rfl⟩]
  rfl
 simp only[opStep,List.map_cons,List.map_nil,ev]
 rw[show shut2 (encPd p)=encPd p from rfl,this]
theorem pcs_cut{l:List Pod}{Z:List AV}{q m:Nat}(p:Pod)(hm:l.length=m)(hq:q≤m):(pcs l++Z).take (q*11)++(encPd p).cells++((pcs l++Z).take (m*11)).drop (q*11)=pcs (l.take q++p::l.drop q):=by
 have h1:=pcs_len l
 have e:l=l.take q++l.drop q:=(List.take_append_drop q l).symm
 have ht:=pcs_len (l.take q)
 rw[List.length_take,Nat.min_eq_left (by omega)]at ht
 have h2:pcs l=pcs (l.take q)++pcs (l.drop q):=by rw[←pcs_app,List.take_append_drop]
 have e1:(pcs l++Z).take (m*11)=pcs l:=by rw[List.take_left' (by omega)]
 have e2:(pcs l++Z).take (q*11)=pcs (l.take q):=by
  rw[List.take_append_of_le_length (by omega),h2,List.take_left' ht]
 have e3:(pcs l).drop (q*11)=pcs (l.drop q):=by rw[h2,List.drop_left' ht]
 rw[e1,e2,e3,pcs_app,show pcs (p::l.drop q)=(encPd p).cells++pcs (l.drop q)by simp[pcs,rowCells],List.append_assoc]
theorem ins_any{B:List (List AV)}{kk kv m q:Nat}{l:List Pod}{Z:List AV}{p:Pod}(hkk:kk≠kv)(hk:B[kk]?=some (pcs l++Z))(hv:B[kv]?=some (encPd p).cells)(hm:l.length=m)(hq:q≤m)(hb:m≤100000)(hZ:Z.all data0=true)(h0:0<(pcs l++Z).length):
 Does cfg (.callM (.c (.func 119 [])) [.c (.msl kk 0 m 11),.c (.int .i64 (q:Nat)),.c (.msl kv 0 1 11)]) ⟨B,[],[]⟩ (.msl B.length 0 (m+1) 11) ⟨B.set kk []++[pcs (l.take q++p::l.drop q)],[],[]⟩:=by
 have hl:=pcs_len l
 have h:lim cfg (.fn 119) [.msl kk 0 m 11,.int .i64 (q:Nat),.msl kv 0 1 11] ⟨B,[],[]⟩=some (.ret (.msl B.length 0 (m+1) 11),⟨B.set kk []++[pcs (l.take q++p::l.drop q)],[],[]⟩):=by
  rw[lim_ext (g:=insE 11 184) rfl rfl]
  have:insE 11 184 [.msl kk 0 m 11,.int .i64 (q:Nat),.msl kv 0 1 11] ⟨B,[],[]⟩=some (.msl B.length 0 (m+1) 11,⟨B.set kk []++[pcs (l.take q++p::l.drop q)],[],[]⟩):=by
   simp only[insE,hk,hv]
   rw[if_pos ⟨⟨hkk,by trivial,by trivial,by trivial,by trivial,by trivial,by omega,by omega⟩,by rw[List.length_append];omega,h0,rfl,by rw[List.all_append,pcs_data,hZ];rfl,pc_data p,by omega⟩,Int.toNat_natCast,pcs_cut p hm hq]
  rw[this];rfl
 have hd:=does_callM (xs:=[.msl kk 0 m 11,.int .i64 (q:Nat),.msl kv 0 1 11]) h rfl rfl
 rw[show shutA (.msl B.length 0 (m+1) 11)=.msl B.length 0 (m+1) 11 from rfl,show(⟨B,[],[]⟩:Heap).boxes.length=B.length from rfl,show(⟨B,[],[]⟩:Heap).toks.length=0 from rfl,trunc_new (ex:=[]) (Nat.le_refl _)]at hd
 exact hd
theorem ins_nil{B:List (List AV)}{kv:Nat}{p:Pod}(hv:B[kv]?=some (encPd p).cells):
 Does cfg (.callM (.c (.func 119 [])) [.c (.sl .nil []),.c (.int .i64 0),.c (.msl kv 0 1 11)]) ⟨B,[],[]⟩ (.msl B.length 0 1 11) ⟨B++[pcs [p]],[],[]⟩:=by
 have h:lim cfg (.fn 119) [.sl .nil [],.int .i64 0,.msl kv 0 1 11] ⟨B,[],[]⟩=some (.ret (.msl B.length 0 1 11),⟨B++[pcs [p]],[],[]⟩):=by
  rw[lim_ext (g:=insE 11 184) rfl rfl]
  have:insE 11 184 [.sl .nil [],.int .i64 0,.msl kv 0 1 11] ⟨B,[],[]⟩=some (.msl B.length 0 1 11,⟨B++[pcs [p]],[],[]⟩):=by
   simp only[insE,hv]
   rw[if_pos ⟨by trivial,by trivial,by trivial,by trivial,rfl,pc_data p,by decide⟩]
   simp[pcs,rowCells]
  rw[this];rfl
 have hd:=does_callM (xs:=[.sl .nil [],.int .i64 0,.msl kv 0 1 11]) h rfl rfl
 rw[show shutA (.msl B.length 0 1 11)=.msl B.length 0 1 11 from rfl,show(⟨B,[],[]⟩:Heap).boxes.length=B.length from rfl,show(⟨B,[],[]⟩:Heap).toks.length=0 from rfl,trunc_new (ex:=[]) (Nat.le_refl _)]at hd
 exact hd
theorem bs_nil{B:List (List AV)}(nm:List UInt8)(hB:Tame B):Does cfg (.callM (.c (.func 116 [])) [.c (.sl .nil []),.c (.str nm),.c (.func 117 [])]) ⟨B,[],[]⟩ (.tuple [.int .i64 0,.bool false]) ⟨B,[],[]⟩:=by
 have lp:∀(T:Env)(hT:Has T [(0,.sl .nil []),(1,.str nm),(2,.func 117 []),(8,.int .i64 ((([]:List AV).length:Nat):Int)),(9,.int .i64 0),(10,.int .i64 ((([]:List AV).length:Nat):Int))]),Goes cfg a116 k116_0 T ⟨B,[],[]⟩ (fun r=>r=(.ret (.tuple [.int .i64 0,.bool false]),⟨B,[],[]⟩)):=by
  intro T hT
  exact goG 60 _ hT (.ff<|.ff<|.fin ((.ret (.tuple [.int .i64 0,.bool false]),{boxes:=B,toks:=[],loops:=[]:Heap})) rfl) (by kernel_rfl)
 have k1:Goes cfg a116 [.c c116] (initEnv [.sl .nil [],.str nm,.func 117 []]) ⟨B,[],[]⟩ (fun r=>r=(.ret (.tuple [.int .i64 0,.bool false]),⟨B,[],[]⟩)):=by
  exact goG 60 [] trivial (.len (show lenA false (.sl .nil [])=some (.int .i64 (↑[].length:Int))from len_sl _ _)<|.cutQ k116_0 [(0,.sl .nil []),(1,.str nm),(2,.func (117:Nat) []),(8,.int .i64 (↑[].length:Int)),(9,.int .i64 0),(10,.int .i64 (↑[].length:Int))] ({boxes:=B,toks:=[],loops:=[]:Heap}) (fun T hT=>(lp T hT))) (by kernel_rfl)
 obtain⟨r,h,rfl⟩:=k1
 have h':lim cfg (.fn 116) [.sl .nil [],.str nm,.func 117 []] ⟨B,[],[]⟩=some (.ret (.tuple [.int .i64 0,.bool false]),⟨B,[],[]⟩):=by rw[l116];exact h
 have hd:=does_callM (xs:=[.sl .nil [],.str nm,.func 117 []]) h' rfl rfl
 have e:=trunc_tame (ex:=[]) (v:=.tuple [.int .i64 0,.bool false]) hB rfl
 rw[List.append_nil]at e
 rw[show(⟨B,[],[]⟩:Heap).boxes.length=B.length from rfl,show(⟨B,[],[]⟩:Heap).toks.length=0 from rfl,show shutA (.tuple [.int .i64 0,.bool false])=.tuple [.int .i64 0,.bool false]from rfl,e]at hd
 exact hd
def srtP(l:List Pod):Prop:=l.Pairwise fun a b=>Op.bytesLess a.name b.name=true
def putL(p:Pod)(l:List Pod):List Pod:=(offP p.name l).takeWhile (before p.name)++p::(offP p.name l).dropWhile (before p.name)
def putS(s:St)(p:Pod):St:={s with pods:=putL p s.pods}
theorem tw_take{X:Type}(f:X→Bool):∀l:List X,l.take (l.takeWhile f).length=l.takeWhile f∧l.drop (l.takeWhile f).length=l.dropWhile f
 |[]=>⟨rfl,rfl⟩
 |x::l=>by
  have ih:=tw_take f l
  cases h:f x with
  |true=>simp only[List.takeWhile_cons,List.dropWhile_cons,h,if_true,List.length_cons,List.take_succ_cons,List.drop_succ_cons,ih,and_self]
  |false=>simp[List.takeWhile_cons,List.dropWhile_cons,h]
theorem tw_len{X:Type}(f:X→Bool):∀l:List X,(l.takeWhile f).length≤l.length
 |[]=>Nat.le_refl _
 |x::l=>by
  have ih:=tw_len f l
  rw[List.takeWhile_cons]
  split
  ·simp;omega
  ·simp
theorem tw_below{X:Type}(f:X→Bool):∀(l:List X)(k:Nat)(x:X),l[k]?=some x→k<(l.takeWhile f).length→f x=true
 |[],k,x,h,_=>by simp at h
 |y::l,k,x,h,hk=>by
  rw[List.takeWhile_cons]at hk
  split at hk
  ·rename_i hy
   cases k with
   |zero=>simp at h;subst h;exact hy
   |succ k=>exact tw_below f l k x (by simpa using h) (by simpa using hk)
  ·simp at hk
theorem tw_above(nm:List UInt8):∀(l:List Pod),srtP l→∀(k:Nat)(x:Pod),l[k]?=some x→(l.takeWhile (before nm)).length≤k→before nm x=false
 |[],_,k,x,h,_=>by simp at h
 |y::l,hs,k,x,h,hk=>by
  have h1:=List.pairwise_cons.1 hs
  rw[List.takeWhile_cons]at hk
  split at hk
  ·cases k with
   |zero=>simp at hk
   |succ k=>exact tw_above nm l h1.2 k x (by simpa using h) (by simpa using hk)
  ·rename_i hy
   cases k with
   |zero=>simp at h;subst h;simpa using hy
   |succ k=>
    have hm:x∈l:=List.mem_of_getElem? (by simpa using h)
    have hlt:=h1.1 x hm
    cases hb:before nm x with
    |false=>rfl
    |true=>
     refine absurd ?_ hy
     unfold before at hb⊢
     rw[bl_eq,decide_eq_true_eq]at hlt hb⊢
     exact List.lt_trans hlt hb
theorem trunc_stA{bs:List (List AV)}{nb k off n es:Nat}{s:St}(hl:nb≤k):trunc nb 0 (stA s (.msl k off n es)) ⟨bs,[],[]⟩=⟨bs,[],[]⟩:=by
 unfold trunc
 have hw:within nb 0 (stA s (.msl k off n es))=false:=by simp[stA,within,in2,in1,in0];omega
 simp only[hw,List.length_nil,List.all_nil,Bool.true_and,Bool.and_false,Bool.false_and,Bool.false_eq_true,if_false,List.take_zero,ite_self]
theorem drop_does(S P R:List AV)(hT:Tame [S,P,R])(s:St)(nm:List UInt8)(hs:s.pods.length≤100000):∃v ex,PR 6 s.pods.length (offP nm s.pods) v ex∧
 Does cfg (.callM (.c (.func 27 [])) [.c (encSt s),.c (.str nm)]) ⟨[S,P,R],[],[]⟩ (stA s v) ⟨match ex with|[]=>[S,P,R]|x=>[S,P,R,stC s v,[.str nm],stC s v]++x,[],[]⟩:=by
 obtain⟨r0,h0,v0,ex0,hp0,rfl⟩:=drop0 s nm hs
 obtain⟨r,h,v,ex,hp,rfl⟩:=drop3 S P R hT s nm hs
 have hd0:isData (shutA (stA s v0))=false:=by cases hp0<;>rfl
 have hsh:shutA (stA s v)=stA s v:=by cases hp<;>rfl
 have hd:=does_callN (xs:=[encSt s,.str nm]) ((l27 _ _).trans h0) hd0 ((l27 _ _).trans h) rfl rfl
 rw[hsh]at hd
 refine⟨v,ex,hp,?_⟩
 cases hp with
 |some Z hZ hn hl=>
  rw[show(⟨[S,P,R],[],[]⟩:Heap).boxes.length=3 from rfl,show(⟨[S,P,R],[],[]⟩:Heap).toks.length=0 from rfl,trunc_stA (by decide)]at hd
  exact hd
 |none h0 hl=>
  have e:=trunc_tame (B:=[S,P,R]) (ex:=[stC s (.sl .nil []),[.str nm],stC s (.sl .nil [])]) (v:=stA s (.sl .nil [])) hT rfl
  rw[show(⟨[S,P,R],[],[]⟩:Heap).boxes.length=[S,P,R].length from rfl,show(⟨[S,P,R],[],[]⟩:Heap).toks.length=0 from rfl,show([S,P,R]++([stC s (.sl .nil []),[.str nm],stC s (.sl .nil [])]++[]):List (List AV))=[S,P,R]++[stC s (.sl .nil []),[.str nm],stC s (.sl .nil [])]from rfl,e]at hd
  exact hd
theorem off_len(nm:List UInt8)(l:List Pod):(offP nm l).length≤l.length:=List.length_filter_le _ _
theorem off_srt{nm:List UInt8}{l:List Pod}(h:srtP l):srtP (offP nm l):=h.filter _
def RetPut(s:St)(p:Pod)(r:ARes×Heap):Prop:=∃k bs,r=(.ret (stA s (.msl k 0 (putL p s.pods).length 11)),⟨bs,[],[]⟩)∧bs[k]?=some (pcs (putL p s.pods))
theorem put_goes(s:St)(p:Pod)(hs:s.pods.length≤1000)(hsrt:srtP s.pods):Goes cfg a45 [.c c45] (initEnv [encSt s,encPd p]) ⟨[],[],[]⟩ (RetPut s p):=by
 have hT:Tame [(encSt s).cells,(encPd p).cells,pzc]:=tame_data rfl
 obtain⟨v,ex,hp,hd⟩:=drop_does (encSt s).cells (encPd p).cells pzc hT s p.name (by omega)
 have hol:=off_len p.name s.pods
 cases hp with
 |some Z hZ hn hl=>
  obtain⟨nodes,pods,buds⟩:=s
  generalize hld:offP p.name pods=l at*
  have hsl:srtP l:=hld▸off_srt hsrt
  have tw:=tw_take (before p.name) l
  have twl:=tw_len (before p.name) l
  have hputl:putL p pods=l.take (l.takeWhile (before p.name)).length++p::l.drop (l.takeWhile (before p.name)).length:=by rw[tw.1,tw.2,←hld];rfl
  have hs':pods.length≤1000:=hs
  have hol':l.length≤pods.length:=hol
  have hZ0:0<(pcs l++Z).length:=by rw[hl];omega
  have hlen:(putL p pods).length=l.length+1:=by
   rw[hputl];simp only[List.length_append,List.length_cons,List.length_take,List.length_drop];omega
  have hQ:(pcs l++Z).all data0=true:=by rw[List.all_append,pcs_data,hZ];rfl
  have hT7:Tame [stC ⟨nodes,pods,buds⟩ (.msl 6 0 l.length 11),(encPd p).cells,pzc,stC ⟨nodes,pods,buds⟩ (.msl 6 0 l.length 11),[.str p.name],stC ⟨nodes,pods,buds⟩ (.msl 6 0 l.length 11),pcs l++Z]:=by
   intro nb hn
   have h6:6<nb:=hn
   have e1:(stC ⟨nodes,pods,buds⟩ (.msl 6 0 l.length 11)).all (in2 nb 0)=true:=by simp[in2,in1,in0,h6]
   have e2:(pcs l++Z).all (in2 nb 0)=true:=List.all_eq_true.2 fun x hx=>in2_d0 (List.all_eq_true.1 hQ x hx)
   simp only[List.all_cons (f:=fun(b:List AV)=>b.all (in2 nb 0)),List.all_nil (f:=fun(b:List AV)=>b.all (in2 nb 0)),e1,e2]
   rfl
  obtain⟨f,hb⟩:=bs_any (B:=[stC ⟨nodes,pods,buds⟩ (.msl 6 0 l.length 11),(encPd p).cells,pzc,stC ⟨nodes,pods,buds⟩ (.msl 6 0 l.length 11),[.str p.name],stC ⟨nodes,pods,buds⟩ (.msl 6 0 l.length 11),pcs l++Z]) (kk:=6) (q:=(l.takeWhile (before p.name)).length) (nm:=p.name) rfl hT7 rfl (by omega) twl (tw_below _ l) (tw_above p.name l hsl)
  have hbs:=does_bsl (B:=[stC ⟨nodes,pods,buds⟩ (.msl 6 0 l.length 11),(encPd p).cells,pzc,stC ⟨nodes,pods,buds⟩ (.msl 6 0 l.length 11),[.str p.name],stC ⟨nodes,pods,buds⟩ (.msl 6 0 l.length 11),pcs l++Z]) p
  have hin:=ins_any (B:=[stC ⟨nodes,pods,buds⟩ (.msl 6 0 l.length 11),(encPd p).cells,pzc,stC ⟨nodes,pods,buds⟩ (.msl 6 0 l.length 11),[.str p.name],stC ⟨nodes,pods,buds⟩ (.msl 6 0 l.length 11),pcs l++Z,(encPd p).cells]) (kk:=6) (kv:=7) (m:=l.length) (q:=(l.takeWhile (before p.name)).length) (p:=p) (by decide) rfl rfl rfl twl (by omega) hZ hZ0
  rw[←hputl]at hin
  have hd':Does cfg (.callM (.c (.func 27 [])) [.c (encSt ⟨nodes,pods,buds⟩),.c (.str p.name)]) ⟨[(encSt ⟨nodes,pods,buds⟩).cells,(encPd p).cells,pzc],[],[]⟩ (stA ⟨nodes,pods,buds⟩ (.msl 6 0 l.length 11)) ⟨[(encSt ⟨nodes,pods,buds⟩).cells,(encPd p).cells,pzc,stC ⟨nodes,pods,buds⟩ (.msl 6 0 l.length 11),[.str p.name],stC ⟨nodes,pods,buds⟩ (.msl 6 0 l.length 11),pcs l++Z],[],[]⟩:=hd
  have hbs':Does cfg (.bsliceM 11 [.c (encPd p)]) ⟨[stC ⟨nodes,pods,buds⟩ (.msl 6 0 l.length 11),(encPd p).cells,pzc,stC ⟨nodes,pods,buds⟩ (.msl 6 0 l.length 11),[.str p.name],stC ⟨nodes,pods,buds⟩ (.msl 6 0 l.length 11),pcs l++Z],[],[]⟩ (.msl 7 0 1 11) ⟨[stC ⟨nodes,pods,buds⟩ (.msl 6 0 l.length 11),(encPd p).cells,pzc,stC ⟨nodes,pods,buds⟩ (.msl 6 0 l.length 11),[.str p.name],stC ⟨nodes,pods,buds⟩ (.msl 6 0 l.length 11),pcs l++Z,(encPd p).cells],[],[]⟩:=hbs
  have hin':Does cfg (.callM (.c (.func 119 [])) [.c (.msl 6 0 l.length 11),.c (.int .i64 ((l.takeWhile (before p.name)).length:Nat)),.c (.msl 7 0 1 11)]) ⟨[stC ⟨nodes,pods,buds⟩ (.msl 6 0 l.length 11),(encPd p).cells,pzc,stC ⟨nodes,pods,buds⟩ (.msl 6 0 l.length 11),[.str p.name],stC ⟨nodes,pods,buds⟩ (.msl 6 0 l.length 11),pcs l++Z,(encPd p).cells],[],[]⟩ (.msl 8 0 (l.length+1) 11) ⟨[stC ⟨nodes,pods,buds⟩ (.msl 6 0 l.length 11),(encPd p).cells,pzc,stC ⟨nodes,pods,buds⟩ (.msl 6 0 l.length 11),[.str p.name],stC ⟨nodes,pods,buds⟩ (.msl 6 0 l.length 11),[],(encPd p).cells,pcs (putL p pods)],[],[]⟩:=hin
  have out:∀b0 b1 b2 b3 b4 b5 b6 b7,RetPut ⟨nodes,pods,buds⟩ p (.ret (stA ⟨nodes,pods,buds⟩ (.msl 8 0 (l.length+1) 11)),⟨[b0,b1,b2,b3,b4,b5,b6,b7,pcs (putL p pods)],[],[]⟩):=fun b0 b1 b2 b3 b4 b5 b6 b7=>⟨8,_,by rw[hlen],rfl⟩
  clear hd hbs hin hT7 hQ hZ0 hl
  generalize(l.takeWhile (before p.name)).length=q at hb hin'
  generalize pcs l++Z=Q at hb hd' hbs' hin'
  generalize pcs (putL p pods)=Q2 at hin' out
  exact let ζ1:List AV:=[.sl .sh (List.map encN {nodes:=nodes,pods:=pods,buds:=buds:St}.nodes),.msl (8:Nat) (0:Nat) (l.length+(1:Nat)) (11:Nat),.sl .sh (List.map encB {nodes:=nodes,pods:=pods,buds:=buds:St}.buds)];let ζ2:Heap:={boxes:=[stC {nodes:=nodes,pods:=pods,buds:=buds:St} (.msl (6:Nat) (0:Nat) l.length (11:Nat)),(encPd p).cells,pzc,stC {nodes:=nodes,pods:=pods,buds:=buds:St} (.msl (6:Nat) (0:Nat) l.length (11:Nat)),[.str p.name],stC {nodes:=nodes,pods:=pods,buds:=buds:St} (.msl (6:Nat) (0:Nat) l.length (11:Nat)),Q],toks:=[],loops:=[]:Heap};let ζ3:List AV:=[.str p.name,.str p.owner,.int .i64 p.prio,.sl .sh (p.need.map encA),.sl .sh (p.labels.map encP),.sl .sh (p.sel.map encM),.sl .sh (p.tols.map encL),.str p.key,.int .i64 p.most,.str p.node,.bool p.hold];let ζ4:List AV:=[.sl .sh (List.map encN {nodes:=nodes,pods:=pods,buds:=buds:St}.nodes),.msl (6:Nat) (0:Nat) l.length (11:Nat),.sl .sh (List.map encB {nodes:=nodes,pods:=pods,buds:=buds:St}.buds)];goG 90 [] trivial (.effY (show Does cfg (.callM (.c (.func (27:FuncId) [])) [.c (encSt {nodes:=nodes,pods:=pods,buds:=buds:St}),.c (.str p.name)]) {boxes:=[(encSt {nodes:=nodes,pods:=pods,buds:=buds:St}).cells,(encPd p).cells,pzc],toks:=[],loops:=[]:Heap} (stA {nodes:=nodes,pods:=pods,buds:=buds:St} (.msl (6:Nat) (0:Nat) l.length (11:Nat))) {boxes:=[(encSt {nodes:=nodes,pods:=pods,buds:=buds:St}).cells,(encPd p).cells,pzc,stC {nodes:=nodes,pods:=pods,buds:=buds:St} (.msl (6:Nat) (0:Nat) l.length (11:Nat)),[.str p.name],stC {nodes:=nodes,pods:=pods,buds:=buds:St} (.msl (6:Nat) (0:Nat) l.length (11:Nat)),Q],toks:=[],loops:=[]:Heap}from hd')<|.effCM [.msl (6:Nat) (0:Nat) l.length (11:Nat),.str p.name,.func (117:Nat) []] (show Does cfg (.callM (.c (.func (116:FuncId) [])) [.c (.msl (6:Nat) (0:Nat) l.length (11:Nat)),.c (.str p.name),.c (.func (117:FuncId) [])]) ζ2 (.tuple [.int .i64 ↑q,.bool f]) ζ2 from hb) rfl<|.effY (show Does cfg (.callM (.c (.func (119:FuncId) [])) [.c (.msl (6:Nat) (0:Nat) l.length (11:Nat)),.c (.int .i64 ↑q),.c (.msl (7:Nat) (0:Nat) (1:Nat) (11:Nat))]) {boxes:=[stC {nodes:=nodes,pods:=pods,buds:=buds:St} (.msl (6:Nat) (0:Nat) l.length (11:Nat)),(encPd p).cells,pzc,stC {nodes:=nodes,pods:=pods,buds:=buds:St} (.msl (6:Nat) (0:Nat) l.length (11:Nat)),[.str p.name],stC {nodes:=nodes,pods:=pods,buds:=buds:St} (.msl (6:Nat) (0:Nat) l.length (11:Nat)),Q,(encPd p).cells],toks:=[],loops:=[]:Heap} (.msl (8:Nat) (0:Nat) (l.length+(1:Nat)) (11:Nat)) {boxes:=[stC {nodes:=nodes,pods:=pods,buds:=buds:St} (.msl (6:Nat) (0:Nat) l.length (11:Nat)),(encPd p).cells,pzc,stC {nodes:=nodes,pods:=pods,buds:=buds:St} (.msl (6:Nat) (0:Nat) l.length (11:Nat)),[.str p.name],stC {nodes:=nodes,pods:=pods,buds:=buds:St} (.msl (6:Nat) (0:Nat) l.length (11:Nat)),[],(encPd p).cells,Q2],toks:=[],loops:=[]:Heap}from hin')<|.fin ((.ret (.agg ζ1),{boxes:=[ζ1,ζ3,ζ1,ζ4,[.str p.name],ζ4,[],ζ3,Q2],toks:=[],loops:=[]:Heap})) (by exact out _ _ _ _ _ _ _ _)) (by kernel_rfl)
 |none h0 hl=>
  obtain⟨nodes,pods,buds⟩:=s
  have hputl:putL p pods=[p]:=by
   have hl':offP p.name pods=[]:=hl
   unfold putL;rw[hl'];rfl
  have hT3:Tame [stC ⟨nodes,pods,buds⟩ (.sl .nil []),(encPd p).cells,pzc]:=fun nb hn=>rfl
  have hb:=bs_nil p.name hT3
  have hbs:Does cfg (.bsliceM 11 [.c (encPd p)]) ⟨[stC ⟨nodes,pods,buds⟩ (.sl .nil []),(encPd p).cells,pzc],[],[]⟩ (.msl 3 0 1 11) ⟨[stC ⟨nodes,pods,buds⟩ (.sl .nil []),(encPd p).cells,pzc,(encPd p).cells],[],[]⟩:=does_bsl p
  have hin:Does cfg (.callM (.c (.func 119 [])) [.c (.sl .nil []),.c (.int .i64 0),.c (.msl 3 0 1 11)]) ⟨[stC ⟨nodes,pods,buds⟩ (.sl .nil []),(encPd p).cells,pzc,(encPd p).cells],[],[]⟩ (.msl 4 0 1 11) ⟨[stC ⟨nodes,pods,buds⟩ (.sl .nil []),(encPd p).cells,pzc,(encPd p).cells,pcs [p]],[],[]⟩:=ins_nil (p:=p) rfl
  have hd':Does cfg (.callM (.c (.func 27 [])) [.c (encSt ⟨nodes,pods,buds⟩),.c (.str p.name)]) ⟨[(encSt ⟨nodes,pods,buds⟩).cells,(encPd p).cells,pzc],[],[]⟩ (stA ⟨nodes,pods,buds⟩ (.sl .nil [])) ⟨[(encSt ⟨nodes,pods,buds⟩).cells,(encPd p).cells,pzc],[],[]⟩:=hd
  have out:∀b0 b1 b2 b3,RetPut ⟨nodes,pods,buds⟩ p (.ret (stA ⟨nodes,pods,buds⟩ (.msl 4 0 1 11)),⟨[b0,b1,b2,b3,pcs [p]],[],[]⟩):=fun b0 b1 b2 b3=>⟨4,_,by rw[hputl];rfl,by rw[hputl];rfl⟩
  generalize pcs [p]=Q2 at hin out
  exact let ζ1:List AV:=[.sl .sh (List.map encN {nodes:=nodes,pods:=pods,buds:=buds:St}.nodes),.msl (4:Nat) (0:Nat) (1:Nat) (11:Nat),.sl .sh (List.map encB {nodes:=nodes,pods:=pods,buds:=buds:St}.buds)];let ζ2:List AV:=[.str p.name,.str p.owner,.int .i64 p.prio,.sl .sh (p.need.map encA),.sl .sh (p.labels.map encP),.sl .sh (p.sel.map encM),.sl .sh (p.tols.map encL),.str p.key,.int .i64 p.most,.str p.node,.bool p.hold];let ζ3:Heap:={boxes:=[stC {nodes:=nodes,pods:=pods,buds:=buds:St} (.sl .nil []),(encPd p).cells,pzc],toks:=[],loops:=[]:Heap};let ζ4:Heap:={boxes:=[(encSt {nodes:=nodes,pods:=pods,buds:=buds:St}).cells,(encPd p).cells,pzc],toks:=[],loops:=[]:Heap};goG 90 [] trivial (.effY (show Does cfg (.callM (.c (.func (27:FuncId) [])) [.c (encSt {nodes:=nodes,pods:=pods,buds:=buds:St}),.c (.str p.name)]) ζ4 (stA {nodes:=nodes,pods:=pods,buds:=buds:St} (.sl .nil [])) ζ4 from hd')<|.effY (show Does cfg (.callM (.c (.func (116:FuncId) [])) [.c (.sl .nil []),.c (.str p.name),.c (.func (117:FuncId) [])]) ζ3 (.tuple [.int .i64 0,.bool false]) ζ3 from hb)<|.effY (show Does cfg (.callM (.c (.func (119:FuncId) [])) [.c (.sl .nil []),.c (.int .i64 0),.c (.msl (3:Nat) (0:Nat) (1:Nat) (11:Nat))]) {boxes:=[stC {nodes:=nodes,pods:=pods,buds:=buds:St} (.sl .nil []),(encPd p).cells,pzc,(encPd p).cells],toks:=[],loops:=[]:Heap} (.msl (4:Nat) (0:Nat) (1:Nat) (11:Nat)) {boxes:=[stC {nodes:=nodes,pods:=pods,buds:=buds:St} (.sl .nil []),(encPd p).cells,pzc,(encPd p).cells,Q2],toks:=[],loops:=[]:Heap}from hin)<|.fin ((.ret (.agg ζ1),{boxes:=[ζ1,ζ2,ζ1,ζ2,Q2],toks:=[],loops:=[]:Heap})) (by exact out _ _ _ _)) (by kernel_rfl)
theorem put_gives(s:St)(p:Pod)(hs:s.pods.length≤1000)(hsrt:srtP s.pods):GivesF cfg 45 [encSt s,encPd p] (encSt (putS s p)):=by
 obtain⟨r,h,k,bs,rfl,hk⟩:=put_goes s p hs hsrt
 exact⟨_,_,(l45 _ _).trans h,out_stA rfl rfl (frz_pods (Z:=[]) (by rw[List.append_nil];exact hk) rfl)⟩
end Go.Aa.T
set_option linter.unusedVariables false
set_option linter.unusedSimpArgs false
set_option maxRecDepth 100000
namespace Go.Aa.T
open Go.Aa Go.Proofs
theorem off_id{nm:List UInt8}{l:List Pod}(h:∀x∈l,x.name≠nm):offP nm l=l:=List.filter_eq_self.2 fun x hx=>by simpa using h x hx
end Go.Aa.T
set_option linter.unusedVariables false
set_option linter.unusedSimpArgs false
set_option maxRecDepth 100000
namespace Go.Aa.T
open Go.Aa Go.Proofs
end Go.Aa.T
set_option linter.unusedVariables false
set_option linter.unusedSimpArgs false
set_option maxRecDepth 100000
namespace Go.Aa.T
open Go.Aa Go.Proofs
end Go.Aa.T
set_option linter.unusedVariables false
set_option linter.unusedSimpArgs false
set_option maxRecDepth 100000
namespace Go.Aa.T
open Go.Aa Go.Proofs
structure POk(v:List Amount):Prop where
 name:∀x∈v,isName x.name=true
 pos:∀x∈v,0<x.n
 rise:Rise (nms v)
theorem VOk.p{v:List Amount}(h:VOk v):POk v:=⟨h.name,h.pos,h.rise⟩
theorem POk.v{v:List Amount}(h:POk v)(hl:v.length≤8):VOk v:=⟨hl,h.name,h.pos,h.rise⟩
theorem vok_nil:VOk []:=⟨by simp,by simp,by simp,by simp[Rise]⟩
theorem rise_len{l m:List (List UInt8)}(hl:Rise l)(hm:Rise m)(h:∀x∈l,x∈m):l.length≤m.length:=by
 have e:l=m.filter fun x=>decide (x∈l):=rise_ext hl (hm.filter _) fun x=>by
  simp only[List.mem_filter,decide_eq_true_eq]
  exact⟨fun hx=>⟨h x hx,hx⟩,fun hx=>hx.2⟩
 rw[e];exact List.length_filter_le _ _
theorem names_congr{l m:List (List UInt8)}(h:∀x,x∈l↔x∈m):namesOf l=namesOf m:=
 namesOf_eq (namesOf_rise m) fun x=>(h x).trans namesOf_mem.symm
theorem names_sub{l m:List (List UInt8)}(h:∀x∈l,x∈m):(namesOf l).length≤(namesOf m).length:=
 rise_len (namesOf_rise l) (namesOf_rise m) fun x hx=>namesOf_mem.2 (h x (namesOf_mem.1 hx))
theorem pok_pos{v:List Amount}(h:POk v){s:List UInt8}:s∈nms v↔0<getQ v s:=by
 constructor
 ·intro hs
  obtain⟨x,hx,-,e⟩:=getQ_some hs
  rw[e];exact h.pos x hx
 ·intro hs
  by_cases hm:s∈nms v
  ·exact hm
  ·rw[getQ_none hm]at hs;omega
theorem pok_nn{v:List Amount}(h:POk v)(s:List UInt8):0≤getQ v s:=by
 by_cases hm:s∈nms v
 ·have:=(pok_pos h).1 hm;omega
 ·rw[getQ_none hm];omega
theorem getQ_mem:∀{v:List Amount},Rise (nms v)→∀x∈v,getQ v x.name=x.n
 |[],_,x,hx=>by cases hx
 |y::v,h,x,hx=>by
  rw[getQ_cons]
  rcases List.mem_cons.1 hx with rfl|hx
  ·rw[if_pos rfl]
  ·rw[if_neg,getQ_mem (List.Pairwise.of_cons h) x hx]
   intro e
   have:=List.rel_of_pairwise_cons h (List.mem_map.2 ⟨x,hx,rfl⟩)
   rw[e,bl_irrefl]at this
   cases this
def mk1(g:OfQ)(l:List (List UInt8)):List Amount:=(l.filter fun s=>decide (0<(g s).1)).map fun s=>⟨s,(g s).1⟩
theorem madeF_ok{g:OfQ}:∀{l:List (List UInt8)}(acc:List Amount),(∀s∈l,(g s).2=0)→madeF g l acc=(acc++mk1 g l,0)
 |[],acc,_=>by simp[madeF,mk1]
 |s::l,acc,h=>by
  unfold madeF
  rw[if_pos (h s (by simp)),madeF_ok _ fun t ht=>h t (by simp[ht])]
  by_cases hp:0<(g s).1<;>simp[mk1,hp]
theorem madeF_zero{g:OfQ}:∀{l:List (List UInt8)}{acc:List Amount},(madeF g l acc).2=0→∀s∈l,(g s).2=0
 |[],acc,_,s,hs=>by cases hs
 |t::l,acc,h,s,hs=>by
  unfold madeF at h
  split at h
  ·rename_i h0
   rcases List.mem_cons.1 hs with rfl|hs
   ·exact h0
   ·exact madeF_zero h s hs
  ·rename_i h0;exact absurd h h0
theorem nms_mk1(g:OfQ)(l:List (List UInt8)):nms (mk1 g l)=l.filter fun s=>decide (0<(g s).1):=by
 simp only[nms,mk1,List.map_map]
 conv=>rhs;rw[←List.map_id (l.filter _)]
 rfl
theorem mk1_ok{g:OfQ}{l:List (List UInt8)}(hr:Rise l)(hn:∀s∈l,isName s=true):POk (mk1 g l):=by
 refine⟨fun x hx=> ?_,fun x hx=> ?_,?_⟩
 ·obtain⟨s,hs,rfl⟩:=List.mem_map.1 hx
  exact hn s (List.mem_filter.1 hs).1
 ·obtain⟨s,hs,rfl⟩:=List.mem_map.1 hx
  simpa using(List.mem_filter.1 hs).2
 ·rw[nms_mk1];exact hr.filter _
theorem mk1_get{g:OfQ}{l:List (List UInt8)}(hr:Rise l)(hn:∀s∈l,isName s=true)(s:List UInt8)(h0:0≤(g s).1)(hx:s∉l→(g s).1=0):getQ (mk1 g l) s=(g s).1:=by
 by_cases hs:s∈nms (mk1 g l)
 ·obtain⟨x,hx,e1,e2⟩:=getQ_some hs
  obtain⟨t,ht,rfl⟩:=List.mem_map.1 hx
  rw[e2];simp only at e1⊢;rw[e1]
 ·rw[getQ_none hs]
  rw[nms_mk1]at hs
  by_cases hl:s∈l
  ·have:¬0<(g s).1:=fun h=>hs (List.mem_filter.2 ⟨hl,by simpa using h⟩)
   omega
  ·exact(hx hl).symm
theorem fin_ok{l:List Amount}(h:l.length≤8):finV (l,0)=(l,0):=by
 unfold finV;rw[if_pos rfl,if_neg (by simp only;omega)]
theorem made_two{g:OfQ}{a b:List Amount}(oa:VOk a)(ob:VOk b):madeV g [a,b]=finV (madeF g (namesOf (nms a++nms b)) []):=by
 have e:allNames [a,b]=nms a++nms b:=by simp[allNames]
 unfold madeV
 rw[if_pos (by simp[firstE,ckV_of oa,ckV_of ob]),e]
theorem two_name{a b:List Amount}(oa:VOk a)(ob:VOk b):∀s∈namesOf (nms a++nms b),isName s=true:=fun s hs=>by
 rcases List.mem_append.1 (namesOf_mem.1 hs)with h|h
 ·obtain⟨x,hx,rfl⟩:=List.mem_map.1 h;exact oa.name x hx
 ·obtain⟨x,hx,rfl⟩:=List.mem_map.1 h;exact ob.name x hx
theorem addQ_nn{a b:Int}(ha:0≤a)(hb:0≤b):addQ a b=toldQ (a+b):=by
 unfold addQ bothE;rw[if_neg (show¬a<0 by omega),if_neg (show¬b<0 by omega),if_neg (by simp)]
theorem told_ok{n:Int}(h:n≤9223372036854775807):toldQ n=(n,0):=by unfold toldQ;rw[if_neg (by omega)]
theorem told_zero{n:Int}(h:(toldQ n).2=0):n≤9223372036854775807:=by
 unfold toldQ at h;split at h
 ·cases h
 ·omega
theorem add_nms{a b:List Amount}(oa:VOk a)(ob:VOk b)(hs:∀s,getQ a s+getQ b s≤9223372036854775807):
 (namesOf (nms a++nms b)).filter (fun s=>decide (0<(addQ (getQ a s) (getQ b s)).1))=namesOf (nms a++nms b):=by
 refine List.filter_eq_self.2 fun s hx=> ?_
 have pa:=pok_nn oa.p s
 have pb:=pok_nn ob.p s
 rw[addQ_nn pa pb,told_ok (hs s)]
 have:0<getQ a s+getQ b s:=by
  rcases List.mem_append.1 (namesOf_mem.1 hx)with h|h
  ·have:=(pok_pos oa.p).1 h;omega
  ·have:=(pok_pos ob.p).1 h;omega
 simpa using this
theorem add_ok{a b:List Amount}(oa:VOk a)(ob:VOk b)(hs:∀s,getQ a s+getQ b s≤9223372036854775807)(hl:(namesOf (nms a++nms b)).length≤8):
 ∃r,addV a b=(r,0)∧VOk r∧(∀s,getQ r s=getQ a s+getQ b s)∧nms r=namesOf (nms a++nms b):=by
 have pa:=pok_nn oa.p
 have pb:=pok_nn ob.p
 have hr:=namesOf_rise (nms a++nms b)
 have hn:=two_name oa ob
 have hg:∀s,addQ (getQ a s) (getQ b s)=(getQ a s+getQ b s,0):=fun s=>by rw[addQ_nn (pa s) (pb s),told_ok (hs s)]
 have e2:=nms_mk1 (fun s=>addQ (getQ a s) (getQ b s)) (namesOf (nms a++nms b))
 rw[add_nms oa ob hs]at e2
 have e3:(mk1 (fun s=>addQ (getQ a s) (getQ b s)) (namesOf (nms a++nms b))).length≤8:=by rw[←e2]at hl;simpa using hl
 refine⟨mk1 (fun s=>addQ (getQ a s) (getQ b s)) (namesOf (nms a++nms b)),?_,(mk1_ok hr hn).v e3,fun s=> ?_,e2⟩
 ·unfold addV
  rw[made_two oa ob,madeF_ok _ fun s _=>by simp only[hg],List.nil_append,fin_ok e3]
 ·rw[mk1_get hr hn s (by simp only[hg];have:=pa s;have:=pb s;omega),hg]
  intro hx
  simp only[hg]
  rw[getQ_none fun h=>hx (namesOf_mem.2 (List.mem_append.2 (.inl h))),getQ_none fun h=>hx (namesOf_mem.2 (List.mem_append.2 (.inr h)))]
  rfl
theorem add_zero{a b:List Amount}(oa:VOk a)(ob:VOk b)(h:(addV a b).2=0):(∀s,getQ a s+getQ b s≤9223372036854775807)∧(namesOf (nms a++nms b)).length≤8:=by
 have pa:=pok_nn oa.p
 have pb:=pok_nn ob.p
 unfold addV at h
 rw[made_two oa ob]at h
 have h0:(madeF (fun s=>addQ (getQ a s) (getQ b s)) (namesOf (nms a++nms b)) []).2=0:=by
  unfold finV at h;split at h
  ·rename_i h0;exact h0
  ·exact h
 have h1:=madeF_zero h0
 have hs:∀s,getQ a s+getQ b s≤9223372036854775807:=fun s=>by
  by_cases hm:s∈nms a++nms b
  ·have:=h1 s (namesOf_mem.2 hm)
   simp only[addQ_nn (pa s) (pb s)]at this
   exact told_zero this
  ·rw[getQ_none fun h=>hm (List.mem_append.2 (.inl h)),getQ_none fun h=>hm (List.mem_append.2 (.inr h))];omega
 refine⟨hs,?_⟩
 rw[madeF_ok _ h1,List.nil_append]at h
 have e2:=nms_mk1 (fun s=>addQ (getQ a s) (getQ b s)) (namesOf (nms a++nms b))
 rw[add_nms oa ob hs]at e2
 rw[←e2,List.length_map]
 unfold finV at h
 rw[if_pos rfl]at h
 split at h
 ·cases h
 ·rename_i h3;exact Nat.le_of_not_lt h3
def totQ:List (List Amount)→List UInt8→Int
 |[],_=>0
 |v::vs,s=>getQ v s+totQ vs s
theorem totQ_nn{vs:List (List Amount)}(h:∀v∈vs,VOk v)(s:List UInt8):0≤totQ vs s:=by
 induction vs with
 |nil=>simp[totQ]
 |cons v vs ih=>
  have:=pok_nn (h v (by simp)).p s
  have:=ih fun w hw=>h w (by simp[hw])
  simp only[totQ];omega
structure SumOk(acc:List Amount)(vs:List (List Amount)):Prop where
 le:∀s,getQ acc s+totQ vs s≤9223372036854775807
 few:(namesOf (nms acc++allNames vs)).length≤8
theorem SumOk.head{acc v:List Amount}{vs:List (List Amount)}(h:SumOk acc (v::vs))(hv:∀v∈vs,VOk v):(∀s,getQ acc s+getQ v s≤9223372036854775807)∧(namesOf (nms acc++nms v)).length≤8:=by
 refine⟨fun s=> ?_,?_⟩
 ·have:=h.le s
  have:=totQ_nn hv s
  simp only[totQ]at*;omega
 ·refine Nat.le_trans (names_sub fun x hx=> ?_) h.few
  rw[allNames_cons]
  simp only[List.mem_append]at hx⊢
  rcases hx with h|h
  ·exact .inl h
  ·exact .inr (.inl h)
theorem sum_mem{acc v r:List Amount}{vs:List (List Amount)}(e:nms r=namesOf (nms acc++nms v)):namesOf (nms r++allNames vs)=namesOf (nms acc++allNames (v::vs)):=
 names_congr fun x=>by rw[e,allNames_cons];simp only[List.mem_append,namesOf_mem,or_assoc]
theorem sum_ok:∀{vs:List (List Amount)}{acc:List Amount},VOk acc→(∀v∈vs,VOk v)→SumOk acc vs→∃r,sumG acc vs=(r,0)∧VOk r∧(∀s,getQ r s=getQ acc s+totQ vs s)∧nms r=namesOf (nms acc++allNames vs)
 |[],acc,oa,_,h=>⟨acc,rfl,oa,fun s=>by simp[totQ],by
    have:allNames []=[]:=rfl
    rw[this,List.append_nil]
    exact(namesOf_eq oa.rise fun x=>Iff.rfl).symm⟩
 |v::vs,acc,oa,ov,h=>by
  have ov':∀w∈vs,VOk w:=fun w hw=>ov w (by simp[hw])
  obtain⟨h1,h2⟩:=h.head ov'
  obtain⟨r,e,or,hr,hm⟩:=add_ok oa (ov v (by simp)) h1 h2
  obtain⟨r',e',or',hr',hm'⟩:=sum_ok or ov' ⟨fun s=>by have:=h.le s;simp only[totQ]at this;rw[hr];omega,by rw[sum_mem hm];exact h.few⟩
  refine⟨r',?_,or',fun s=> ?_,by rw[hm',sum_mem hm]⟩
  ·unfold sumG;rw[e,if_pos rfl];exact e'
  ·rw[hr',hr];simp only[totQ];omega
theorem names_self{v:List Amount}(h:VOk v):namesOf (nms v)=nms v:=namesOf_eq h.rise fun x=>Iff.rfl
theorem sum_zero:∀{vs:List (List Amount)}{acc:List Amount},VOk acc→(∀s,getQ acc s≤9223372036854775807)→(∀v∈vs,VOk v)→(sumG acc vs).2=0→SumOk acc vs
 |[],acc,oa,hb,_,h=>⟨fun s=>by have:=hb s;simp only[totQ];omega,by
    have:allNames []=[]:=rfl
    rw[this,List.append_nil,names_self oa,List.length_map];exact oa.len⟩
 |v::vs,acc,oa,hb,ov,h=>by
  have ov':∀w∈vs,VOk w:=fun w hw=>ov w (by simp[hw])
  unfold sumG at h
  split at h
  ·rename_i h0
   obtain⟨h1,h2⟩:=add_zero oa (ov v (by simp)) h0
   obtain⟨r,e,or,hr,hm⟩:=add_ok oa (ov v (by simp)) h1 h2
   rw[e]at h
   have ih:=sum_zero or (fun s=>by rw[hr];exact h1 s) ov' h
   exact⟨fun s=>by have:=ih.le s;rw[hr]at this;simp only[totQ];omega,by rw[←sum_mem hm];exact ih.few⟩
  ·rename_i h0;exact absurd h h0
theorem sum0{vs:List (List Amount)}(ov:∀v∈vs,VOk v):(sumG [] vs).2=0↔SumOk [] vs:=
 ⟨sum_zero vok_nil (fun s=>by show(0:Int)≤_;omega) ov,fun h=>by obtain⟨r,e,-⟩:=sum_ok vok_nil ov h;rw[e]⟩
theorem fits_get{a b:List Amount}(oa:POk a)(ob:POk b):fitsV a b=true↔∀s,getQ a s≤getQ b s:=by
 unfold fitsV
 simp only[List.all_eq_true,decide_eq_true_eq]
 constructor
 ·intro h s
  by_cases hm:s∈nms a
  ·obtain⟨x,hx,rfl,e⟩:=getQ_some hm
   rw[e];exact h x hx
  ·rw[getQ_none hm];exact pok_nn ob s
 ·intro h x hx
  rw[←getQ_mem oa.rise x hx];exact h _
end Go.Aa.T
set_option linter.unusedVariables false
set_option linter.unusedSimpArgs false
set_option maxRecDepth 100000
namespace Go.Aa.T
open Go.Aa Go.Proofs
end Go.Aa.T
set_option linter.unusedVariables false
set_option linter.unusedSimpArgs false
set_option maxRecDepth 100000
namespace Go.Aa.T
open Go.Aa Go.Proofs
end Go.Aa.T
set_option linter.unusedVariables false
set_option linter.unusedSimpArgs false
set_option maxRecDepth 100000
namespace Go.Aa.T
open Go.Aa Go.Proofs
end Go.Aa.T
set_option linter.unusedVariables false
set_option linter.unusedSimpArgs false
set_option maxRecDepth 100000
namespace Go.Aa.T
open Go.Aa Go.Proofs
structure GdS(s:St):Prop where
 cap:∀n∈s.nodes,VOk n.cap
 need:∀p∈s.pods,VOk p.need
 name:∀n∈s.nodes,n.name≠[]
 find:∀n∈s.nodes,findG Node.name s.nodes n.name=some n
 pods:srtP s.pods
 room:∀n∈s.nodes,(usedS s n.name).2=0∧fitsV (usedS s n.name).1 n.cap=true
 total:(totalS s).2=0
def ndS(s:St)(nd:List UInt8):List (List Amount):=(onS s nd).map (·.need)
theorem GdS.nd{s:St}(g:GdS s)(nd:List UInt8):∀v∈ndS s nd,VOk v:=fun v hv=>by
 obtain⟨p,hp,rfl⟩:=List.mem_map.1 hv
 exact g.need p (List.mem_filter.1 hp).1
theorem used_at{s:St}{nd:List UInt8}{n:Node}(h:findG Node.name s.nodes nd=some n):usedS s nd=sumG [] (ndS s nd):=by unfold usedS;rw[h];rfl
end Go.Aa.T
set_option linter.unusedVariables false
set_option linter.unusedSimpArgs false
set_option maxRecDepth 100000
namespace Go.Aa.T
open Go.Aa Go.Proofs
def cpuB:List UInt8:=[99,112,117]
def vC(n:Int):List Amount:=[⟨cpuB,n⟩]
def nmF(j:Nat):List UInt8:=[112,UInt8.ofNat (97+j/26),UInt8.ofNat (97+j%26)]
def nF(c:Int):Node:=⟨[97],vC c,[],[],false⟩
def pF(k:Int)(j:Nat):Pod:=⟨nmF j,[],0,vC k,[],[],[],[],0,[97],false⟩
def sF(c k:Int)(i:Nat):St:=⟨[nF c],(List.range i).map (pF k),[]⟩
theorem nm_all:((List.range 70).all fun i=>(List.range i).all fun j=>Op.bytesLess (nmF j) (nmF i))=true:=by kernel_rfl
theorem nm_lt{i j:Nat}(hi:i<70)(hj:j<i):Op.bytesLess (nmF j) (nmF i)=true:=
 List.all_eq_true.1 (List.all_eq_true.1 nm_all i (List.mem_range.2 hi)) j (List.mem_range.2 hj)
theorem nm_ok_all:((List.range 70).all fun i=>isName (nmF i))=true:=by kernel_rfl
theorem nm_ok{i:Nat}(hi:i<70):isName (nmF i)=true:=List.all_eq_true.1 nm_ok_all i (List.mem_range.2 hi)
theorem vC_ok{n:Int}(h:0<n):VOk (vC n):=by
 refine⟨by simp[vC],fun x hx=> ?_,fun x hx=> ?_,by simp[Rise,nms,vC]⟩
 ·obtain rfl:x=⟨cpuB,n⟩:=by simpa[vC]using hx
  rfl
 ·obtain rfl:x=⟨cpuB,n⟩:=by simpa[vC]using hx
  exact h
theorem vC_get(n:Int)(z:List UInt8):getQ (vC n) z=if cpuB=z then n else 0:=by
 unfold vC;rw[getQ_cons];rfl
theorem sF_srt{c k:Int}{i:Nat}(hi:i≤70):srtP (sF c k i).pods:=by
 refine List.pairwise_map.2 (List.Pairwise.imp_of_mem (fun{a b}ha hb hab=> ?_) List.pairwise_lt_range)
 exact nm_lt (by have:=List.mem_range.1 hb;omega) hab
theorem sF_off{k:Int}{i:Nat}(hi:i<70):offP (nmF i) ((List.range i).map (pF k))=(List.range i).map (pF k):=off_id fun x hx=>by
 obtain⟨j,hj,rfl⟩:=List.mem_map.1 hx
 intro e
 have:=nm_lt hi (List.mem_range.1 hj)
 rw[show nmF j=nmF i from e,bl_irrefl]at this
 cases this
theorem tw_all{X:Type}{f:X→Bool}:∀{l:List X},(∀x∈l,f x=true)→l.takeWhile f=l
 |[],_=>rfl
 |x::l,h=>by rw[List.takeWhile_cons,if_pos (h x (by simp)),tw_all fun y hy=>h y (by simp[hy])]
theorem dw_all{X:Type}{f:X→Bool}:∀{l:List X},(∀x∈l,f x=true)→l.dropWhile f=[]
 |[],_=>rfl
 |x::l,h=>by rw[List.dropWhile_cons,if_pos (h x (by simp)),dw_all fun y hy=>h y (by simp[hy])]
theorem sF_put{c k:Int}{i:Nat}(hi:i<70):putS (sF c k i) (pF k i)=sF c k (i+1):=by
 have hb:∀x∈(List.range i).map (pF k),before (nmF i) x=true:=fun x hx=>by
  obtain⟨j,hj,rfl⟩:=List.mem_map.1 hx
  exact nm_lt hi (List.mem_range.1 hj)
 have e:putL (pF k i) ((List.range i).map (pF k))=(List.range (i+1)).map (pF k):=by
  unfold putL
  rw[show(pF k i).name=nmF i from rfl,sF_off hi,tw_all hb,dw_all hb,List.range_succ,List.map_append]
  rfl
 unfold putS sF
 rw[e]
theorem vC_in{n:Int}(h:0<n)(h2:n≤1000):Vin (vC n):=⟨by simp[vC],fun x hx=>by
 obtain rfl:x=⟨cpuB,n⟩:=by simpa[vC]using hx
 exact⟨by show _≤n;omega,by show n≤_;omega⟩⟩
theorem sF_in{c k:Int}{i:Nat}(hc:0<c)(hc2:c≤1000)(hk:0<k)(hk2:k≤1000)(hi:i≤70):StIn (sF c k i):=by
 refine⟨by show 1<_;omega,by show((List.range i).map _).length≤_;simp;omega,fun n hn=> ?_,fun p hp=> ?_⟩
 ·obtain rfl:n=nF c:=by simpa[sF]using hn
  exact vC_in hc hc2
 ·obtain⟨j,-,rfl⟩:=List.mem_map.1 hp
  exact vC_in hk hk2
theorem ckAl_zero{X:Type}{ck:X→Int}{nm:X→List UInt8}{s:List X}:∀{post:List X}{i:Nat},(∀x∈post,ck x=0)→(∀(j:Nat)(x:X),post[j]?=some x→ordG nm s (i+j) x=false)→ckAl ck nm s i post=0
 |[],i,_,_=>rfl
 |x::post,i,h1,h2=>by
  unfold ckAl
  rw[if_pos (h1 x (by simp)),if_neg (by rw[show ordG nm s i x=false from h2 0 x rfl];simp)]
  exact ckAl_zero (fun y hy=>h1 y (by simp[hy])) fun j y hy=>by
   rw[show i+1+j=i+(j+1)by omega]
   exact h2 (j+1) y hy
theorem pF_ok{k:Int}{j:Nat}(hk:0<k)(hj:j<70):ckPd (pF k j)=0:=by
 unfold ckPd
 rw[show(pF k j).name=nmF j from rfl,nm_ok hj,show(pF k j).need=vC k from rfl,ckV_of (vC_ok hk)]
 rfl
theorem ck_pods_F{c k:Int}{i:Nat}(hk:0<k)(hi:i≤70):ckAll 128 ckPd Pod.name (sF c k i).pods=0:=by
 have hl:(sF c k i).pods.length=i:=by show((List.range i).map _).length=i;simp
 unfold ckAll
 rw[if_pos (by omega)]
 have hat:∀(j:Nat)(x:Pod),(sF c k i).pods[j]?=some x→j<i∧x=pF k j:=fun j x hx=>by
  have h1:=(List.getElem?_eq_some_iff.1 hx).1
  rw[hl]at h1
  have h2:(sF c k i).pods[j]?=some (pF k j):=by
   show((List.range i).map (pF k))[j]?=_
   rw[List.getElem?_map,List.getElem?_range h1];rfl
  rw[h2]at hx
  exact⟨h1,(Option.some.inj hx).symm⟩
 refine ckAl_zero (fun x hx=> ?_) fun j x hx=> ?_
 ·obtain⟨j,hj,rfl⟩:=List.mem_map.1 hx
  exact pF_ok hk (by have:=List.mem_range.1 hj;omega)
 ·obtain⟨hj,rfl⟩:=hat j x hx
  rw[Nat.zero_add]
  cases j with
  |zero=>rfl
  |succ j=>
   obtain⟨y,hy⟩:∃y,(sF c k i).pods[j]?=some y:=⟨_,List.getElem?_eq_getElem (by omega)⟩
   obtain⟨-,rfl⟩:=hat j y hy
   unfold ordG
   simp only[hy]
   exact bl_asym (nm_lt (by omega) (by omega))
theorem ck_node_F{c:Int}(hc:0<c):ckAll 32 ckN Node.name [nF c]=0:=by
 have e:ckN (nF c)=0:=by
  unfold ckN
  rw[show(nF c).cap=vC c from rfl,ckV_of (vC_ok hc)]
  rfl
 unfold ckAll
 rw[if_pos (by simp)]
 unfold ckAl
 rw[if_pos e]
 rfl
theorem pods_F(c:Int)(k:Int)(bs:List Bud)(q:List Pod):∀l:List Nat,podsE ⟨[nF c],q,bs⟩ (l.map (pF k))=0
 |[]=>rfl
 |j::l=>by
  rw[List.map_cons]
  unfold podsE
  rw[if_neg (by
   rintro⟨-,h⟩
   have:findG Node.name [nF c] [97]=some (nF c):=rfl
   rw[show(pF k j).node=[97]from rfl,this]at h
   cases h)]
  exact pods_F c k bs q l
theorem tot_F(k:Int)(z:List UInt8):∀l:List Nat,totQ ((l.map (pF k)).map (·.need)) z=(l.length:Int)*getQ (vC k) z
 |[]=>by simp[totQ]
 |j::l=>by
  simp only[List.map_cons,totQ,tot_F k z l,List.length_cons]
  rw[show(pF k j).need=vC k from rfl,Int.natCast_add,Int.add_mul]
  simp;omega
theorem nd_F(c k:Int)(i:Nat):ndS (sF c k i) [97]=((List.range i).map (pF k)).map (·.need):=by
 have:onS (sF c k i) [97]=(List.range i).map (pF k):=List.filter_eq_self.2 fun x hx=>by
  obtain⟨j,-,rfl⟩:=List.mem_map.1 hx
  rfl
 unfold ndS
 rw[this]
theorem names_F{k:Int}{l:List Nat}{z:List UInt8}(h:z∈allNames ((l.map (pF k)).map (·.need))):z=cpuB:=by
 simp only[allNames,List.mem_flatMap,List.mem_map]at h
 obtain⟨v,⟨p,⟨j,-,rfl⟩,rfl⟩,x,hx,rfl⟩:=h
 have:x=⟨cpuB,k⟩:=by simpa[pF,vC]using hx
 rw[this]
theorem used_F{c k:Int}{i:Nat}(hk:0<k)(hk2:k≤1000)(hi:i≤70):∃u,usedS (sF c k i) [97]=(u,0)∧VOk u∧∀z,getQ u z=(i:Int)*getQ (vC k) z:=by
 have hf:findG Node.name (sF c k i).nodes [97]=some (nF c):=rfl
 have ov:∀v∈ndS (sF c k i) [97],VOk v:=fun v hv=>by
  rw[nd_F]at hv
  obtain⟨p,hp,rfl⟩:=List.mem_map.1 hv
  obtain⟨j,-,rfl⟩:=List.mem_map.1 hp
  exact vC_ok hk
 have e0:∀z,getQ [] z=0:=fun z=>rfl
 have hle:∀z,(i:Int)*getQ (vC k) z≤70000:=fun z=>by
  rw[vC_get]
  split
  ·have:(i:Int)*k≤70*1000:=Int.mul_le_mul (by omega) hk2 (by omega) (by omega)
   omega
  ·simp
 have hk:SumOk [] (ndS (sF c k i) [97]):=by
  refine⟨fun z=> ?_,?_⟩
  ·rw[nd_F,tot_F,e0,List.length_range]
   have:=hle z
   omega
  ·have:=rise_len (namesOf_rise (nms []++allNames (ndS (sF c k i) [97]))) (m:=[cpuB]) (by simp[Rise]) fun x hx=>by
    have hx:=namesOf_mem.1 hx
    rw[nd_F]at hx
    have:=names_F hx
    simp[this]
   simp only[List.length_cons,List.length_nil]at this
   omega
 obtain⟨u,e,ou,hu,-⟩:=sum_ok vok_nil ov hk
 refine⟨u,by rw[used_at hf];exact e,ou,fun z=> ?_⟩
 rw[hu,nd_F,tot_F,e0,List.length_range];omega
theorem sF_ck{c k:Int}{i:Nat}(hc:0<c)(hc2:c≤1000)(hk:0<k)(hk2:k≤1000)(hi:i≤70):ckSt (sF c k i)=if(i:Int)*k≤c then 0 else 7:=by
 obtain⟨u,eu,ou,hu⟩:=used_F (c:=c) (k:=k) (i:=i) hk hk2 hi
 have ocx:=vC_ok hc
 have hfit:fitsV u (vC c)=true↔(i:Int)*k≤c:=by
  rw[fits_get ou.p ocx.p]
  constructor
  ·intro h
   have:=h cpuB
   rw[hu,vC_get,vC_get,if_pos rfl,if_pos rfl]at this
   exact this
  ·intro h z
   rw[hu,vC_get,vC_get]
   split
   ·exact h
   ·simp
 have hroom:roomE (sF c k i) (sF c k i).nodes=if(i:Int)*k≤c then 0 else 7:=by
  show roomE (sF c k i) [nF c]=_
  unfold roomE
  rw[show(nF c).name=[97]from rfl,show(nF c).cap=vC c from rfl,eu,if_pos rfl]
  by_cases h:(i:Int)*k≤c
  ·rw[if_pos (hfit.2 h),if_pos h];rfl
  ·rw[if_neg (fun h2=>h (hfit.1 h2)),if_neg h]
 have htot:(totalS (sF c k i)).2=0:=by
  have ov:∀v∈[vC c],VOk v:=fun v hv=>by
   obtain rfl:v=vC c:=by simpa using hv
   exact ocx
  refine(sum0 ov).2 ⟨fun z=> ?_,?_⟩
  ·have e0:getQ [] z=0:=rfl
   simp only[totQ,vC_get,e0]
   split<;>omega
  ·have:=rise_len (namesOf_rise (nms []++allNames [vC c])) (m:=[cpuB]) (by simp[Rise]) fun x hx=>by
    have hx:=namesOf_mem.1 hx
    simpa[allNames,vC]using hx
   simp only[List.length_cons,List.length_nil]at this
   omega
 have e:ckSt (sF c k i)=firstE [ckAll 32 ckN Node.name [nF c],ckAll 128 ckPd Pod.name (sF c k i).pods,ckAll 8 ckB Bud.name [],podsE (sF c k i) (sF c k i).pods,roomE (sF c k i) (sF c k i).nodes,(totalS (sF c k i)).2]:=rfl
 rw[e,ck_node_F hc,ck_pods_F hk hi,hroom,htot,show podsE (sF c k i) (sF c k i).pods=0 from pods_F c k [] _ _]
 by_cases h:(i:Int)*k≤c
 ·rw[if_pos h];rfl
 ·rw[if_neg h];rfl
end Go.Aa.T
