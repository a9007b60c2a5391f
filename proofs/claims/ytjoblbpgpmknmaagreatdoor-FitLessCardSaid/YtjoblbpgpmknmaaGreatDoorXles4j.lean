/-
  WHAT THE LAW LEANS ON, part 10 of 11: a machine of values and its soundness; the functions of the law upon it; what they come to.
-/
import Derived.Test.YtjoblbpgpmknmaaGreatDoorXles4i
set_option linter.unusedVariables false
set_option linter.unusedSimpArgs false
set_option maxRecDepth 100000
namespace Go.Aa.T
open Go.Aa Go.Proofs
structure StIn(s:St):Prop where
 nodes:s.nodes.length<9223372036854775807
 pods:s.pods.length≤1000
 cap:∀n∈s.nodes,Vin n.cap
 need:∀p∈s.pods,Vin p.need
theorem lenPd{l:List Pod}:lenOk 11 (l.map encPd)=true:=lenOk_map fun _=>rfl
theorem on_loop(s:St)(name:List UInt8)(hs:s.pods.length≤1000):∀(post:List Pod)(i:Nat)(hd:s.pods.drop i=post)(acc:List Pod)(ha:acc.length≤i)(ex:List (List AV))(T:Env)
 (hT:Has T [(1,.str name),(5,rowF encPd acc),(9,.sl .sh (s.pods.map encPd)),(10,.int .i64 s.pods.length),(11,.int .i64 i)]),
 Goes cfg a41 k41_0 T ⟨(encSt s).cells::ex,tkR encPd acc,[]⟩ (IsRet (rowF encPd (acc++post.filter (onP name)))):=by
 intro post
 induction post with
 |nil=>
  intro i hd acc ha ex T hT
  have hge:=drop_ge hd
  rw[show acc++([]:List Pod).filter (onP name)=acc by simp]
  exact goG 60 _ hT (.no (decide_eq_false (p:=(↑i:Int)<(↑s.pods.length:Int)) (by omega))<|.fin ((.ret (.sl (skF acc) (acc.map encPd)),{boxes:=[.sl .sh (s.nodes.map encN),.sl .sh (s.pods.map encPd),.sl .sh (s.buds.map encB)]::ex,toks:=tkR encPd acc,loops:=[]:Heap})) rfl) (by kernel_rfl)
 |cons x post ih=>
  intro i hd acc ha ex T hT
  have hlt:=drop_lt hd
  have hnx:=drop_next hd
  by_cases hq:onP name x=true
  ·have e:acc++(x::post).filter (onP name)=(acc++[x])++post.filter (onP name):=by simp[List.filter_cons,hq]
   rw[e]
   have ih':=ih (i+1) hnx (acc++[x]) (by simp;omega) (ex++[(encPd x).cells])
   have ap:∀bs ls,appendA 11 184 ⟨bs,tkR encPd acc,ls⟩ (rowF encPd acc) (.sl .full [encPd x])=some (rowF encPd (acc++[x]),⟨bs,tkR encPd (acc++[x]),ls⟩):=fun bs ls=>
    row_append_T encPd (x:=x) (by simp;omega) lenPd rfl rfl
   unfold onP at hq
   simp only[Bool.and_eq_true,beq_iff_eq,Bool.not_eq_true',beq_eq_false_iff_ne]at hq
   obtain⟨q1,q2⟩:=hq
   exact let ζ1:List AV:=[.str x.name,.str x.owner,.int .i64 x.prio,.sl .sh (x.need.map encA),.sl .sh (x.labels.map encP),.sl .sh (x.sel.map encM),.sl .sh (x.tols.map encL),.str x.key,.int .i64 x.most,.str x.node,.bool x.hold];let ζ2:List AV:=[.sl .sh (s.nodes.map encN),.sl .sh (s.pods.map encPd),.sl .sh (s.buds.map encB)];let ζ3:Heap:={boxes:=ζ2::(ex++[ζ1]),toks:=tkR encPd acc,loops:=[]:Heap};let ζ4:List AV:=[.str [],.str [],.int .i64 0,.sl .full [],.sl .full [],.sl .full [],.sl .full [],.str [],.int .i64 0,.str [],.bool false];let ζ5:Heap:={boxes:=ζ2::(ex++[ζ1]),toks:=tkR encPd (acc++[x]),loops:=[]:Heap};goG 120 _ hT (.yes (decide_eq_true (p:=(↑i:Int)<(↑s.pods.length:Int)) (by omega))<|.idx (show idxA 11 (.sl .sh (s.pods.map encPd)) (.int .i64 ↑i)=some (.ref (encPd x).cells)from idx_row hd (by rfl))<|.load (rfl:loadA true 11 {boxes:=ζ2::ex,toks:=tkR encPd acc,loops:=[]:Heap} (.ref ζ1)=some (.agg ζ1))<|.store (show storeA 11 {boxes:=ζ2::(ex++[ζ4]),toks:=tkR encPd acc,loops:=[]:Heap} (.ptr (ζ2::ex).length (0:Nat)) (.agg ζ1)=some (ζ3)from store_box2 (cs:=ζ4) (cs':=ζ1) (by simp+zetaDelta) rfl (by simp+zetaDelta [List.set_append]))<|.load (show loadA false 1 ζ3 (.ptr (ζ2::ex).length (9:Nat))=some (.str x.node)from load_box (cs:=ζ1) (by simp+zetaDelta) rfl)<|.yes (show(x.node==name)=true from(by simpa using q1))<|.yes (show(!name==[])=true from by have hh:¬((name==[])=true):=(by simpa using q2);simp[hh])<|.load (show loadA true 11 ζ3 (.ptr (ζ2::ex).length (0:Nat))=some (.agg ζ1)from load_box (cs:=ζ1) (by simp+zetaDelta) rfl)<|.append (show appendA (11:Nat) (184:Nat) ζ3 (.sl (skF acc) (acc.map encPd)) (.sl .full [.agg ζ1])=some ((rowF encPd (acc++[x]),ζ5))from ap _ _)<|.bin (show binA .add (.int .i64 ↑i) (.int .i64 1)=some (.int .i64 (↑(i+1)))from inc_i (by omega))<|.cutQ k41_0 [(1,.str name),(5,.sl (skF (acc++[x])) (List.map encPd (acc++[x]))),(9,.sl .sh (s.pods.map encPd)),(10,.int .i64 (↑s.pods.length)),(11,.int .i64 (↑(i+1)))] (ζ5) (fun T hT=>(ih' T hT))) (by kernel_rfl)
  ·have e:acc++(x::post).filter (onP name)=acc++post.filter (onP name):=by simp[List.filter_cons,hq]
   rw[e]
   have ih':=ih (i+1) hnx acc (by omega) (ex++[(encPd x).cells])
   by_cases q1:x.node=name
   ·have q2:name=[]:=by
     unfold onP at hq
     simpa[q1]using hq
    exact let ζ1:List AV:=[.str x.name,.str x.owner,.int .i64 x.prio,.sl .sh (x.need.map encA),.sl .sh (x.labels.map encP),.sl .sh (x.sel.map encM),.sl .sh (x.tols.map encL),.str x.key,.int .i64 x.most,.str x.node,.bool x.hold];let ζ2:List AV:=[.sl .sh (s.nodes.map encN),.sl .sh (s.pods.map encPd),.sl .sh (s.buds.map encB)];let ζ3:List AV:=[.str [],.str [],.int .i64 0,.sl .full [],.sl .full [],.sl .full [],.sl .full [],.str [],.int .i64 0,.str [],.bool false];let ζ4:Heap:={boxes:=ζ2::(ex++[ζ1]),toks:=tkR encPd acc,loops:=[]:Heap};goG 120 _ hT (.yes (decide_eq_true (p:=(↑i:Int)<(↑s.pods.length:Int)) (by omega))<|.idx (show idxA 11 (.sl .sh (s.pods.map encPd)) (.int .i64 ↑i)=some (.ref (encPd x).cells)from idx_row hd (by rfl))<|.load (rfl:loadA true 11 {boxes:=ζ2::ex,toks:=tkR encPd acc,loops:=[]:Heap} (.ref ζ1)=some (.agg ζ1))<|.store (show storeA 11 {boxes:=ζ2::(ex++[ζ3]),toks:=tkR encPd acc,loops:=[]:Heap} (.ptr (ζ2::ex).length (0:Nat)) (.agg ζ1)=some (ζ4)from store_box2 (cs:=ζ3) (cs':=ζ1) (by simp+zetaDelta) rfl (by simp+zetaDelta [List.set_append]))<|.load (show loadA false 1 ζ4 (.ptr (ζ2::ex).length (9:Nat))=some (.str x.node)from load_box (cs:=ζ1) (by simp+zetaDelta) rfl)<|.yes (show(x.node==name)=true from(by simpa using q1))<|.no (show(!name==[])=false from by have hh:(name==[])=true:=(by simpa using q2);simp[hh])<|.bin (show binA .add (.int .i64 ↑i) (.int .i64 1)=some (.int .i64 (↑(i+1)))from inc_i (by omega))<|.cutQ k41_0 [(1,.str name),(5,.sl (skF acc) (acc.map encPd)),(9,.sl .sh (s.pods.map encPd)),(10,.int .i64 (↑s.pods.length)),(11,.int .i64 (↑(i+1)))] (ζ4) (fun T hT=>(ih' T hT))) (by kernel_rfl)
   ·exact let ζ1:List AV:=[.str x.name,.str x.owner,.int .i64 x.prio,.sl .sh (x.need.map encA),.sl .sh (x.labels.map encP),.sl .sh (x.sel.map encM),.sl .sh (x.tols.map encL),.str x.key,.int .i64 x.most,.str x.node,.bool x.hold];let ζ2:List AV:=[.sl .sh (s.nodes.map encN),.sl .sh (s.pods.map encPd),.sl .sh (s.buds.map encB)];let ζ3:List AV:=[.str [],.str [],.int .i64 0,.sl .full [],.sl .full [],.sl .full [],.sl .full [],.str [],.int .i64 0,.str [],.bool false];let ζ4:Heap:={boxes:=ζ2::(ex++[ζ1]),toks:=tkR encPd acc,loops:=[]:Heap};goG 120 _ hT (.yes (decide_eq_true (p:=(↑i:Int)<(↑s.pods.length:Int)) (by omega))<|.idx (show idxA 11 (.sl .sh (s.pods.map encPd)) (.int .i64 ↑i)=some (.ref (encPd x).cells)from idx_row hd (by rfl))<|.load (rfl:loadA true 11 {boxes:=ζ2::ex,toks:=tkR encPd acc,loops:=[]:Heap} (.ref ζ1)=some (.agg ζ1))<|.store (show storeA 11 {boxes:=ζ2::(ex++[ζ3]),toks:=tkR encPd acc,loops:=[]:Heap} (.ptr (ζ2::ex).length (0:Nat)) (.agg ζ1)=some (ζ4)from store_box2 (cs:=ζ3) (cs':=ζ1) (by simp+zetaDelta) rfl (by simp+zetaDelta [List.set_append]))<|.load (show loadA false 1 ζ4 (.ptr (ζ2::ex).length (9:Nat))=some (.str x.node)from load_box (cs:=ζ1) (by simp+zetaDelta) rfl)<|.no (show(x.node==name)=false from Bool.eq_false_iff.2 (by simpa using q1))<|.ff<|.bin (show binA .add (.int .i64 ↑i) (.int .i64 1)=some (.int .i64 (↑(i+1)))from inc_i (by omega))<|.cutQ k41_0 [(1,.str name),(5,.sl (skF acc) (acc.map encPd)),(9,.sl .sh (s.pods.map encPd)),(10,.int .i64 (↑s.pods.length)),(11,.int .i64 (↑(i+1)))] (ζ4) (fun T hT=>(ih' T hT))) (by kernel_rfl)
theorem on_any(s:St)(name:List UInt8)(hs:s.pods.length≤1000):Gives cfg 41 [encSt s,.str name] (rowF encPd (onS s name)):=by
 refine Gives.run (l41 _ _) ?_
 have h:=on_loop s name hs s.pods 0 rfl [] (by simp) []
 have e:rowF encPd ([]:List Pod)=.sl .full []:=rfl
 rw[e,tk_nil,List.nil_append]at h
 exact goG 60 [] trivial (.len (show lenA false (.sl .sh (s.pods.map encPd))=some (.int .i64 (↑s.pods.length))from len_map _)<|.cutQ k41_0 [(1,.str name),(5,.sl .full []),(9,.sl .sh (s.pods.map encPd)),(10,.int .i64 (↑s.pods.length)),(11,.int .i64 0)] ({boxes:=[[.sl .sh (s.nodes.map encN),.sl .sh (s.pods.map encPd),.sl .sh (s.buds.map encB)]],toks:=[],loops:=[]:Heap}) (fun T hT=>(h T hT))) (by kernel_rfl)
def usedS(s:St)(name:List UInt8):List Amount×Int:=match findG Node.name s.nodes name with
 |none=>([],3)
 |some _=>sumG [] ((onS s name).map (·.need))
theorem on_mem{s:St}{name:List UInt8}{p:Pod}(h:p∈onS s name):p∈s.pods:=(List.mem_filter.1 h).1
theorem on_len(s:St)(name:List UInt8):(onS s name).length≤s.pods.length:=List.length_filter_le _ _
theorem used_any(s:St)(name:List UInt8)(hs:StIn s):∃c,Gives cfg 33 [encSt s,.str name] (resV c (usedS s name)):=by
 have h1:=findN_any s.nodes name hs.nodes
 cases hf:findG Node.name s.nodes name with
 |none=>
  rw[hf]at h1
  have e:usedS s name=([],3):=by unfold usedS;rw[hf]
  rw[e]
  refine⟨false,Gives.run (l33 _ _) ?_⟩
  exact let ζ1:List AV:=[.str [],.sl .sh [],.sl .sh [],.sl .sh [],.bool false];let ζ2:List AV:=[.sl .sh (s.nodes.map encN),.str name];goG 60 [] trivial (.callK (ζ2) (.tuple [.agg ζ1,.bool false]) (show Gives cfg (79:FuncId) ζ2 (findNV none)from h1)<|.tt<|.fin ((.ret (.tuple [.sl .full [],.int .i64 3]),{boxes:=[[.sl .sh (s.nodes.map encN),.sl .sh (s.pods.map encPd),.sl .sh (s.buds.map encB)],ζ1],toks:=[],loops:=[]:Heap})) rfl) (by kernel_rfl)
 |some n=>
  rw[hf]at h1
  have e:usedS s name=sumG [] ((onS s name).map (·.need)):=by unfold usedS;rw[hf]
  rw[e]
  have h2:=on_any s name hs.pods
  obtain⟨c,h3⟩:=sumP_any (onS s name) (by have:=on_len s name;have:=hs.pods;omega) (fun p hp=>hs.need p (on_mem hp))
  generalize sumG [] ((onS s name).map (·.need))=z at h3⊢
  refine⟨true,Gives.run (l33 _ _) ?_⟩
  exact let ζ1:List AV:=[.str n.name,.sl .sh (n.cap.map encA),.sl .sh (n.labels.map encP),.sl .sh (n.taints.map encT),.bool n.cordon];let ζ2:List AV:=[.sl .sh (s.nodes.map encN),.sl .sh (s.pods.map encPd),.sl .sh (s.buds.map encB)];let ζ3:List AV:=[.sl .sh (z.fst.map encA),.int .i64 z.snd];let ζ4:List AV:=[.sl .sh (s.nodes.map encN),.str name];goG 90 [] trivial (.callK (ζ4) (.tuple [.agg ζ1,.bool true]) (show Gives cfg (79:FuncId) ζ4 (findNV (some n))from h1)<|.ff<|.callG ([.agg ζ2,.str name]) (.sl .sh (List.map encPd (onS s name))) (show Gives cfg (41:FuncId) [encSt s,.str name] (rowF encPd (onS s name))from h2) ⟨rfl,rfl⟩ Res.p<|.callG ([.sl .sh (List.map encPd (onS s name)),.func (107:Nat) []]) (.tuple ζ3) (show Gives cfg (106:FuncId) [.sl .sh (List.map encPd (onS s name)),.func (107:FuncId) []] (resV c z)from h3) ⟨rfl,rfl⟩ Res.p<|.fin ((.ret (.tuple ζ3),{boxes:=[ζ2,ζ1],toks:=[],loops:=[]:Heap})) rfl) (by kernel_rfl)
def usedR(s:St)(name:List UInt8):List Amount×Int:=match findG Node.name s.nodes name with
 |none=>([],3)
 |some _=>sumG [] ((s.pods.filter fun p=>p.node==name).map (·.need))
theorem used_ref_loop(s:St)(name:List UInt8)(hs:StIn s)(nc:List AV):∀(post:List Pod)(i:Nat)(hd:s.pods.drop i=post)(acc:List Amount)(ha:acc.length≤8∧rgA acc)(c:Bool)(T:Env)
 (hT:Has T [(1,.str name),(2,.ptr 0 0),(8,.sl (kq c) (acc.map encA)),(9,.int .i64 i)]),
 Goes cfg a34 k34_0 T ⟨[(encSt s).cells,nc],[],[]⟩ (RetV (sumG acc ((post.filter fun p=>p.node==name).map (·.need)))):=by
 intro post
 induction post with
 |nil=>
  intro i hd acc ha c T hT
  have hge:=drop_ge hd
  have hp:=hs.pods
  have e:sumG acc (((([]:List Pod).filter fun p=>p.node==name)).map (·.need))=(acc,0):=rfl
  rw[e]
  exact goG 60 _ hT (.len (show lenA false (.sl .sh (s.pods.map encPd))=some (.int .i64 (↑s.pods.length))from len_map _)<|.no (decide_eq_false (p:=(↑i:Int)<(↑s.pods.length:Int)) (by omega))<|.fin ((.ret (.tuple [.sl (kq c) (acc.map encA),.int .i64 0]),{boxes:=[[.sl .sh (s.nodes.map encN),.sl .sh (s.pods.map encPd),.sl .sh (s.buds.map encB)],nc],toks:=[],loops:=[]:Heap})) (by exact⟨c,rfl⟩)) (by kernel_rfl)
 |cons x post ih=>
  intro i hd acc ha c T hT
  have hlt:=drop_lt hd
  have hnx:=drop_next hd
  have hp:=hs.pods
  have hxi:idxA 11 (.sl .sh (s.pods.map encPd)) (.int .i64 (i:Nat))=some (.ref (encPd x).cells):=idx_row (f:=encPd) hd rfl
  by_cases hq:x.node=name
  ·have e:((x::post).filter fun p=>p.node==name).map (·.need)=x.need::(post.filter fun p=>p.node==name).map (·.need):=by simp[List.filter_cons,hq]
   rw[e]
   have hx:=hs.need x (drop_mem hd)
   obtain⟨c2,h2⟩:=addR acc x.need (by omega) hx.len ha.2 hx.rg
   have hr:=addV_rg acc x.need
   have e2:sumG acc (x.need::(post.filter fun p=>p.node==name).map (·.need))=if(addV acc x.need).2=0 then sumG (addV acc x.need).1 ((post.filter fun p=>p.node==name).map (·.need))else([],(addV acc x.need).2):=rfl
   rw[e2]
   generalize addV acc x.need=z at h2 hr⊢
   obtain⟨w,er⟩:=z
   simp only at h2 hr⊢
   by_cases h0:er=0
   ·subst h0
    rw[if_pos rfl]
    have ih':=ih (i+1) hnx w ⟨hr.2,hr.1⟩ true
    have ek:kq true=.sh:=rfl
    rw[ek]at ih'
    exact goG 120 _ hT (.len (show lenA false (.sl .sh (s.pods.map encPd))=some (.int .i64 (↑s.pods.length))from len_map _)<|.yes (decide_eq_true (p:=(↑i:Int)<(↑s.pods.length:Int)) (by omega))<|.idx (show idxA 11 (.sl .sh (s.pods.map encPd)) (.int .i64 ↑i)=some (.ref (encPd x).cells)from hxi)<|.no (show(!x.node==name)=false from by have hh:(x.node==name)=true:=(by simpa using hq);simp[hh])<|.idx (show idxA 11 (.sl .sh (s.pods.map encPd)) (.int .i64 ↑i)=some (.ref (encPd x).cells)from hxi)<|.callG ([.sl (kq c) (acc.map encA),.sl .sh (x.need.map encA)]) (.tuple [.sl .sh (List.map encA (w,(0:Int)).fst),.int .i64 (w,(0:Int)).snd]) (show Gives cfg (108:FuncId) [.sl .sh (acc.map encA),.sl .sh (x.need.map encA)] (resV c2 (w,(0:Int)))from h2) Shuts.p Res.p<|.ff<|.bin (show binA .add (.int .i64 ↑i) (.int .i64 1)=some (.int .i64 (↑(i+1)))from inc_i (by omega))<|.cutQ k34_0 [(1,.str name),(2,.ptr 0 0),(8,.sl .sh (List.map encA (w,(0:Int)).fst)),(9,.int .i64 (↑(i+1)))] ({boxes:=[[.sl .sh (s.nodes.map encN),.sl .sh (s.pods.map encPd),.sl .sh (s.buds.map encB)],nc],toks:=[],loops:=[]:Heap}) (fun T hT=>(ih' T hT))) (by kernel_rfl)
   ·rw[if_neg h0]
    exact goG 120 _ hT (.len (show lenA false (.sl .sh (s.pods.map encPd))=some (.int .i64 (↑s.pods.length))from len_map _)<|.yes (decide_eq_true (p:=(↑i:Int)<(↑s.pods.length:Int)) (by omega))<|.idx (show idxA 11 (.sl .sh (s.pods.map encPd)) (.int .i64 ↑i)=some (.ref (encPd x).cells)from hxi)<|.no (show(!x.node==name)=false from by have hh:(x.node==name)=true:=(by simpa using hq);simp[hh])<|.idx (show idxA 11 (.sl .sh (s.pods.map encPd)) (.int .i64 ↑i)=some (.ref (encPd x).cells)from hxi)<|.callG ([.sl (kq c) (acc.map encA),.sl .sh (x.need.map encA)]) (.tuple [.sl .sh (List.map encA (w,er).fst),.int .i64 (w,er).snd]) (show Gives cfg (108:FuncId) [.sl .sh (acc.map encA),.sl .sh (x.need.map encA)] (resV c2 (w,er))from h2) Shuts.p Res.p<|.yes (show((w,er).snd !=(0:Int))=true from(by simpa using h0))<|.fin ((.ret (.tuple [.sl .full [],.int .i64 (w,er).snd]),{boxes:=[[.sl .sh (s.nodes.map encN),.sl .sh (s.pods.map encPd),.sl .sh (s.buds.map encB)],nc],toks:=[],loops:=[]:Heap})) (by exact⟨false,rfl⟩)) (by kernel_rfl)
  ·have e:((x::post).filter fun p=>p.node==name).map (·.need)=(post.filter fun p=>p.node==name).map (·.need):=by simp[List.filter_cons,hq]
   rw[e]
   have ih':=ih (i+1) hnx acc ha c
   exact goG 120 _ hT (.len (show lenA false (.sl .sh (s.pods.map encPd))=some (.int .i64 (↑s.pods.length))from len_map _)<|.yes (decide_eq_true (p:=(↑i:Int)<(↑s.pods.length:Int)) (by omega))<|.idx (show idxA 11 (.sl .sh (s.pods.map encPd)) (.int .i64 ↑i)=some (.ref (encPd x).cells)from hxi)<|.yes (show(!x.node==name)=true from by have hh:¬((x.node==name)=true):=(by simpa using hq);simp[hh])<|.bin (show binA .add (.int .i64 ↑i) (.int .i64 1)=some (.int .i64 (↑(i+1)))from inc_i (by omega))<|.cutQ k34_0 [(1,.str name),(2,.ptr 0 0),(8,.sl (kq c) (acc.map encA)),(9,.int .i64 (↑(i+1)))] ({boxes:=[[.sl .sh (s.nodes.map encN),.sl .sh (s.pods.map encPd),.sl .sh (s.buds.map encB)],nc],toks:=[],loops:=[]:Heap}) (fun T hT=>(ih' T hT))) (by kernel_rfl)
theorem used_ref(s:St)(name:List UInt8)(hs:StIn s):∃c,Gives cfg 34 [encSt s,.str name] (resV c (usedR s name)):=by
 have h1:=findN_ref s.nodes name hs.nodes
 refine RetV.gives (l34 _ _) ?_
 cases hf:findG Node.name s.nodes name with
 |none=>
  rw[hf]at h1
  have e:usedR s name=([],3):=by unfold usedR;rw[hf]
  rw[e]
  exact let ζ1:List AV:=[.str [],.sl .sh [],.sl .sh [],.sl .sh [],.bool false];let ζ2:List AV:=[.sl .sh (s.nodes.map encN),.str name];goG 60 [] trivial (.callK (ζ2) (.tuple [.agg ζ1,.bool false]) (show Gives cfg (84:FuncId) ζ2 (findNV none)from h1)<|.tt<|.fin ((.ret (.tuple [.sl .full [],.int .i64 3]),{boxes:=[[.sl .sh (s.nodes.map encN),.sl .sh (s.pods.map encPd),.sl .sh (s.buds.map encB)],ζ1],toks:=[],loops:=[]:Heap})) (by exact⟨false,rfl⟩)) (by kernel_rfl)
 |some n=>
  rw[hf]at h1
  have e:usedR s name=sumG [] ((s.pods.filter fun p=>p.node==name).map (·.need)):=by unfold usedR;rw[hf]
  rw[e]
  have h2:=used_ref_loop s name hs (encN n).cells s.pods 0 rfl [] ⟨by simp,fun x hx=>by cases hx⟩ false
  have ek:kq false=.full:=rfl
  rw[ek]at h2
  exact let ζ1:List AV:=[.str n.name,.sl .sh (n.cap.map encA),.sl .sh (n.labels.map encP),.sl .sh (n.taints.map encT),.bool n.cordon];let ζ2:List AV:=[.sl .sh (s.nodes.map encN),.str name];goG 90 [] trivial (.callK (ζ2) (.tuple [.agg ζ1,.bool true]) (show Gives cfg (84:FuncId) ζ2 (findNV (some n))from h1)<|.ff<|.cutQ k34_0 [(1,.str name),(2,.ptr 0 0),(8,.sl .full []),(9,.int .i64 0)] ({boxes:=[[.sl .sh (s.nodes.map encN),.sl .sh (s.pods.map encPd),.sl .sh (s.buds.map encB)],ζ1],toks:=[],loops:=[]:Heap}) (fun T hT=>(h2 T hT))) (by kernel_rfl)
theorem used_same(s:St){name:List UInt8}(h:name≠[]):usedR s name=usedS s name:=by
 unfold usedR usedS onS
 have e:(s.pods.filter fun p=>p.node==name)=s.pods.filter (onP name):=by
  refine List.filter_congr fun p _=> ?_
  simp[onP,h]
 rw[e]
def totalS(s:St):List Amount×Int:=sumG [] (s.nodes.map (·.cap))
theorem total_ref_loop(s:St)(hs:StIn s):∀(post:List Node)(i:Nat)(hd:s.nodes.drop i=post)(acc:List Amount)(ha:acc.length≤8∧rgA acc)(c:Bool)(T:Env)
 (hT:Has T [(1,.ptr 0 0),(4,.sl (kq c) (acc.map encA)),(5,.int .i64 i)]),
 Goes cfg a40 k40_0 T ⟨[(encSt s).cells],[],[]⟩ (RetV (sumG acc (post.map (·.cap)))):=by
 intro post
 induction post with
 |nil=>
  intro i hd acc ha c T hT
  have hge:=drop_ge hd
  have hp:=hs.nodes
  have e:sumG acc (([]:List Node).map (·.cap))=(acc,0):=rfl
  rw[e]
  exact goG 60 _ hT (.len (show lenA false (.sl .sh (s.nodes.map encN))=some (.int .i64 (↑s.nodes.length))from len_map _)<|.no (decide_eq_false (p:=(↑i:Int)<(↑s.nodes.length:Int)) (by omega))<|.fin ((.ret (.tuple [.sl (kq c) (acc.map encA),.int .i64 0]),{boxes:=[[.sl .sh (s.nodes.map encN),.sl .sh (s.pods.map encPd),.sl .sh (s.buds.map encB)]],toks:=[],loops:=[]:Heap})) (by exact⟨c,rfl⟩)) (by kernel_rfl)
 |cons x post ih=>
  intro i hd acc ha c T hT
  have hlt:=drop_lt hd
  have hnx:=drop_next hd
  have hp:=hs.nodes
  have hxi:idxA 5 (.sl .sh (s.nodes.map encN)) (.int .i64 (i:Nat))=some (.ref (encN x).cells):=idx_row (f:=encN) hd rfl
  have hx:=hs.cap x (drop_mem hd)
  obtain⟨c2,h2⟩:=addR acc x.cap (by omega) hx.len ha.2 hx.rg
  have hr:=addV_rg acc x.cap
  have e2:sumG acc ((x::post).map (·.cap))=if(addV acc x.cap).2=0 then sumG (addV acc x.cap).1 (post.map (·.cap))else([],(addV acc x.cap).2):=rfl
  rw[e2]
  generalize addV acc x.cap=z at h2 hr⊢
  obtain⟨w,er⟩:=z
  simp only at h2 hr⊢
  by_cases h0:er=0
  ·subst h0
   rw[if_pos rfl]
   have ih':=ih (i+1) hnx w ⟨hr.2,hr.1⟩ true
   have ek:kq true=.sh:=rfl
   rw[ek]at ih'
   exact goG 120 _ hT (.len (show lenA false (.sl .sh (s.nodes.map encN))=some (.int .i64 (↑s.nodes.length))from len_map _)<|.yes (decide_eq_true (p:=(↑i:Int)<(↑s.nodes.length:Int)) (by omega))<|.idx (show idxA 5 (.sl .sh (s.nodes.map encN)) (.int .i64 ↑i)=some (.ref (encN x).cells)from hxi)<|.callG ([.sl (kq c) (acc.map encA),.sl .sh (x.cap.map encA)]) (.tuple [.sl .sh (List.map encA (w,(0:Int)).fst),.int .i64 (w,(0:Int)).snd]) (show Gives cfg (108:FuncId) [.sl .sh (acc.map encA),.sl .sh (x.cap.map encA)] (resV c2 (w,(0:Int)))from h2) Shuts.p Res.p<|.ff<|.bin (show binA .add (.int .i64 ↑i) (.int .i64 1)=some (.int .i64 (↑(i+1)))from inc_i (by omega))<|.cutQ k40_0 [(1,.ptr 0 0),(4,.sl .sh (List.map encA (w,(0:Int)).fst)),(5,.int .i64 (↑(i+1)))] ({boxes:=[[.sl .sh (s.nodes.map encN),.sl .sh (s.pods.map encPd),.sl .sh (s.buds.map encB)]],toks:=[],loops:=[]:Heap}) (fun T hT=>(ih' T hT))) (by kernel_rfl)
  ·rw[if_neg h0]
   exact goG 120 _ hT (.len (show lenA false (.sl .sh (s.nodes.map encN))=some (.int .i64 (↑s.nodes.length))from len_map _)<|.yes (decide_eq_true (p:=(↑i:Int)<(↑s.nodes.length:Int)) (by omega))<|.idx (show idxA 5 (.sl .sh (s.nodes.map encN)) (.int .i64 ↑i)=some (.ref (encN x).cells)from hxi)<|.callG ([.sl (kq c) (acc.map encA),.sl .sh (x.cap.map encA)]) (.tuple [.sl .sh (List.map encA (w,er).fst),.int .i64 (w,er).snd]) (show Gives cfg (108:FuncId) [.sl .sh (acc.map encA),.sl .sh (x.cap.map encA)] (resV c2 (w,er))from h2) Shuts.p Res.p<|.yes (show((w,er).snd !=(0:Int))=true from(by simpa using h0))<|.fin ((.ret (.tuple [.sl .full [],.int .i64 (w,er).snd]),{boxes:=[[.sl .sh (s.nodes.map encN),.sl .sh (s.pods.map encPd),.sl .sh (s.buds.map encB)]],toks:=[],loops:=[]:Heap})) (by exact⟨false,rfl⟩)) (by kernel_rfl)
theorem total_ref(s:St)(hs:StIn s):∃c,Gives cfg 40 [encSt s] (resV c (totalS s)):=by
 refine RetV.gives (l40 _ _) ?_
 have h2:=total_ref_loop s hs s.nodes 0 rfl [] ⟨by simp,fun x hx=>by cases hx⟩ false
 have ek:kq false=.full:=rfl
 rw[ek]at h2
 unfold totalS
 exact goG 90 [] trivial (.cutQ k40_0 [(1,.ptr 0 0),(4,.sl .full []),(5,.int .i64 0)] ({boxes:=[[.sl .sh (s.nodes.map encN),.sl .sh (s.pods.map encPd),.sl .sh (s.buds.map encB)]],toks:=[],loops:=[]:Heap}) (fun T hT=>(h2 T hT))) (by kernel_rfl)
def capOf(s:St)(name:List UInt8):List Amount:=match findG Node.name s.nodes name with
 |none=>[]
 |some n=>n.cap
def freeG(u:List Amount×Int)(cap:List Amount):List Amount×Int:=if u.2=0 then subV cap u.1 else([],u.2)
def freeS(s:St)(name:List UInt8):List Amount×Int:=freeG (usedS s name) (capOf s name)
theorem sumG_in:∀(vs:List (List Amount))(acc:List Amount),acc.length≤8∧rgA acc→(sumG acc vs).1.length≤8∧rgA (sumG acc vs).1
 |[],acc,h=>h
 |v::vs,acc,h=>by
  unfold sumG
  split
  ·exact sumG_in vs _ ⟨(addV_rg acc v).2,(addV_rg acc v).1⟩
  ·exact⟨by simp,fun x hx=>by cases hx⟩
theorem usedS_in(s:St)(name:List UInt8):(usedS s name).1.length≤8∧rgA (usedS s name).1:=by
 unfold usedS
 split
 ·exact⟨by simp,fun x hx=>by cases hx⟩
 ·exact sumG_in _ _ ⟨by simp,fun x hx=>by cases hx⟩
theorem usedR_in(s:St)(name:List UInt8):(usedR s name).1.length≤8∧rgA (usedR s name).1:=by
 unfold usedR
 split
 ·exact⟨by simp,fun x hx=>by cases hx⟩
 ·exact sumG_in _ _ ⟨by simp,fun x hx=>by cases hx⟩
theorem free_any(s:St)(name:List UInt8)(hs:StIn s):∃c,Gives cfg 37 [encSt s,.str name] (resV c (freeS s name)):=by
 have h1:=findN_any s.nodes name hs.nodes
 obtain⟨c,h2⟩:=used_any s name hs
 have hi:=usedS_in s name
 cases hf:findG Node.name s.nodes name with
 |none=>
  rw[hf]at h1
  have e:usedS s name=([],3):=by unfold usedS;rw[hf]
  rw[e]at h2
  have e:freeS s name=([],3):=by unfold freeS;rw[e];rfl
  rw[e]
  refine⟨false,Gives.run (l37 _ _) ?_⟩
  exact let ζ1:List AV:=[.sl .sh (s.nodes.map encN),.sl .sh (s.pods.map encPd),.sl .sh (s.buds.map encB)];let ζ2:List AV:=[.str [],.sl .sh [],.sl .sh [],.sl .sh [],.bool false];let ζ3:List AV:=[.sl .sh (s.nodes.map encN),.str name];goG 60 [] trivial (.callK (ζ3) (.tuple [.agg ζ2,.bool false]) (show Gives cfg (79:FuncId) ζ3 (findNV none)from h1)<|.callG ([.agg ζ1,.str name]) (.tuple [.sl .sh [],.int .i64 ([],(3:Int)).snd]) (show Gives cfg (33:FuncId) [encSt s,.str name] (resV c ([],(3:Int)))from h2) ⟨rfl,rfl⟩ Res.p<|.tt<|.fin ((.ret (.tuple [.sl .full [],.int .i64 ([],(3:Int)).snd]),{boxes:=[ζ1,ζ2],toks:=[],loops:=[]:Heap})) rfl) (by kernel_rfl)
 |some n=>
  rw[hf]at h1
  have e:freeS s name=freeG (usedS s name) n.cap:=by unfold freeS capOf;rw[hf]
  rw[e]
  have hn:=hs.cap n (findG_mem hf)
  have h3:=subV_any n.cap (usedS s name).1 hn.len (by omega) hn.rg hi.2
  generalize usedS s name=u at h2 h3⊢
  obtain⟨w,er⟩:=u
  by_cases h0:er=0
  ·subst h0
   have e:freeG (w,0) n.cap=subV n.cap w:=rfl
   rw[e]
   simp only at h3
   generalize subV n.cap w=z at h3⊢
   refine⟨true,Gives.run (l37 _ _) ?_⟩
   exact let ζ1:List AV:=[.str n.name,.sl .sh (n.cap.map encA),.sl .sh (n.labels.map encP),.sl .sh (n.taints.map encT),.bool n.cordon];let ζ2:List AV:=[.sl .sh (s.nodes.map encN),.sl .sh (s.pods.map encPd),.sl .sh (s.buds.map encB)];let ζ3:List AV:=[.sl .sh (z.fst.map encA),.int .i64 z.snd];let ζ4:List AV:=[.sl .sh (s.nodes.map encN),.str name];goG 90 [] trivial (.callK (ζ4) (.tuple [.agg ζ1,.bool true]) (show Gives cfg (79:FuncId) ζ4 (findNV (some n))from h1)<|.callG ([.agg ζ2,.str name]) (.tuple [.sl .sh (List.map encA (w,(0:Int)).fst),.int .i64 (w,(0:Int)).snd]) (show Gives cfg (33:FuncId) [encSt s,.str name] (resV c (w,(0:Int)))from h2) ⟨rfl,rfl⟩ Res.p<|.ff<|.callI h3<|.fin ((.ret (.tuple ζ3),{boxes:=[ζ2,ζ1],toks:=[],loops:=[]:Heap})) rfl) (by kernel_rfl)
  ·have e:freeG (w,er) n.cap=([],er):=by simp[freeG,h0]
   rw[e]
   refine⟨false,Gives.run (l37 _ _) ?_⟩
   exact let ζ1:List AV:=[.str n.name,.sl .sh (n.cap.map encA),.sl .sh (n.labels.map encP),.sl .sh (n.taints.map encT),.bool n.cordon];let ζ2:List AV:=[.sl .sh (s.nodes.map encN),.sl .sh (s.pods.map encPd),.sl .sh (s.buds.map encB)];let ζ3:List AV:=[.sl .sh (s.nodes.map encN),.str name];goG 90 [] trivial (.callK (ζ3) (.tuple [.agg ζ1,.bool true]) (show Gives cfg (79:FuncId) ζ3 (findNV (some n))from h1)<|.callG ([.agg ζ2,.str name]) (.tuple [.sl .sh (List.map encA (w,er).fst),.int .i64 (w,er).snd]) (show Gives cfg (33:FuncId) [encSt s,.str name] (resV c (w,er))from h2) ⟨rfl,rfl⟩ Res.p<|.yes (show((w,er).snd !=(0:Int))=true from(by simpa using h0))<|.fin ((.ret (.tuple [.sl .full [],.int .i64 (w,er).snd]),{boxes:=[ζ2,ζ1],toks:=[],loops:=[]:Heap})) rfl) (by kernel_rfl)
end Go.Aa.T
set_option linter.unusedVariables false
set_option linter.unusedSimpArgs false
set_option maxRecDepth 100000
namespace Go.Aa.T
open Go.Aa Go.Proofs
section
variable{call:CallF}{i p:Nat}{o:AOper}{ops:List AOper}{T:Env}{H H':Heap}{u v:AV}
end
theorem Goes.imp{A:AFunc}{k:List AIt}{T:Env}{H:Heap}{R R':ARes×Heap→Prop}(h:Goes cfg A k T H R)(hi:∀r,R r→R' r):Goes cfg A k T H R':=by
 obtain⟨r,h1,h2⟩:=h
 exact⟨r,h1,hi r h2⟩
end Go.Aa.T
set_option linter.unusedVariables false
set_option linter.unusedSimpArgs false
set_option maxRecDepth 100000
namespace Go.Aa.T
open Go.Aa Go.Proofs
def fewSt(s:St):Bool:=decide (s.nodes.length≤34)&&(decide (s.pods.length≤130)&&(fewBs s.buds&&(s.nodes.all fewN&&s.pods.all fewPd)))
structure FewS(s:St):Prop where
 nodes:s.nodes.length≤34
 pods:s.pods.length≤130
 buds:fewBs s.buds=true
 node:∀n∈s.nodes,fewN n=true
 pod:∀p∈s.pods,fewPd p=true
theorem fewS{s:St}(h:fewSt s=true):FewS s:=by
 simp only[fewSt,Bool.and_eq_true,decide_eq_true_eq,List.all_eq_true]at h
 exact⟨h.1,h.2.1,h.2.2.1,h.2.2.2.1,h.2.2.2.2⟩
theorem fewSt_pods(s:St)(hs:s.pods.length≤130):∀(post:List Pod)(i:Nat)(hd:s.pods.drop i=post)(T:Env)(hT:Has T [(1,.ptr 0 0),(4,.int .i64 i)]),
 Goes cfg a30 k30_1 T ⟨[(encSt s).cells],[],[]⟩ (IsRet (.bool (post.all fewPd))):=by
 intro post
 induction post with
 |nil=>
  intro i hd T hT
  have hge:=drop_ge hd
  exact goG 60 _ hT (.len (show lenA false (.sl .sh (s.pods.map encPd))=some (.int .i64 (↑s.pods.length))from len_map _)<|.no (decide_eq_false (p:=(↑i:Int)<(↑s.pods.length:Int)) (by omega))<|.fin ((.ret (.bool true),{boxes:=[[.sl .sh (s.nodes.map encN),.sl .sh (s.pods.map encPd),.sl .sh (s.buds.map encB)]],toks:=[],loops:=[]:Heap})) rfl) (by kernel_rfl)
 |cons x post ih=>
  intro i hd T hT
  have hlt:=drop_lt hd
  have hnx:=drop_next hd
  have hx:=fewPd_any x
  have hxi:idxA 11 (.sl .sh (s.pods.map encPd)) (.int .i64 (i:Nat))=some (.ref (encPd x).cells):=idx_row (f:=encPd) hd rfl
  rw[List.all_cons]
  cases hb:fewPd x with
  |true=>
   rw[hb]at hx
   exact goG 60 _ hT (.len (show lenA false (.sl .sh (s.pods.map encPd))=some (.int .i64 (↑s.pods.length))from len_map _)<|.yes (decide_eq_true (p:=(↑i:Int)<(↑s.pods.length:Int)) (by omega))<|.idx (show idxA 11 (.sl .sh (s.pods.map encPd)) (.int .i64 ↑i)=some (.ref (encPd x).cells)from hxi)<|.callI hx<|.ff<|.bin (show binA .add (.int .i64 ↑i) (.int .i64 1)=some (.int .i64 (↑(i+1)))from inc_i (by omega))<|.cutQ k30_1 [(1,.ptr 0 0),(4,.int .i64 (↑(i+1)))] ({boxes:=[[.sl .sh (s.nodes.map encN),.sl .sh (s.pods.map encPd),.sl .sh (s.buds.map encB)]],toks:=[],loops:=[]:Heap}) (fun T hT=>(ih (i+(1:Nat)) hnx T hT))) (by kernel_rfl)
  |false=>
   rw[hb]at hx
   exact goG 60 _ hT (.len (show lenA false (.sl .sh (s.pods.map encPd))=some (.int .i64 (↑s.pods.length))from len_map _)<|.yes (decide_eq_true (p:=(↑i:Int)<(↑s.pods.length:Int)) (by omega))<|.idx (show idxA 11 (.sl .sh (s.pods.map encPd)) (.int .i64 ↑i)=some (.ref (encPd x).cells)from hxi)<|.callI hx<|.tt<|.fin ((.ret (.bool false),{boxes:=[[.sl .sh (s.nodes.map encN),.sl .sh (s.pods.map encPd),.sl .sh (s.buds.map encB)]],toks:=[],loops:=[]:Heap})) rfl) (by kernel_rfl)
theorem fewSt_nodes(s:St)(hs:s.nodes.length≤34)(hp:s.pods.length≤130):∀(post:List Node)(i:Nat)(hd:s.nodes.drop i=post)(T:Env)(hT:Has T [(1,.ptr 0 0),(3,.int .i64 i)]),
 Goes cfg a30 k30_0 T ⟨[(encSt s).cells],[],[]⟩ (IsRet (.bool (post.all fewN&&s.pods.all fewPd))):=by
 intro post
 induction post with
 |nil=>
  intro i hd T hT
  have hge:=drop_ge hd
  have h2:=fewSt_pods s hp s.pods 0 rfl
  rw[show(([]:List Node).all fewN&&s.pods.all fewPd)=s.pods.all fewPd from rfl]
  exact goG 60 _ hT (.len (show lenA false (.sl .sh (s.nodes.map encN))=some (.int .i64 (↑s.nodes.length))from len_map _)<|.no (decide_eq_false (p:=(↑i:Int)<(↑s.nodes.length:Int)) (by omega))<|.cutQ k30_1 [(1,.ptr 0 0),(4,.int .i64 0)] ({boxes:=[[.sl .sh (s.nodes.map encN),.sl .sh (s.pods.map encPd),.sl .sh (s.buds.map encB)]],toks:=[],loops:=[]:Heap}) (fun T hT=>(h2 T hT))) (by kernel_rfl)
 |cons x post ih=>
  intro i hd T hT
  have hlt:=drop_lt hd
  have hnx:=drop_next hd
  have hx:=fewN_any x
  have hxi:idxA 5 (.sl .sh (s.nodes.map encN)) (.int .i64 (i:Nat))=some (.ref (encN x).cells):=idx_row (f:=encN) hd rfl
  rw[List.all_cons]
  cases hb:fewN x with
  |true=>
   rw[hb]at hx
   rw[Bool.true_and]
   exact goG 60 _ hT (.len (show lenA false (.sl .sh (s.nodes.map encN))=some (.int .i64 (↑s.nodes.length))from len_map _)<|.yes (decide_eq_true (p:=(↑i:Int)<(↑s.nodes.length:Int)) (by omega))<|.idx (show idxA 5 (.sl .sh (s.nodes.map encN)) (.int .i64 ↑i)=some (.ref (encN x).cells)from hxi)<|.callI hx<|.ff<|.bin (show binA .add (.int .i64 ↑i) (.int .i64 1)=some (.int .i64 (↑(i+1)))from inc_i (by omega))<|.cutQ k30_0 [(1,.ptr 0 0),(3,.int .i64 (↑(i+1)))] ({boxes:=[[.sl .sh (s.nodes.map encN),.sl .sh (s.pods.map encPd),.sl .sh (s.buds.map encB)]],toks:=[],loops:=[]:Heap}) (fun T hT=>(ih (i+(1:Nat)) hnx T hT))) (by kernel_rfl)
  |false=>
   rw[hb]at hx
   exact goG 60 _ hT (.len (show lenA false (.sl .sh (s.nodes.map encN))=some (.int .i64 (↑s.nodes.length))from len_map _)<|.yes (decide_eq_true (p:=(↑i:Int)<(↑s.nodes.length:Int)) (by omega))<|.idx (show idxA 5 (.sl .sh (s.nodes.map encN)) (.int .i64 ↑i)=some (.ref (encN x).cells)from hxi)<|.callI hx<|.tt<|.fin ((.ret (.bool false),{boxes:=[[.sl .sh (s.nodes.map encN),.sl .sh (s.pods.map encPd),.sl .sh (s.buds.map encB)]],toks:=[],loops:=[]:Heap})) rfl) (by kernel_rfl)
theorem fewSt_any(s:St):Gives cfg 30 [encSt s] (.bool (fewSt s)):=by
 refine Gives.run (l30 _ _) ?_
 have hb:=fewBs_any s.buds
 unfold fewSt
 by_cases h1:s.nodes.length≤34
 ·by_cases h2:s.pods.length≤130
  ·have h3:=fewSt_nodes s h1 h2 s.nodes 0 rfl
   rw[decide_eq_true h1,decide_eq_true h2,Bool.true_and,Bool.true_and]
   cases hq:fewBs s.buds with
   |true=>
    rw[hq]at hb
    rw[Bool.true_and]
    exact goG 90 [] trivial (.len (show lenA false (.sl .sh (s.nodes.map encN))=some (.int .i64 (↑s.nodes.length))from len_map _)<|.no (decide_eq_false (p:=(34:Int)<(↑s.nodes.length:Int)) (by omega))<|.len (show lenA false (.sl .sh (s.pods.map encPd))=some (.int .i64 (↑s.pods.length))from len_map _)<|.no (decide_eq_false (p:=(130:Int)<(↑s.pods.length:Int)) (by omega))<|.callI hb<|.ff<|.cutQ k30_0 [(1,.ptr 0 0),(3,.int .i64 0)] ({boxes:=[[.sl .sh (s.nodes.map encN),.sl .sh (s.pods.map encPd),.sl .sh (s.buds.map encB)]],toks:=[],loops:=[]:Heap}) (fun T hT=>(h3 T hT))) (by kernel_rfl)
   |false=>
    rw[hq]at hb
    exact goG 90 [] trivial (.len (show lenA false (.sl .sh (s.nodes.map encN))=some (.int .i64 (↑s.nodes.length))from len_map _)<|.no (decide_eq_false (p:=(34:Int)<(↑s.nodes.length:Int)) (by omega))<|.len (show lenA false (.sl .sh (s.pods.map encPd))=some (.int .i64 (↑s.pods.length))from len_map _)<|.no (decide_eq_false (p:=(130:Int)<(↑s.pods.length:Int)) (by omega))<|.callI hb<|.tt<|.fin ((.ret (.bool false),{boxes:=[[.sl .sh (s.nodes.map encN),.sl .sh (s.pods.map encPd),.sl .sh (s.buds.map encB)]],toks:=[],loops:=[]:Heap})) rfl) (by kernel_rfl)
  ·rw[decide_eq_false h2,Bool.false_and,Bool.and_false]
   exact goG 90 [] trivial (.len (show lenA false (.sl .sh (s.nodes.map encN))=some (.int .i64 (↑s.nodes.length))from len_map _)<|.no (decide_eq_false (p:=(34:Int)<(↑s.nodes.length:Int)) (by omega))<|.len (show lenA false (.sl .sh (s.pods.map encPd))=some (.int .i64 (↑s.pods.length))from len_map _)<|.yes (decide_eq_true (p:=(130:Int)<(↑s.pods.length:Int)) (by omega))<|.tt<|.fin ((.ret (.bool false),{boxes:=[[.sl .sh (s.nodes.map encN),.sl .sh (s.pods.map encPd),.sl .sh (s.buds.map encB)]],toks:=[],loops:=[]:Heap})) rfl) (by kernel_rfl)
 ·rw[decide_eq_false h1,Bool.false_and]
  exact goG 90 [] trivial (.len (show lenA false (.sl .sh (s.nodes.map encN))=some (.int .i64 (↑s.nodes.length))from len_map _)<|.yes (decide_eq_true (p:=(34:Int)<(↑s.nodes.length:Int)) (by omega))<|.tt<|.tt<|.fin ((.ret (.bool false),{boxes:=[[.sl .sh (s.nodes.map encN),.sl .sh (s.pods.map encPd),.sl .sh (s.buds.map encB)]],toks:=[],loops:=[]:Heap})) rfl) (by kernel_rfl)
theorem ofSt_any(s:St)(h:FewS s):Gives cfg 20 [encSt s] (encSt s):=by
 refine Gives.run (l20 _ _) ?_
 have h1:=ofNs_any s.nodes (by have:=h.nodes;omega) h.node
 have h2:=ofPds_any s.pods (by have:=h.pods;omega) h.pod
 have h3:=ofBs_any s.buds (fewBs_len h.buds) (fewBs_all h.buds)
 exact let ζ1:List AV:=[.sl .sh (s.nodes.map encN),.sl .sh (s.pods.map encPd),.sl .sh (s.buds.map encB)];goG 90 [] trivial (.callG ([.sl .sh (s.nodes.map encN)]) (.sl .sh (s.nodes.map encN)) (show Gives cfg (74:FuncId) [.sl .sh (s.nodes.map encN)] (rowS Heap.nil (s.nodes.map encN))from h1) ⟨rfl,rfl⟩ Res.p<|.callG ([.sl .sh (s.pods.map encPd)]) (.sl .sh (s.pods.map encPd)) (show Gives cfg (75:FuncId) [.sl .sh (s.pods.map encPd)] (rowS Heap.nil (s.pods.map encPd))from h2) ⟨rfl,rfl⟩ Res.p<|.callG ([.sl .sh (s.buds.map encB)]) (.sl .sh (s.buds.map encB)) (show Gives cfg (76:FuncId) [.sl .sh (s.buds.map encB)] (rowS Heap.nil (s.buds.map encB))from h3) ⟨rfl,rfl⟩ Res.p<|.fin ((.ret (.agg ζ1),{boxes:=[ζ1,ζ1],toks:=[],loops:=[]:Heap})) rfl) (by kernel_rfl)
def podsE(s:St):List Pod→Int
 |[]=>0
 |p::r=>if p.node≠[]∧findG Node.name s.nodes p.node=none then 3 else podsE s r
def roomE(s:St):List Node→Int
 |[]=>0
 |n::r=>if(usedS s n.name).2=0 then(if fitsV (usedS s n.name).1 n.cap=true then roomE s r else 7)else(usedS s n.name).2
def ckSt(s:St):Int:=firstE [ckAll 32 ckN Node.name s.nodes,ckAll 128 ckPd Pod.name s.pods,ckAll 8 ckB Bud.name s.buds,podsE s s.pods,roomE s s.nodes,(totalS s).2]
def ChkR(e:Int)(r:ARes×Heap):Prop:=(e=0∧r.1=.ret (.tuple []))∨(e≠0∧r.1=.pan (stopV e))
theorem firstE_cons(a:Int)(l:List Int):firstE (a::l)=if a=0 then firstE l else a:=rfl
def roomR(s:St):List Node→Int
 |[]=>0
 |n::r=>if(usedR s n.name).2=0 then(if fitsV (usedR s n.name).1 n.cap=true then roomR s r else 7)else(usedR s n.name).2
def ckStR(s:St):Int:=firstE [ckAll 32 ckN Node.name s.nodes,ckAll 128 ckPd Pod.name s.pods,ckAll 8 ckB Bud.name s.buds,podsE s s.pods,roomR s s.nodes,(totalS s).2]
theorem room_same(s:St):∀l:List Node,(∀n∈l,n.name≠[])→roomR s l=roomE s l
 |[],_=>rfl
 |n::l,h=>by
  unfold roomR roomE
  rw[used_same s (h n (by simp)),room_same s l fun m hm=>h m (by simp[hm])]
theorem ckR_room(s:St)(hs:StIn s):∀(post:List Node)(i:Nat)(hd:s.nodes.drop i=post)(ex:List (List AV))(T:Env)
 (hT:Has T [(1,.ptr 0 0),(7,.int .i64 i)]),
 Goes cfg a31 k31_1 T ⟨(encSt s).cells::ex,[],[]⟩ (IsRet (.int .i64 (firstE [roomR s post,(totalS s).2]))):=by
 intro post
 induction post with
 |nil=>
  intro i hd ex T hT
  have hge:=drop_ge hd
  have hn:=hs.nodes
  obtain⟨c,h1⟩:=total_ref s hs
  have e:firstE [roomR s [],(totalS s).2]=(totalS s).2:=by
   simp only[roomR,firstE,if_true];split<;>simp_all
  rw[e]
  generalize totalS s=z at h1⊢
  exact let ζ1:List AV:=[.sl .sh (s.nodes.map encN),.sl .sh (s.pods.map encPd),.sl .sh (s.buds.map encB)];let ζ2:Heap:={boxes:=ζ1::ex,toks:=[],loops:=[]:Heap};goG 90 _ hT (.load (show loadA false 1 ζ2 (.ptr 0 0)=some (.sl .sh (s.nodes.map encN))from load_box (cs:=ζ1) (by simp+zetaDelta) rfl)<|.len (show lenA false (.sl .sh (s.nodes.map encN))=some (.int .i64 (↑s.nodes.length))from len_map _)<|.no (decide_eq_false (p:=(↑i:Int)<(↑s.nodes.length:Int)) (by omega))<|.load (show loadA true 3 ζ2 (.ptr 0 0)=some (.agg ζ1)from load_box (cs:=ζ1) (by simp+zetaDelta) rfl)<|.callG ([.agg ζ1]) (.tuple [.sl .sh (z.fst.map encA),.int .i64 z.snd]) (show Gives cfg (40:FuncId) [encSt s] (resV c z)from h1) ⟨rfl,rfl⟩ Res.p<|.fin ((.ret (.int .i64 z.snd),ζ2)) rfl) (by kernel_rfl)
 |cons x post ih=>
  intro i hd ex T hT
  have hlt:=drop_lt hd
  have hnx:=drop_next hd
  have hn:=hs.nodes
  have hxi:idxA 5 (.sl .sh (s.nodes.map encN)) (.int .i64 (i:Nat))=some (.ref (encN x).cells):=idx_row (f:=encN) hd rfl
  obtain⟨c,h1⟩:=used_ref s x.name hs
  have hin:=usedR_in s x.name
  have hx:=hs.cap x (drop_mem hd)
  have e:roomR s (x::post)=if(usedR s x.name).2=0 then(if fitsV (usedR s x.name).1 x.cap=true then roomR s post else 7)else(usedR s x.name).2:=rfl
  rw[firstE_cons]
  have h3:=fits_ref (usedR s x.name).1 x.cap (by omega) hx.len
  by_cases h0:(usedR s x.name).2=0
  ·rw[if_pos h0]at e
   cases hb:fitsV (usedR s x.name).1 x.cap with
   |true=>
    rw[hb]at h3 e
    rw[if_pos rfl]at e
    rw[e]
    generalize usedR s x.name=z at h1 h3 h0
    obtain⟨w,er⟩:=z
    simp only at h0 h3
    subst h0
    have ih':=ih (i+1) hnx ex
    rw[firstE_cons]at ih'
    exact let ζ1:List AV:=[.sl .sh (s.nodes.map encN),.sl .sh (s.pods.map encPd),.sl .sh (s.buds.map encB)];let ζ2:Heap:={boxes:=ζ1::ex,toks:=[],loops:=[]:Heap};goG 120 _ hT (.load (show loadA false 1 ζ2 (.ptr 0 0)=some (.sl .sh (s.nodes.map encN))from load_box (cs:=ζ1) (by simp+zetaDelta) rfl)<|.len (show lenA false (.sl .sh (s.nodes.map encN))=some (.int .i64 (↑s.nodes.length))from len_map _)<|.yes (decide_eq_true (p:=(↑i:Int)<(↑s.nodes.length:Int)) (by omega))<|.load (show loadA true 3 ζ2 (.ptr 0 0)=some (.agg ζ1)from load_box (cs:=ζ1) (by simp+zetaDelta) rfl)<|.load (show loadA false 1 ζ2 (.ptr 0 0)=some (.sl .sh (s.nodes.map encN))from load_box (cs:=ζ1) (by simp+zetaDelta) rfl)<|.idx (show idxA 5 (.sl .sh (s.nodes.map encN)) (.int .i64 ↑i)=some (.ref (encN x).cells)from hxi)<|.load (rfl:loadA false 1 ζ2 (.ref [.str x.name])=some (.str x.name))<|.callG ([.agg ζ1,.str x.name]) (.tuple [.sl .sh (List.map encA (w,(0:Int)).fst),.int .i64 (w,(0:Int)).snd]) (show Gives cfg (34:FuncId) [encSt s,.str x.name] (resV c (w,(0:Int)))from h1) ⟨rfl,rfl⟩ Res.p<|.ff<|.load (show loadA false 1 ζ2 (.ptr 0 0)=some (.sl .sh (s.nodes.map encN))from load_box (cs:=ζ1) (by simp+zetaDelta) rfl)<|.idx (show idxA 5 (.sl .sh (s.nodes.map encN)) (.int .i64 ↑i)=some (.ref (encN x).cells)from hxi)<|.load (rfl:loadA false 1 ζ2 (.ref [.sl .sh (x.cap.map encA)])=some (.sl .sh (x.cap.map encA)))<|.callI h3<|.ff<|.bin (show binA .add (.int .i64 ↑i) (.int .i64 1)=some (.int .i64 (↑(i+1)))from inc_i (by omega))<|.cutQ k31_1 [(1,.ptr 0 0),(7,.int .i64 (↑(i+1)))] (ζ2) (fun T hT=>(ih' T hT))) (by kernel_rfl)
   |false=>
    rw[hb]at h3 e
    rw[if_neg (by decide)]at e
    rw[e,if_neg (by decide)]
    generalize usedR s x.name=z at h1 h3 h0
    obtain⟨w,er⟩:=z
    simp only at h0 h3
    subst h0
    exact let ζ1:List AV:=[.sl .sh (s.nodes.map encN),.sl .sh (s.pods.map encPd),.sl .sh (s.buds.map encB)];let ζ2:Heap:={boxes:=ζ1::ex,toks:=[],loops:=[]:Heap};goG 120 _ hT (.load (show loadA false 1 ζ2 (.ptr 0 0)=some (.sl .sh (s.nodes.map encN))from load_box (cs:=ζ1) (by simp+zetaDelta) rfl)<|.len (show lenA false (.sl .sh (s.nodes.map encN))=some (.int .i64 (↑s.nodes.length))from len_map _)<|.yes (decide_eq_true (p:=(↑i:Int)<(↑s.nodes.length:Int)) (by omega))<|.load (show loadA true 3 ζ2 (.ptr 0 0)=some (.agg ζ1)from load_box (cs:=ζ1) (by simp+zetaDelta) rfl)<|.load (show loadA false 1 ζ2 (.ptr 0 0)=some (.sl .sh (s.nodes.map encN))from load_box (cs:=ζ1) (by simp+zetaDelta) rfl)<|.idx (show idxA 5 (.sl .sh (s.nodes.map encN)) (.int .i64 ↑i)=some (.ref (encN x).cells)from hxi)<|.load (rfl:loadA false 1 ζ2 (.ref [.str x.name])=some (.str x.name))<|.callG ([.agg ζ1,.str x.name]) (.tuple [.sl .sh (List.map encA (w,(0:Int)).fst),.int .i64 (w,(0:Int)).snd]) (show Gives cfg (34:FuncId) [encSt s,.str x.name] (resV c (w,(0:Int)))from h1) ⟨rfl,rfl⟩ Res.p<|.ff<|.load (show loadA false 1 ζ2 (.ptr 0 0)=some (.sl .sh (s.nodes.map encN))from load_box (cs:=ζ1) (by simp+zetaDelta) rfl)<|.idx (show idxA 5 (.sl .sh (s.nodes.map encN)) (.int .i64 ↑i)=some (.ref (encN x).cells)from hxi)<|.load (rfl:loadA false 1 ζ2 (.ref [.sl .sh (x.cap.map encA)])=some (.sl .sh (x.cap.map encA)))<|.callI h3<|.tt<|.fin ((.ret (.int .i64 7),ζ2)) rfl) (by kernel_rfl)
  ·rw[if_neg h0]at e
   rw[e,if_neg h0]
   generalize usedR s x.name=z at h1 h3 h0⊢
   obtain⟨w,er⟩:=z
   simp only at h0 h3⊢
   exact let ζ1:List AV:=[.sl .sh (s.nodes.map encN),.sl .sh (s.pods.map encPd),.sl .sh (s.buds.map encB)];let ζ2:Heap:={boxes:=ζ1::ex,toks:=[],loops:=[]:Heap};goG 120 _ hT (.load (show loadA false 1 ζ2 (.ptr 0 0)=some (.sl .sh (s.nodes.map encN))from load_box (cs:=ζ1) (by simp+zetaDelta) rfl)<|.len (show lenA false (.sl .sh (s.nodes.map encN))=some (.int .i64 (↑s.nodes.length))from len_map _)<|.yes (decide_eq_true (p:=(↑i:Int)<(↑s.nodes.length:Int)) (by omega))<|.load (show loadA true 3 ζ2 (.ptr 0 0)=some (.agg ζ1)from load_box (cs:=ζ1) (by simp+zetaDelta) rfl)<|.load (show loadA false 1 ζ2 (.ptr 0 0)=some (.sl .sh (s.nodes.map encN))from load_box (cs:=ζ1) (by simp+zetaDelta) rfl)<|.idx (show idxA 5 (.sl .sh (s.nodes.map encN)) (.int .i64 ↑i)=some (.ref (encN x).cells)from hxi)<|.load (rfl:loadA false 1 ζ2 (.ref [.str x.name])=some (.str x.name))<|.callG ([.agg ζ1,.str x.name]) (.tuple [.sl .sh (List.map encA (w,er).fst),.int .i64 (w,er).snd]) (show Gives cfg (34:FuncId) [encSt s,.str x.name] (resV c (w,er))from h1) ⟨rfl,rfl⟩ Res.p<|.yes (show((w,er).snd !=(0:Int))=true from(by simpa using h0))<|.fin ((.ret (.int .i64 (w,er).snd),ζ2)) rfl) (by kernel_rfl)
theorem ckR_pods(s:St)(hs:StIn s):∀(post:List Pod)(i:Nat)(hd:s.pods.drop i=post)(ex:List (List AV))(T:Env)
 (hT:Has T [(1,.ptr 0 0),(4,.int .i64 i)]),
 Goes cfg a31 k31_0 T ⟨(encSt s).cells::ex,[],[]⟩ (IsRet (.int .i64 (firstE [podsE s post,roomR s s.nodes,(totalS s).2]))):=by
 intro post
 induction post with
 |nil=>
  intro i hd ex T hT
  have hge:=drop_ge hd
  have hp:=hs.pods
  have h1:=ckR_room s hs s.nodes 0 rfl ex
  have e:firstE [podsE s [],roomR s s.nodes,(totalS s).2]=firstE [roomR s s.nodes,(totalS s).2]:=rfl
  rw[e]
  exact let ζ1:List AV:=[.sl .sh (s.nodes.map encN),.sl .sh (s.pods.map encPd),.sl .sh (s.buds.map encB)];let ζ2:Heap:={boxes:=ζ1::ex,toks:=[],loops:=[]:Heap};goG 90 _ hT (.load (show loadA false 1 ζ2 (.ptr 0 1)=some (.sl .sh (s.pods.map encPd))from load_box (cs:=ζ1) (by simp+zetaDelta) rfl)<|.len (show lenA false (.sl .sh (s.pods.map encPd))=some (.int .i64 (↑s.pods.length))from len_map _)<|.no (decide_eq_false (p:=(↑i:Int)<(↑s.pods.length:Int)) (by omega))<|.cutQ k31_1 [(1,.ptr 0 0),(7,.int .i64 0)] (ζ2) (fun T hT=>(h1 T hT))) (by kernel_rfl)
 |cons x post ih=>
  intro i hd ex T hT
  have hlt:=drop_lt hd
  have hnx:=drop_next hd
  have hp:=hs.pods
  have hxi:idxA 11 (.sl .sh (s.pods.map encPd)) (.int .i64 (i:Nat))=some (.ref (encPd x).cells):=idx_row (f:=encPd) hd rfl
  have h1:=findN_ref s.nodes x.node hs.nodes
  have e:podsE s (x::post)=if x.node≠[]∧findG Node.name s.nodes x.node=none then 3 else podsE s post:=rfl
  rw[firstE_cons]
  by_cases hn:x.node=[]
  ·have e':podsE s (x::post)=podsE s post:=by rw[e,if_neg (by simp[hn])]
   rw[e']
   have ih':=ih (i+1) hnx ex
   rw[firstE_cons]at ih'
   exact let ζ1:List AV:=[.sl .sh (s.nodes.map encN),.sl .sh (s.pods.map encPd),.sl .sh (s.buds.map encB)];let ζ2:Heap:={boxes:=ζ1::ex,toks:=[],loops:=[]:Heap};goG 120 _ hT (.load (show loadA false 1 ζ2 (.ptr 0 1)=some (.sl .sh (s.pods.map encPd))from load_box (cs:=ζ1) (by simp+zetaDelta) rfl)<|.len (show lenA false (.sl .sh (s.pods.map encPd))=some (.int .i64 (↑s.pods.length))from len_map _)<|.yes (decide_eq_true (p:=(↑i:Int)<(↑s.pods.length:Int)) (by omega))<|.load (show loadA false 1 ζ2 (.ptr 0 1)=some (.sl .sh (s.pods.map encPd))from load_box (cs:=ζ1) (by simp+zetaDelta) rfl)<|.idx (show idxA 11 (.sl .sh (s.pods.map encPd)) (.int .i64 ↑i)=some (.ref (encPd x).cells)from hxi)<|.load (rfl:loadA false 1 ζ2 (.ref [.str x.node])=some (.str x.node))<|.yes (show(x.node==[])=true from(by simpa using hn))<|.bin (show binA .add (.int .i64 ↑i) (.int .i64 1)=some (.int .i64 (↑(i+1)))from inc_i (by omega))<|.cutQ k31_0 [(1,.ptr 0 0),(4,.int .i64 (↑(i+1)))] (ζ2) (fun T hT=>(ih' T hT))) (by kernel_rfl)
  ·cases hf:findG Node.name s.nodes x.node with
   |none=>
    rw[hf]at h1
    have e':podsE s (x::post)=3:=by rw[e,if_pos ⟨hn,hf⟩]
    rw[e',if_neg (by decide)]
    exact let ζ1:List AV:=[.sl .sh (s.nodes.map encN),.sl .sh (s.pods.map encPd),.sl .sh (s.buds.map encB)];let ζ2:Heap:={boxes:=ζ1::(ex++[[AV.str [],.sl .full [],.sl .full [],.sl .full [],.bool false]]),toks:=[],loops:=[]:Heap};let ζ3:List AV:=[.str [],.sl .sh [],.sl .sh [],.sl .sh [],.bool false];let ζ4:Heap:={boxes:=ζ1::ex,toks:=[],loops:=[]:Heap};let ζ5:Heap:={boxes:=ζ1::(ex++[ζ3]),toks:=[],loops:=[]:Heap};let ζ6:List AV:=[.sl .sh (s.nodes.map encN),.str x.node];goG 120 _ hT (.load (show loadA false 1 ζ4 (.ptr 0 1)=some (.sl .sh (s.pods.map encPd))from load_box (cs:=ζ1) (by simp+zetaDelta) rfl)<|.len (show lenA false (.sl .sh (s.pods.map encPd))=some (.int .i64 (↑s.pods.length))from len_map _)<|.yes (decide_eq_true (p:=(↑i:Int)<(↑s.pods.length:Int)) (by omega))<|.load (show loadA false 1 ζ4 (.ptr 0 1)=some (.sl .sh (s.pods.map encPd))from load_box (cs:=ζ1) (by simp+zetaDelta) rfl)<|.idx (show idxA 11 (.sl .sh (s.pods.map encPd)) (.int .i64 ↑i)=some (.ref (encPd x).cells)from hxi)<|.load (rfl:loadA false 1 ζ4 (.ref [.str x.node])=some (.str x.node))<|.no (show(x.node==[])=false from Bool.eq_false_iff.2 (by simpa using hn))<|.load (show loadA false 1 ζ2 (.ptr 0 0)=some (.sl .sh (s.nodes.map encN))from load_box (cs:=ζ1) (by simp+zetaDelta) rfl)<|.load (show loadA false 1 ζ2 (.ptr 0 1)=some (.sl .sh (s.pods.map encPd))from load_box (cs:=ζ1) (by simp+zetaDelta) rfl)<|.idx (show idxA 11 (.sl .sh (s.pods.map encPd)) (.int .i64 ↑i)=some (.ref (encPd x).cells)from hxi)<|.load (rfl:loadA false 1 ζ2 (.ref [.str x.node])=some (.str x.node))<|.callK (ζ6) (.tuple [.agg ζ3,.bool false]) (show Gives cfg (84:FuncId) ζ6 (findNV none)from h1)<|.store (show storeA 5 ζ2 (.ptr (ζ1::ex).length (0:Nat)) (.agg ζ3)=some (ζ5)from store_box2 (cs:=[.str [],.sl .full [],.sl .full [],.sl .full [],.bool false]) (cs':=ζ3) (by simp+zetaDelta) rfl (by simp+zetaDelta [List.set_append]))<|.tt<|.fin ((.ret (.int .i64 3),ζ5)) rfl) (by kernel_rfl)
   |some n=>
    rw[hf]at h1
    have e':podsE s (x::post)=podsE s post:=by rw[e,if_neg (by simp[hf])]
    rw[e']
    have ih':=ih (i+1) hnx (ex++[(encN n).cells])
    rw[firstE_cons]at ih'
    exact let ζ1:List AV:=[.sl .sh (s.nodes.map encN),.sl .sh (s.pods.map encPd),.sl .sh (s.buds.map encB)];let ζ2:List AV:=[.str n.name,.sl .sh (n.cap.map encA),.sl .sh (n.labels.map encP),.sl .sh (n.taints.map encT),.bool n.cordon];let ζ3:Heap:={boxes:=ζ1::(ex++[[AV.str [],.sl .full [],.sl .full [],.sl .full [],.bool false]]),toks:=[],loops:=[]:Heap};let ζ4:Heap:={boxes:=ζ1::ex,toks:=[],loops:=[]:Heap};let ζ5:Heap:={boxes:=ζ1::(ex++[ζ2]),toks:=[],loops:=[]:Heap};let ζ6:List AV:=[.sl .sh (s.nodes.map encN),.str x.node];goG 120 _ hT (.load (show loadA false 1 ζ4 (.ptr 0 1)=some (.sl .sh (s.pods.map encPd))from load_box (cs:=ζ1) (by simp+zetaDelta) rfl)<|.len (show lenA false (.sl .sh (s.pods.map encPd))=some (.int .i64 (↑s.pods.length))from len_map _)<|.yes (decide_eq_true (p:=(↑i:Int)<(↑s.pods.length:Int)) (by omega))<|.load (show loadA false 1 ζ4 (.ptr 0 1)=some (.sl .sh (s.pods.map encPd))from load_box (cs:=ζ1) (by simp+zetaDelta) rfl)<|.idx (show idxA 11 (.sl .sh (s.pods.map encPd)) (.int .i64 ↑i)=some (.ref (encPd x).cells)from hxi)<|.load (rfl:loadA false 1 ζ4 (.ref [.str x.node])=some (.str x.node))<|.no (show(x.node==[])=false from Bool.eq_false_iff.2 (by simpa using hn))<|.load (show loadA false 1 ζ3 (.ptr 0 0)=some (.sl .sh (s.nodes.map encN))from load_box (cs:=ζ1) (by simp+zetaDelta) rfl)<|.load (show loadA false 1 ζ3 (.ptr 0 1)=some (.sl .sh (s.pods.map encPd))from load_box (cs:=ζ1) (by simp+zetaDelta) rfl)<|.idx (show idxA 11 (.sl .sh (s.pods.map encPd)) (.int .i64 ↑i)=some (.ref (encPd x).cells)from hxi)<|.load (rfl:loadA false 1 ζ3 (.ref [.str x.node])=some (.str x.node))<|.callK (ζ6) (.tuple [.agg ζ2,.bool true]) (show Gives cfg (84:FuncId) ζ6 (findNV (some n))from h1)<|.store (show storeA 5 ζ3 (.ptr (ζ1::ex).length (0:Nat)) (.agg ζ2)=some (ζ5)from store_box2 (cs:=[.str [],.sl .full [],.sl .full [],.sl .full [],.bool false]) (cs':=ζ2) (by simp+zetaDelta) rfl (by simp+zetaDelta [List.set_append]))<|.ff<|.bin (show binA .add (.int .i64 ↑i) (.int .i64 1)=some (.int .i64 (↑(i+1)))from inc_i (by omega))<|.cutQ k31_0 [(1,.ptr 0 0),(4,.int .i64 (↑(i+1)))] (ζ5) (fun T hT=>(ih' T hT))) (by kernel_rfl)
theorem ckStR_ref(s:St)(hs:StIn s):Gives cfg 31 [encSt s] (.int .i64 (ckStR s)):=by
 refine Gives.run (l31 _ _) ?_
 have c1:=ckNs_ref s.nodes
 have c2:=ckPds_ref s.pods
 have c3:=ckBs_ref s.buds
 have h:=ckR_pods s hs s.pods 0 rfl []
 unfold ckStR
 generalize ckAll 32 ckN Node.name s.nodes=e1 at c1⊢
 generalize ckAll 128 ckPd Pod.name s.pods=e2 at c2⊢
 generalize ckAll 8 ckB Bud.name s.buds=e3 at c3⊢
 rw[firstE_cons]
 by_cases h1:e1=0
 ·subst h1
  rw[if_pos rfl,firstE_cons]
  by_cases h2:e2=0
  ·subst h2
   rw[if_pos rfl,firstE_cons]
   by_cases h3:e3=0
   ·subst h3
    rw[if_pos rfl]
    exact goG 90 [] trivial (.callI c1<|.ff<|.callI c2<|.ff<|.callI c3<|.ff<|.cutQ k31_0 [(1,.ptr 0 0),(4,.int .i64 0)] ({boxes:=[[.sl .sh (s.nodes.map encN),.sl .sh (s.pods.map encPd),.sl .sh (s.buds.map encB)]],toks:=[],loops:=[]:Heap}) (fun T hT=>(h T hT))) (by kernel_rfl)
   ·rw[if_neg h3]
    exact goG 90 [] trivial (.callI c1<|.ff<|.callI c2<|.ff<|.callI c3<|.yes (show(e3 !=(0:Int))=true from(by simpa using h3))<|.fin ((.ret (.int .i64 e3),{boxes:=[[.sl .sh (s.nodes.map encN),.sl .sh (s.pods.map encPd),.sl .sh (s.buds.map encB)]],toks:=[],loops:=[]:Heap})) rfl) (by kernel_rfl)
  ·rw[if_neg h2]
   exact goG 90 [] trivial (.callI c1<|.ff<|.callI c2<|.yes (show(e2 !=(0:Int))=true from(by simpa using h2))<|.fin ((.ret (.int .i64 e2),{boxes:=[[.sl .sh (s.nodes.map encN),.sl .sh (s.pods.map encPd),.sl .sh (s.buds.map encB)]],toks:=[],loops:=[]:Heap})) rfl) (by kernel_rfl)
 ·rw[if_neg h1]
  exact goG 90 [] trivial (.callI c1<|.yes (show(e1 !=(0:Int))=true from(by simpa using h1))<|.fin ((.ret (.int .i64 e1),{boxes:=[[.sl .sh (s.nodes.map encN),.sl .sh (s.pods.map encPd),.sl .sh (s.buds.map encB)]],toks:=[],loops:=[]:Heap})) rfl) (by kernel_rfl)
theorem ckAll_mem{X:Type}{most:Nat}{ck:X→Int}{nm:X→List UInt8}{s:List X}(h:ckAll most ck nm s=0):s.length≤most∧∀x∈s,ck x=0:=by
 unfold ckAll at h
 split at h
 ·rename_i hl
  refine⟨hl,?_⟩
  have key:∀(post:List X)(i:Nat),ckAl ck nm s i post=0→∀x∈post,ck x=0:=by
   intro post
   induction post with
   |nil=>intro i _ x hx;cases hx
   |cons y post ih=>
    intro i h x hx
    unfold ckAl at h
    split at h
    ·rename_i h0
     split at h
     ·cases h
     ·rcases List.mem_cons.1 hx with rfl|hx
      ·exact h0
      ·exact ih _ h x hx
    ·rename_i h0;exact absurd h h0
  exact key s 0 h
 ·cases h
theorem ckN_name{n:Node}(h:ckN n=0):n.name≠[]:=by
 intro e
 have:=firstE_zero h (if isName n.name then 0 else 3) (by simp)
 rw[e]at this
 simp[isName]at this
theorem ck_same(s:St):ckStR s=ckSt s:=by
 unfold ckStR ckSt
 by_cases h:ckAll 32 ckN Node.name s.nodes=0
 ·rw[room_same s s.nodes fun n hn=>ckN_name ((ckAll_mem h).2 n hn)]
 ·simp[firstE,h]
theorem ckSt_ref(s:St)(hs:StIn s):Gives cfg 31 [encSt s] (.int .i64 (ckSt s)):=by
 have:=ckStR_ref s hs
 rwa [ck_same]at this
structure RgS(s:St):Prop where
 cap:∀n∈s.nodes,rgA n.cap
 need:∀p∈s.pods,rgA p.need
theorem stIn{s:St}(h:FewS s)(r:RgS s):StIn s:=
 ⟨by have:=h.nodes;omega,by have:=h.pods;omega,fun n hn=>⟨by have:=(fewNd (h.node n hn)).cap;omega,r.cap n hn⟩,fun p hp=>⟨by have:=(fewPod (h.pod p hp)).need;omega,r.need p hp⟩⟩
theorem good_any(s:St)(r:RgS s):Gives cfg 16 [encSt s] (.bool (fewSt s&&ckSt s==0)):=by
 refine Gives.run (l16 _ _) ?_
 have h1:=fewSt_any s
 cases hf:fewSt s with
 |false=>
  rw[hf]at h1
  exact let ζ1:List AV:=[.sl .sh (s.nodes.map encN),.sl .sh (s.pods.map encPd),.sl .sh (s.buds.map encB)];goG 60 [] trivial (.callI h1<|.ff<|.fin ((.ret (.bool false),{boxes:=[ζ1],toks:=[],loops:=[]:Heap})) rfl) (by kernel_rfl)
 |true=>
  rw[hf]at h1
  have fs:=fewS hf
  have h2:=ofSt_any s fs
  have h3:=ckSt_ref s (stIn fs r)
  rw[Bool.true_and]
  exact let ζ1:List AV:=[.sl .sh (s.nodes.map encN),.sl .sh (s.pods.map encPd),.sl .sh (s.buds.map encB)];goG 60 [] trivial (.callI h1<|.tt<|.callI h2<|.callI h3<|.fin ((.ret (.bool (ckSt s==(0:Int))),{boxes:=[ζ1],toks:=[],loops:=[]:Heap})) rfl) (by kernel_rfl)
end Go.Aa.T
set_option linter.unusedVariables false
set_option linter.unusedSimpArgs false
set_option maxRecDepth 100000
namespace Go.Aa.T
open Go.Aa Go.Proofs
structure SmN(n:Node):Prop where
 cap:n.cap.length<9223372036854775807
 labels:n.labels.length<9223372036854775807
 taints:n.taints.length<9223372036854775807
structure SmP(p:Pod):Prop where
 need:p.need.length<9223372036854775807
 labels:p.labels.length<9223372036854775807
 sel:p.sel.length<9223372036854775807
 tols:p.tols.length<9223372036854775807
structure SmS(s:St):Prop where
 nodes:s.nodes.length<9223372036854775807
 pods:s.pods.length<9223372036854775807
 buds:s.buds.length<9223372036854775807
 node:∀x∈s.nodes,SmN x
 pod:∀x∈s.pods,SmP x
 bud:∀x∈s.buds,x.sel.length<9223372036854775807
end Go.Aa.T
set_option linter.unusedVariables false
set_option linter.unusedSimpArgs false
set_option maxRecDepth 100000
namespace Go.Aa.T
open Go.Aa Go.Proofs
theorem map_of2{α:Type}{f:α→AV}{Q:AV→Prop}{S:α→Prop}(h:∀y,Q y→∃x,y=f x∧S x):∀(l:List AV),(∀y∈l,Q y)→∃t:List α,l=t.map f∧∀x∈t,S x
 |[],_=>⟨[],rfl,by simp⟩
 |y::l,hl=>by
  obtain⟨x,rfl,hx⟩:=h y (hl y (by simp))
  obtain⟨t,rfl,ht⟩:=map_of2 h l (fun z hz=>hl z (by simp[hz]))
  exact⟨x::t,rfl,by simpa using⟨hx,ht⟩⟩
theorem i64_range{m:Int}(h:(Lit.int .i64 m).wf=true): -9223372036854775808≤m∧m≤9223372036854775807:=by
 have h':IntKind.i64.min≤m∧m≤IntKind.i64.max:=by simpa[Lit.wf,IntKind.has]using h
 have e1:IntKind.i64.min= -9223372036854775808:=rfl
 have e2:IntKind.i64.max=9223372036854775807:=rfl
 omega
theorem tys2{R:TypeId→List AV→Prop}{f1 f2:Field}{cs:List AV}(h:Tys R (#[f1,f2]:Array Field).toList cs):∃a1 a2,cs=a1++(a2)∧R f1.type a1∧R f2.type a2:=by
 obtain⟨a1,b1,rfl,h1,a2,b2,rfl,h2,e⟩:=(show Tys R [f1,f2] cs from h)
 cases e
 exact⟨a1,a2,by simp,h1,h2⟩
theorem tys3{R:TypeId→List AV→Prop}{f1 f2 f3:Field}{cs:List AV}(h:Tys R (#[f1,f2,f3]:Array Field).toList cs):∃a1 a2 a3,cs=a1++(a2++(a3))∧R f1.type a1∧R f2.type a2∧R f3.type a3:=by
 obtain⟨a1,b1,rfl,h1,a2,b2,rfl,h2,a3,b3,rfl,h3,e⟩:=(show Tys R [f1,f2,f3] cs from h)
 cases e
 exact⟨a1,a2,a3,by simp,h1,h2,h3⟩
theorem tys5{R:TypeId→List AV→Prop}{f1 f2 f3 f4 f5:Field}{cs:List AV}(h:Tys R (#[f1,f2,f3,f4,f5]:Array Field).toList cs):∃a1 a2 a3 a4 a5,cs=a1++(a2++(a3++(a4++(a5))))∧R f1.type a1∧R f2.type a2∧R f3.type a3∧R f4.type a4∧R f5.type a5:=by
 obtain⟨a1,b1,rfl,h1,a2,b2,rfl,h2,a3,b3,rfl,h3,a4,b4,rfl,h4,a5,b5,rfl,h5,e⟩:=(show Tys R [f1,f2,f3,f4,f5] cs from h)
 cases e
 exact⟨a1,a2,a3,a4,a5,by simp,h1,h2,h3,h4,h5⟩
theorem tys11{R:TypeId→List AV→Prop}{f1 f2 f3 f4 f5 f6 f7 f8 f9 f10 f11:Field}{cs:List AV}(h:Tys R (#[f1,f2,f3,f4,f5,f6,f7,f8,f9,f10,f11]:Array Field).toList cs):∃a1 a2 a3 a4 a5 a6 a7 a8 a9 a10 a11,cs=a1++(a2++(a3++(a4++(a5++(a6++(a7++(a8++(a9++(a10++(a11))))))))))∧R f1.type a1∧R f2.type a2∧R f3.type a3∧R f4.type a4∧R f5.type a5∧R f6.type a6∧R f7.type a7∧R f8.type a8∧R f9.type a9∧R f10.type a10∧R f11.type a11:=by
 obtain⟨a1,b1,rfl,h1,a2,b2,rfl,h2,a3,b3,rfl,h3,a4,b4,rfl,h4,a5,b5,rfl,h5,a6,b6,rfl,h6,a7,b7,rfl,h7,a8,b8,rfl,h8,a9,b9,rfl,h9,a10,b10,rfl,h10,a11,b11,rfl,h11,e⟩:=(show Tys R [f1,f2,f3,f4,f5,f6,f7,f8,f9,f10,f11] cs from h)
 cases e
 exact⟨a1,a2,a3,a4,a5,a6,a7,a8,a9,a10,a11,by simp,h1,h2,h3,h4,h5,h6,h7,h8,h9,h10,h11⟩
theorem ty100{k:Nat}{y:AV}(h:TyV Tryz.prog (k+2) 100 y):∃x:Amount,y=encA x∧(-9223372036854775808≤x.n∧x.n≤9223372036854775807):=by
 obtain⟨cs,rfl,hh⟩:=tyv_struct Tryz.underlying100 h
 obtain⟨a1,a2,rfl,h1,h2⟩:=tys2 hh
 obtain⟨s1,rfl,-⟩:=ty_string Tryz.underlying9 h1
 obtain⟨s2,rfl,w2⟩:=ty_int Tryz.underlying2 h2
 have r2:=i64_range w2
 exact⟨⟨s1,s2⟩,rfl,r2⟩
theorem ty28s{k:Nat}{y:List AV}(h:Ty Tryz.prog (k+3) 28 y):∃t:List Amount,y=[.sl .sh (t.map encA)]∧∀x∈t,-9223372036854775808≤x.n∧x.n≤9223372036854775807:=by
 obtain⟨l,rfl,-,hl⟩:=ty_slice Tryz.underlying28 h
 obtain⟨t,rfl,hs⟩:=map_of2 (S:=fun x:Amount=> -9223372036854775808≤x.n∧x.n≤9223372036854775807) (fun y hy=>ty100 hy) l hl
 exact⟨t,rfl,hs⟩
theorem ty201{k:Nat}{y:AV}(h:TyV Tryz.prog (k+2) 201 y):∃x:Pair,y=encP x∧(True):=by
 obtain⟨cs,rfl,hh⟩:=tyv_struct Tryz.underlying201 h
 obtain⟨a1,a2,rfl,h1,h2⟩:=tys2 hh
 obtain⟨s1,rfl,-⟩:=ty_string Tryz.underlying9 h1
 obtain⟨s2,rfl,-⟩:=ty_string Tryz.underlying9 h2
 exact⟨⟨s1,s2⟩,rfl,trivial⟩
theorem ty30s{k:Nat}{y:List AV}(h:Ty Tryz.prog (k+3) 30 y):∃t:List Pair,y=[.sl .sh (t.map encP)]∧∀x∈t,True:=by
 obtain⟨l,rfl,-,hl⟩:=ty_slice Tryz.underlying30 h
 obtain⟨t,rfl,hs⟩:=map_of2 (S:=fun x:Pair=>True) (fun y hy=>ty201 hy) l hl
 exact⟨t,rfl,hs⟩
theorem ty110{k:Nat}{y:AV}(h:TyV Tryz.prog (k+2) 110 y):∃x:Taint,y=encT x∧(True):=by
 obtain⟨cs,rfl,hh⟩:=tyv_struct Tryz.underlying110 h
 obtain⟨a1,a2,a3,rfl,h1,h2,h3⟩:=tys3 hh
 obtain⟨s1,rfl,-⟩:=ty_string Tryz.underlying9 h1
 obtain⟨s2,rfl,-⟩:=ty_string Tryz.underlying9 h2
 obtain⟨s3,rfl⟩:=ty_bool Tryz.underlying4 h3
 exact⟨⟨s1,s2,s3⟩,rfl,trivial⟩
theorem ty62s{k:Nat}{y:List AV}(h:Ty Tryz.prog (k+3) 62 y):∃t:List Taint,y=[.sl .sh (t.map encT)]∧∀x∈t,True:=by
 obtain⟨l,rfl,-,hl⟩:=ty_slice Tryz.underlying62 h
 obtain⟨t,rfl,hs⟩:=map_of2 (S:=fun x:Taint=>True) (fun y hy=>ty110 hy) l hl
 exact⟨t,rfl,hs⟩
theorem ty64{k:Nat}{y:AV}(h:TyV Tryz.prog (k+4) 64 y):∃x:Node,y=encN x∧(rgA x.cap):=by
 obtain⟨cs,rfl,hh⟩:=tyv_struct Tryz.underlying64 h
 obtain⟨a1,a2,a3,a4,a5,rfl,h1,h2,h3,h4,h5⟩:=tys5 hh
 obtain⟨s1,rfl,-⟩:=ty_string Tryz.underlying9 h1
 obtain⟨s2,rfl,w2⟩:=ty28s h2
 obtain⟨s3,rfl,w3⟩:=ty30s h3
 obtain⟨s4,rfl,w4⟩:=ty62s h4
 obtain⟨s5,rfl⟩:=ty_bool Tryz.underlying4 h5
 exact⟨⟨s1,s2,s3,s4,s5⟩,rfl,w2⟩
theorem ty22s{k:Nat}{y:List AV}(h:Ty Tryz.prog (k+5) 22 y):∃t:List Node,y=[.sl .sh (t.map encN)]∧∀x∈t,rgA x.cap:=by
 obtain⟨l,rfl,-,hl⟩:=ty_slice Tryz.underlying22 h
 obtain⟨t,rfl,hs⟩:=map_of2 (S:=fun x:Node=>rgA x.cap) (fun y hy=>ty64 hy) l hl
 exact⟨t,rfl,hs⟩
theorem ty112{k:Nat}{y:AV}(h:TyV Tryz.prog (k+2) 112 y):∃x:Term,y=encM x∧(True):=by
 obtain⟨cs,rfl,hh⟩:=tyv_struct Tryz.underlying112 h
 obtain⟨a1,a2,a3,rfl,h1,h2,h3⟩:=tys3 hh
 obtain⟨s1,rfl,w1⟩:=ty_int Tryz.underlying3 h1
 have r1:=i64_range w1
 obtain⟨s2,rfl,-⟩:=ty_string Tryz.underlying9 h2
 obtain⟨s3,rfl,-⟩:=ty_string Tryz.underlying9 h3
 exact⟨⟨s1,s2,s3⟩,rfl,trivial⟩
theorem ty32s{k:Nat}{y:List AV}(h:Ty Tryz.prog (k+3) 32 y):∃t:List Term,y=[.sl .sh (t.map encM)]∧∀x∈t,True:=by
 obtain⟨l,rfl,-,hl⟩:=ty_slice Tryz.underlying32 h
 obtain⟨t,rfl,hs⟩:=map_of2 (S:=fun x:Term=>True) (fun y hy=>ty112 hy) l hl
 exact⟨t,rfl,hs⟩
theorem ty205{k:Nat}{y:AV}(h:TyV Tryz.prog (k+2) 205 y):∃x:Tol,y=encL x∧(True):=by
 obtain⟨cs,rfl,hh⟩:=tyv_struct Tryz.underlying205 h
 obtain⟨a1,a2,a3,rfl,h1,h2,h3⟩:=tys3 hh
 obtain⟨s1,rfl,-⟩:=ty_string Tryz.underlying9 h1
 obtain⟨s2,rfl,-⟩:=ty_string Tryz.underlying9 h2
 obtain⟨s3,rfl⟩:=ty_bool Tryz.underlying4 h3
 exact⟨⟨s1,s2,s3⟩,rfl,trivial⟩
theorem ty33s{k:Nat}{y:List AV}(h:Ty Tryz.prog (k+3) 33 y):∃t:List Tol,y=[.sl .sh (t.map encL)]∧∀x∈t,True:=by
 obtain⟨l,rfl,-,hl⟩:=ty_slice Tryz.underlying33 h
 obtain⟨t,rfl,hs⟩:=map_of2 (S:=fun x:Tol=>True) (fun y hy=>ty205 hy) l hl
 exact⟨t,rfl,hs⟩
theorem ty35{k:Nat}{y:AV}(h:TyV Tryz.prog (k+4) 35 y):∃x:Pod,y=encPd x∧(rgA x.need∧inI x.prio∧inI x.most):=by
 obtain⟨cs,rfl,hh⟩:=tyv_struct Tryz.underlying35 h
 obtain⟨a1,a2,a3,a4,a5,a6,a7,a8,a9,a10,a11,rfl,h1,h2,h3,h4,h5,h6,h7,h8,h9,h10,h11⟩:=tys11 hh
 obtain⟨s1,rfl,-⟩:=ty_string Tryz.underlying9 h1
 obtain⟨s2,rfl,-⟩:=ty_string Tryz.underlying9 h2
 obtain⟨s3,rfl,w3⟩:=ty_int Tryz.underlying3 h3
 have r3:=i64_range w3
 obtain⟨s4,rfl,w4⟩:=ty28s h4
 obtain⟨s5,rfl,w5⟩:=ty30s h5
 obtain⟨s6,rfl,w6⟩:=ty32s h6
 obtain⟨s7,rfl,w7⟩:=ty33s h7
 obtain⟨s8,rfl,-⟩:=ty_string Tryz.underlying9 h8
 obtain⟨s9,rfl,w9⟩:=ty_int Tryz.underlying3 h9
 have r9:=i64_range w9
 obtain⟨s10,rfl,-⟩:=ty_string Tryz.underlying9 h10
 obtain⟨s11,rfl⟩:=ty_bool Tryz.underlying4 h11
 exact⟨⟨s1,s2,s3,s4,s5,s6,s7,s8,s9,s10,s11⟩,rfl,⟨w4,r3,r9⟩⟩
theorem ty23s{k:Nat}{y:List AV}(h:Ty Tryz.prog (k+5) 23 y):∃t:List Pod,y=[.sl .sh (t.map encPd)]∧∀x∈t,rgA x.need∧inI x.prio∧inI x.most:=by
 obtain⟨l,rfl,-,hl⟩:=ty_slice Tryz.underlying23 h
 obtain⟨t,rfl,hs⟩:=map_of2 (S:=fun x:Pod=>rgA x.need∧inI x.prio∧inI x.most) (fun y hy=>ty35 hy) l hl
 exact⟨t,rfl,hs⟩
theorem ty181{k:Nat}{y:AV}(h:TyV Tryz.prog (k+4) 181 y):∃x:Bud,y=encB x∧(inI x.floor):=by
 obtain⟨cs,rfl,hh⟩:=tyv_struct Tryz.underlying181 h
 obtain⟨a1,a2,a3,rfl,h1,h2,h3⟩:=tys3 hh
 obtain⟨s1,rfl,-⟩:=ty_string Tryz.underlying9 h1
 obtain⟨s2,rfl,w2⟩:=ty32s h2
 obtain⟨s3,rfl,w3⟩:=ty_int Tryz.underlying3 h3
 have r3:=i64_range w3
 exact⟨⟨s1,s2,s3⟩,rfl,r3⟩
theorem ty24s{k:Nat}{y:List AV}(h:Ty Tryz.prog (k+5) 24 y):∃t:List Bud,y=[.sl .sh (t.map encB)]∧∀x∈t,inI x.floor:=by
 obtain⟨l,rfl,-,hl⟩:=ty_slice Tryz.underlying24 h
 obtain⟨t,rfl,hs⟩:=map_of2 (S:=fun x:Bud=>inI x.floor) (fun y hy=>ty181 hy) l hl
 exact⟨t,rfl,hs⟩
theorem ty26{k:Nat}{y:AV}(h:TyV Tryz.prog (k+6) 26 y):∃x:St,y=encSt x∧(RgS x∧(∀p∈x.pods,inI p.prio∧inI p.most)∧∀b∈x.buds,inI b.floor):=by
 obtain⟨cs,rfl,hh⟩:=tyv_struct Tryz.underlying26 h
 obtain⟨a1,a2,a3,rfl,h1,h2,h3⟩:=tys3 hh
 obtain⟨s1,rfl,w1⟩:=ty22s h1
 obtain⟨s2,rfl,w2⟩:=ty23s h2
 obtain⟨s3,rfl,w3⟩:=ty24s h3
 exact⟨⟨s1,s2,s3⟩,rfl,⟨⟨w1,fun p hp=>(w2 p hp).1⟩,fun p hp=>(w2 p hp).2,w3⟩⟩
end Go.Aa.T
set_option linter.unusedVariables false
set_option linter.unusedSimpArgs false
set_option maxRecDepth 100000
namespace Go.Aa.T
open Go.Aa Go.Proofs
theorem tyU8{k:Nat}{x:AV}(hx:TyV Tryz.prog (k+1) 5 x):∃n:Nat,n<256∧x=.int .u8 (n:Int):=by
 obtain⟨m,rfl,hm⟩:=tyv_int Tryz.underlying5 hx
 have h':IntKind.u8.min≤m∧m≤IntKind.u8.max:=by simpa[Lit.wf,IntKind.has]using hm
 have e1:IntKind.u8.min=0:=rfl
 have e2:IntKind.u8.max=255:=rfl
 exact⟨m.toNat,by omega,by congr 1;omega⟩
end Go.Aa.T
set_option linter.unusedVariables false
set_option linter.unusedSimpArgs false
set_option maxRecDepth 100000
namespace Go.Aa.T
open Go.Aa Go.Proofs
end Go.Aa.T
set_option linter.unusedVariables false
set_option linter.unusedSimpArgs false
set_option maxRecDepth 100000
namespace Go.Aa.T
open Go.Aa Go.Proofs
theorem in2_d0{x:AV}{nb nt:Nat}(h:data0 x=true):in2 nb nt x=true:=in2_data0 h
def Tame(B:List (List AV)):Prop:=∀nb,B.length≤nb→B.all (·.all (in2 nb 0))=true
theorem tame_data{B:List (List AV)}(h:B.all (·.all data0)=true):Tame B:=fun nb _=>List.all_eq_true.2 fun b hb=>List.all_eq_true.2 fun x hx=>in2_d0 (List.all_eq_true.1 (List.all_eq_true.1 h b hb) x hx)
theorem tame_app{B ex:List (List AV)}(h:Tame B)(he:ex.all (·.all data0)=true):Tame (B++ex):=fun nb hn=>by
 rw[List.all_append,h nb (by simp at hn;omega),tame_data he nb (by simp at hn;omega)];rfl
theorem tame_set{B:List (List AV)}{k:Nat}{cs:List AV}(h:Tame B)(hc:cs.all data0=true):Tame (B.set k cs):=fun nb hn=>by
 refine List.all_eq_true.2 fun b hb=> ?_
 rcases List.mem_or_eq_of_mem_set hb with hb|rfl
 ·exact List.all_eq_true.1 (h nb (by simpa using hn)) b hb
 ·exact List.all_eq_true.2 fun x hx=>in2_d0 (List.all_eq_true.1 hc x hx)
theorem trunc_tame{B ex:List (List AV)}{v:AV}(hB:Tame B)(hv:within B.length 0 v=true):trunc B.length 0 v ⟨B++ex,[],[]⟩=⟨B,[],[]⟩:=by
 have h1:=hB B.length (Nat.le_refl _)
 unfold trunc
 simp only[List.take_left,List.length_nil,List.all_nil,Bool.true_and,hv,h1,Bool.and_self,if_true,List.take_zero,ite_self]
theorem does_closure{B ex:List (List AV)}{g:FuncId}{jj:Nat}{x v:AV}(h:lim cfg (.fn g) [x,.ptr jj 0] ⟨B,[],[]⟩=some (.ret v,⟨B++ex,[],[]⟩))(hx:shutA x=x)(hB:Tame B)(hv:within B.length 0 v=true)(hs:shutA v=v):
 Does cfg (.call (.c (.func g [.ptr jj 0])) [.c x]) ⟨B,[],[]⟩ v ⟨B,[],[]⟩∧Does cfg (.callM (.c (.func g [.ptr jj 0])) [.c x]) ⟨B,[],[]⟩ v ⟨B,[],[]⟩:=by
 have e1:=does_callE (cfg:=cfg) (xs:=[x]) (caps:=[.ptr jj 0]) h (by simp[hx]) (by simp[data0])
 have e2:Does cfg (.callM (.c (.func g [.ptr jj 0])) [.c x]) ⟨B,[],[]⟩ (shutA v) (trunc B.length 0 (shutA v) ⟨B++ex,[],[]⟩):=fun T=>by
  simp only[opStep,List.map_cons,List.map_nil,ev]
  simp only[callW,List.all_cons,List.all_nil,data0,Bool.and_false,Bool.false_and,Bool.and_true,Bool.false_eq_true,if_false,List.cons_append,List.nil_append,callE,hx,h]
  rfl
 rw[hs]at e1 e2
 rw[trunc_tame hB hv]at e2
 rw[show(⟨B,[],[]⟩:Heap).boxes.length=B.length from rfl,show(⟨B,[],[]⟩:Heap).toks.length=0 from rfl,trunc_tame hB hv]at e1
 exact⟨e1,e2⟩
abbrev pcs(l:List Pod):List AV:=rowCells (l.map encPd)
theorem encPd_el(l:List Pod):(l.map encPd).all (elOk 11)=true:=List.all_eq_true.2 fun x hx=>by
 obtain⟨j,_,rfl⟩:=List.mem_map.1 hx
 rfl
theorem pcs_len(l:List Pod):(pcs l).length=l.length*11:=by
 have:=rowCells_len (es:=11) (l:=l.map encPd) lenPd
 simpa using this
theorem pcs_data(l:List Pod):(pcs l).all data0=true:=by
 refine List.all_eq_true.2 fun x hx=> ?_
 simp only[pcs,rowCells,List.mem_flatMap,List.mem_map]at hx
 obtain⟨a,⟨p,-,rfl⟩,hx⟩:=hx
 simp only[encPd,AV.cells,List.mem_cons,List.not_mem_nil,or_false]at hx
 rcases hx with rfl|rfl|rfl|rfl|rfl|rfl|rfl|rfl|rfl|rfl|rfl<;>rfl
theorem pc_data(p:Pod):(encPd p).cells.all data0=true:=by rfl
theorem loadP{B:List (List AV)}{kk:Nat}{C:List Pod}{Z:List AV}{i:Nat}{p:Pod}(hk:B[kk]?=some (pcs C++Z))(hp:C[i]?=some p):Does cfg (.load true 11 (.c (.ptr kk (0+i*11)))) ⟨B,[],[]⟩ (encPd p) ⟨B,[],[]⟩:=fun T=>by
 obtain⟨h1,h2⟩:=cells_at (es:=11) (i:=i) (encPd_el C) (x:=encPd p) (by simp[hp])
 change((pcs C).drop (i*11)).take 11=_ at h1
 change _≤(pcs C).length at h2
 have:loadA true 11 ⟨B,[],[]⟩ (.ptr kk (0+i*11))=some (encPd p):=by
  simp only[loadA,hk,Nat.zero_add]
  rw[if_pos (by rw[List.length_append];omega),List.drop_append_of_le_length (by omega),List.take_append_of_le_length (by rw[List.length_drop];omega),h1];rfl
 simp only[opStep,ev,this]
theorem pcs_set:∀(C:List Pod)(j:Nat)(p:Pod),j<C.length→(pcs C).take (j*11)++(encPd p).cells++(pcs C).drop (j*11+11)=pcs (C.set j p)
 |[],j,p,h=>by simp at h
 |c::C,0,p,h=>by
  have e1:pcs (c::C)=(encPd c).cells++pcs C:=by simp[pcs,rowCells]
  have e2:pcs ((c::C).set 0 p)=(encPd p).cells++pcs C:=by simp[pcs,rowCells]
  rw[e1,e2]
  have e3:(encPd c).cells.length=11:=rfl
  rw[Nat.zero_mul,List.take_zero,List.nil_append,Nat.zero_add,List.drop_append_of_le_length (by omega),List.drop_eq_nil_of_le (by omega),List.nil_append]
 |c::C,j+1,p,h=>by
  have e1:pcs (c::C)=(encPd c).cells++pcs C:=by simp[pcs,rowCells]
  have e2:pcs ((c::C).set (j+1) p)=(encPd c).cells++pcs (C.set j p):=by simp[pcs,rowCells]
  have ih:=pcs_set C j p (by simpa using h)
  have e3:(encPd c).cells.length=11:=rfl
  rw[e1,e2,←ih,List.take_append,e3,List.take_of_length_le (by rw[e3];omega),show(j+1)*11-11=j*11 by omega,List.drop_append,e3,List.drop_eq_nil_of_le (by rw[e3];omega),List.nil_append,show(j+1)*11+11-11=j*11+11 by omega]
  simp only[List.append_assoc]
theorem storeP{B:List (List AV)}{kk:Nat}{C:List Pod}{j:Nat}(p:Pod)(hk:B[kk]?=some (pcs C))(hj:j<C.length):Does cfg (.store 11 (.c (.ptr kk (0+j*11))) (.c (encPd p))) ⟨B,[],[]⟩ .undef ⟨B.set kk (pcs (C.set j p)),[],[]⟩:=fun T=>by
 have hl:=pcs_len C
 have e3:(encPd p).cells.length=11:=rfl
 have:storeA 11 ⟨B,[],[]⟩ (.ptr kk (0+j*11)) (encPd p)=some ⟨B.set kk (pcs (C.set j p)),[],[]⟩:=by
  simp only[storeA,hk,Nat.zero_add]
  rw[if_pos ⟨by omega,rfl,rfl,by omega⟩,paste_spec _ _ _ (by omega),e3,pcs_set C j p hj]
 simp only[opStep,ev,this]
theorem pred_any{B:List (List AV)}{jj:Nat}{nm:List UInt8}(hj:B[jj]?=some [.str nm])(hB:Tame B)(p:Pod):
 Does cfg (.call (.c (.func 91 [.ptr jj 0])) [.c (encPd p)]) ⟨B,[],[]⟩ (.bool (p.name==nm)) ⟨B,[],[]⟩∧Does cfg (.callM (.c (.func 91 [.ptr jj 0])) [.c (encPd p)]) ⟨B,[],[]⟩ (.bool (p.name==nm)) ⟨B,[],[]⟩:=by
 have hlt:=(List.getElem?_eq_some_iff.1 hj).1
 have l1:Does cfg (.load false 1 (.c (.ptr B.length 0))) ⟨B++[(encPd p).cells],[],[]⟩ (.str p.name) ⟨B++[(encPd p).cells],[],[]⟩:=fun T=>by
  have:loadA false 1 ⟨B++[(encPd p).cells],[],[]⟩ (.ptr B.length 0)=some (.str p.name):=by
   simp only[loadA,List.getElem?_concat_length];rfl
  simp only[opStep,ev,this]
 have l2:Does cfg (.load false 1 (.c (.ptr jj 0))) ⟨B++[(encPd p).cells],[],[]⟩ (.str nm) ⟨B++[(encPd p).cells],[],[]⟩:=fun T=>by
  have:loadA false 1 ⟨B++[(encPd p).cells],[],[]⟩ (.ptr jj 0)=some (.str nm):=by
   simp only[loadA,List.getElem?_append_left hlt,hj];rfl
  simp only[opStep,ev,this]
 refine does_closure (ex:=[(encPd p).cells]) ?_ rfl hB rfl rfl
 rw[l91]
 have key:Goes cfg a91 [.c c91] (initEnv [encPd p,.ptr jj 0]) ⟨B,[],[]⟩ (fun r=>r=(.ret (.bool (p.name==nm)),⟨B++[(encPd p).cells],[],[]⟩)):=by
  exact let ζ1:Heap:={boxes:=B++[(encPd p).cells],toks:=[],loops:=[]:Heap};goG 60 [] trivial (.effY (show Does cfg (.load false (1:Nat) (.c (.ptr B.length (0:Nat)))) ζ1 (.str p.name) ζ1 from l1)<|.effY (show Does cfg (.load false (1:Nat) (.c (.ptr jj (0:Nat)))) ζ1 (.str nm) ζ1 from l2)<|.fin ((.ret (.bool (p.name==nm)),{boxes:=B++[[AV.str p.name,.str p.owner,.int .i64 p.prio,.sl .sh (p.need.map encA),.sl .sh (p.labels.map encP),.sl .sh (p.sel.map encM),.sl .sh (p.tols.map encL),.str p.key,.int .i64 p.most,.str p.node,.bool p.hold]],toks:=[],loops:=[]:Heap})) rfl) (by kernel_rfl)
 obtain⟨r,h,rfl⟩:=key
 exact h
def idxG(nm:List UInt8)(i:Int):List Pod→Int
 |[]=> -1
 |x::l=>if x.name=nm then i else idxG nm (i+1) l
theorem index_loop{B:List (List AV)}{jj kk n:Nat}{nm:List UInt8}{C:List Pod}(hj:B[jj]?=some [.str nm])(hk:B[kk]?=some (pcs C))(hB:Tame B)(hC:C.length=n)(hn:n<9223372036854775807):∀(post:List Pod)(i:Nat)(hd:C.drop i=post)(T:Env)
 (hT:Has T [(0,.msl kk 0 n 11),(1,.func 91 [.ptr jj 0]),(7,.int .i64 n),(8,.int .i64 i)]),
 Goes cfg a162 k162_0 T ⟨B,[],[]⟩ (fun r=>r=(.ret (.int .i64 (idxG nm i post)),⟨B,[],[]⟩)):=by
 intro post
 induction post with
 |nil=>
  intro i hd T hT
  have hge:=drop_ge hd
  have c1:binA .lss (.int .i64 (i:Nat)) (.int .i64 (n:Nat))=some (.bool false):=lssF (by omega)
  exact goG 60 _ hT (.no (decide_eq_false (p:=(↑i:Int)<(↑n:Int)) (by omega))<|.fin ((.ret (.int .i64 (-1:Int)),{boxes:=B,toks:=[],loops:=[]:Heap})) rfl) (by kernel_rfl)
 |cons x post ih=>
  intro i hd T hT
  have hlt:=drop_lt hd
  have hnx:=drop_next hd
  have hx:=drop_at hd
  have c1:binA .lss (.int .i64 (i:Nat)) (.int .i64 (n:Nat))=some (.bool true):=lssT (by omega)
  have ld:=loadP (Z:=[]) (by rw[List.append_nil];exact hk) hx
  have i1:idxA 11 (.msl kk 0 n 11) (.int .i64 (i:Nat))=some (.ptr kk (0+i*11)):=idx_msl (by omega)
  have pr:=(pred_any hj hB x).1
  have inc:=inc_i (i:=i) (by omega)
  have ih':=ih (i+1) hnx
  have e:idxG nm i (x::post)=if x.name=nm then(i:Int)else idxG nm (((i+1:Nat):Int)) post:=rfl
  rw[e]
  by_cases h:x.name=nm
  ·rw[show(x.name==nm)=true by simpa using h]at pr
   rw[if_pos h]
   exact let ζ1:Heap:={boxes:=B,toks:=[],loops:=[]:Heap};goG 60 _ hT (.yes (decide_eq_true (p:=(↑i:Int)<(↑n:Int)) (by omega))<|.idx (show idxA 11 (.msl kk (0:Nat) n (11:Nat)) (.int .i64 ↑i)=some (.ptr kk ((0:Nat)+i*(11:Nat)))from i1)<|.effY (show Does cfg (.load true (11:Nat) (.c (.ptr kk ((0:Nat)+i*(11:Nat))))) ζ1 (encPd x) ζ1 from ld)<|.effY (show Does cfg (.call (.c (.func (91:FuncId) [.ptr jj (0:Nat)])) [.c (encPd x)]) ζ1 (.bool true) ζ1 from pr)<|.tt<|.fin ((.ret (.int .i64 ↑i),ζ1)) rfl) (by kernel_rfl)
  ·rw[show(x.name==nm)=false by simpa using h]at pr
   rw[if_neg h]
   exact let ζ1:Heap:={boxes:=B,toks:=[],loops:=[]:Heap};goG 60 _ hT (.yes (decide_eq_true (p:=(↑i:Int)<(↑n:Int)) (by omega))<|.idx (show idxA 11 (.msl kk (0:Nat) n (11:Nat)) (.int .i64 ↑i)=some (.ptr kk ((0:Nat)+i*(11:Nat)))from i1)<|.effY (show Does cfg (.load true (11:Nat) (.c (.ptr kk ((0:Nat)+i*(11:Nat))))) ζ1 (encPd x) ζ1 from ld)<|.effY (show Does cfg (.call (.c (.func (91:FuncId) [.ptr jj (0:Nat)])) [.c (encPd x)]) ζ1 (.bool false) ζ1 from pr)<|.ff<|.bin (show binA .add (.int .i64 ↑i) (.int .i64 1)=some (.int .i64 (↑(i+1)))from inc)<|.cutQ k162_0 [(0,.msl kk (0:Nat) n (11:Nat)),(1,.func (91:Nat) [.ptr jj (0:Nat)]),(7,.int .i64 ↑n),(8,.int .i64 (↑(i+1)))] (ζ1) (fun T hT=>(ih' T hT))) (by kernel_rfl)
theorem index_any{B:List (List AV)}{jj kk n:Nat}{nm:List UInt8}{C:List Pod}(hj:B[jj]?=some [.str nm])(hk:B[kk]?=some (pcs C))(hB:Tame B)(hC:C.length=n)(hn:n<9223372036854775807):
 Does cfg (.callM (.c (.func 162 [])) [.c (.msl kk 0 n 11),.c (.func 91 [.ptr jj 0])]) ⟨B,[],[]⟩ (.int .i64 (idxG nm 0 C)) ⟨B,[],[]⟩:=by
 have key:Goes cfg a162 [.c c162] (initEnv [.msl kk 0 n 11,.func 91 [.ptr jj 0]]) ⟨B,[],[]⟩ (fun r=>r=(.ret (.int .i64 (idxG nm 0 C)),⟨B,[],[]⟩)):=by
  have h1:=index_loop hj hk hB hC hn C 0 rfl
  exact goG 60 [] trivial (.len (rfl:lenA false (.msl kk (0:Nat) n (11:Nat))=some (.int .i64 ↑n))<|.cutQ k162_0 [(0,.msl kk (0:Nat) n (11:Nat)),(1,.func (91:Nat) [.ptr jj (0:Nat)]),(7,.int .i64 ↑n),(8,.int .i64 0)] ({boxes:=B,toks:=[],loops:=[]:Heap}) (fun T hT=>(h1 T hT))) (by kernel_rfl)
 obtain⟨r,h,rfl⟩:=key
 have h':lim cfg (.fn 162) [.msl kk 0 n 11,.func 91 [.ptr jj 0]] ⟨B,[],[]⟩=some (.ret (.int .i64 (idxG nm 0 C)),⟨B,[],[]⟩):=by rw[l162];exact h
 have hd:=does_callM (xs:=[.msl kk 0 n 11,.func 91 [.ptr jj 0]]) h' rfl rfl
 have e:=trunc_tame (ex:=[]) (v:=.int .i64 (idxG nm 0 C)) hB rfl
 rw[List.append_nil]at e
 rw[show(⟨B,[],[]⟩:Heap).boxes.length=B.length from rfl,show(⟨B,[],[]⟩:Heap).toks.length=0 from rfl,show shutA (.int .i64 (idxG nm 0 C))=.int .i64 (idxG nm 0 C)from rfl,e]at hd
 exact hd
end Go.Aa.T
set_option linter.unusedVariables false
set_option linter.unusedSimpArgs false
set_option maxRecDepth 100000
namespace Go.Aa.T
open Go.Aa Go.Proofs
abbrev zpc:List AV:=[.str [],.str [],.int .i64 0,.sl .full [],.sl .full [],.sl .full [],.sl .full [],.str [],.int .i64 0,.str [],.bool false]
def offP(nm:List UInt8)(l:List Pod):List Pod:=l.filter fun p=> !(p.name==nm)
theorem store_last{B:List (List AV)}{z:List AV}(p:Pod)(hz:z.length=11):Does cfg (.store 11 (.c (.ptr B.length 0)) (.c (encPd p))) ⟨B++[z],[],[]⟩ .undef ⟨B++[(encPd p).cells],[],[]⟩:=fun T=>by
 have:storeA 11 ⟨B++[z],[],[]⟩ (.ptr B.length 0) (encPd p)=some ⟨B++[(encPd p).cells],[],[]⟩:=by
  simp only[storeA,List.getElem?_concat_length]
  rw[if_pos ⟨by omega,rfl,rfl,by omega⟩,paste_spec _ _ _ (by rw[show(encPd p).cells.length=11 from rfl];omega),List.take_zero,List.nil_append,show(encPd p).cells.length=11 from rfl,List.drop_eq_nil_of_le (by omega),List.append_nil,List.set_append_right _ _ (Nat.le_refl _),Nat.sub_self]
  rfl
 simp only[opStep,ev,this]
theorem load_last{B:List (List AV)}(p:Pod):Does cfg (.load true 11 (.c (.ptr B.length 0))) ⟨B++[(encPd p).cells],[],[]⟩ (encPd p) ⟨B++[(encPd p).cells],[],[]⟩:=fun T=>by
 have:loadA true 11 ⟨B++[(encPd p).cells],[],[]⟩ (.ptr B.length 0)=some (encPd p):=by
  simp only[loadA,List.getElem?_concat_length];rfl
 simp only[opStep,ev,this]
section
variable(B0:List (List AV))(kk jj n:Nat)(nm:List UInt8)
theorem pcs_app(a b:List Pod):pcs (a++b)=pcs a++pcs b:=by simp[pcs,rowCells]
structure DH(C:List Pod)(B:List (List AV)):Prop where
 row:B[kk]?=some (pcs C)
 nme:B[jj]?=some [.str nm]
 tame:Tame B
 from0:∃ex,B=B0.set kk (pcs C)++ex
variable{B0 kk jj n nm}
theorem DH.snoc{C:List Pod}{B:List (List AV)}(h:DH B0 kk jj nm C B){c:List AV}(hc:c.all data0=true):DH B0 kk jj nm C (B++[c]):=by
 obtain⟨ex,e⟩:=h.from0
 have h1:=(List.getElem?_eq_some_iff.1 h.row).1
 have h2:=(List.getElem?_eq_some_iff.1 h.nme).1
 exact⟨by rw[List.getElem?_append_left h1];exact h.row,by rw[List.getElem?_append_left h2];exact h.nme,tame_app h.tame (by simp[hc]),ex++[c],by rw[e,List.append_assoc]⟩
theorem DH.put{C:List Pod}{B:List (List AV)}(h:DH B0 kk jj nm C B)(hkj:kk≠jj)(hk:kk<B0.length)(C':List Pod):DH B0 kk jj nm C' (B.set kk (pcs C')):=by
 obtain⟨ex,e⟩:=h.from0
 have h1:=(List.getElem?_eq_some_iff.1 h.row).1
 refine⟨List.getElem?_set_self h1,by rw[List.getElem?_set_ne hkj];exact h.nme,tame_set h.tame (pcs_data C'),ex,?_⟩
 rw[e,List.set_append_left _ _ (by simpa using hk),List.set_set]
def RetD(B0:List (List AV))(kk n:Nat)(l:List Pod)(r:ARes×Heap):Prop:=∃Z ex,r=(.ret (.msl kk 0 l.length 11),⟨B0.set kk (pcs l++Z)++ex,[],[]⟩)∧Z.all data0=true∧(pcs l++Z).length=n*11
theorem delete_loop(hn:n<9223372036854775807)(hkj:kk≠jj)(hk0:kk<B0.length):∀(post:List Pod)(i:Nat)(U C:List Pod)(B:List (List AV))(hB:DH B0 kk jj nm C B)(hC:C.length=n)(hd:C.drop i=post)(hi:i≤n)(hU:C.take U.length=U)(hl:U.length<i)(T:Env)
 (hT:Has T [(0,.msl kk 0 n 11),(1,.func 91 [.ptr jj 0]),(5,.int .i64 U.length),(6,.int .i64 i)]),
 Goes cfg a89 k89_0 T ⟨B,[],[]⟩ (RetD B0 kk n (U++offP nm post)):=by
 intro post
 induction post with
 |nil=>
  intro i U C B hB hC hd hi hU hl T hT
  have hge:=drop_ge hd
  have hUn:U.length<n:=by omega
  have c1:binA .lss (.int .i64 (i:Nat)) (.int .i64 (n:Nat))=some (.bool false):=lssF (by omega)
  have s1:sliceA 11 (.msl kk 0 n 11) (some (.int .i64 (U.length:Nat))) none none=some (.msl kk (U.length*11) (n-U.length) 11):=by
   simp only[sliceA,sliceM,boundA]
   rw[if_neg (by omega)]
   rw[if_pos ⟨by omega,by omega⟩]
   simp only[Int.toNat_natCast]
   rw[if_pos (by omega)]
   simp
  have s2:sliceA 11 (.msl kk 0 n 11) none (some (.int .i64 (U.length:Nat))) none=some (.msl kk 0 U.length 11):=by
   simp only[sliceA,sliceM,boundA]
   rw[if_neg (by omega)]
   rw[if_pos ⟨by omega,by omega⟩]
   simp only[Int.toNat_natCast]
   rw[if_pos (by omega)]
   simp
  have hz:((List.replicate (n-U.length) zpc).flatten).length=(n-U.length)*11:=by simp
  have hzd:((List.replicate (n-U.length) zpc).flatten).all data0=true:=by
   refine List.all_eq_true.2 fun x hx=> ?_
   obtain⟨l,hl1,hl2⟩:=List.mem_flatten.1 hx
   rw[(List.mem_replicate.1 hl1).2]at hl2
   exact List.all_eq_true.1 (show zpc.all data0=true from rfl) x hl2
  have hpl:=pcs_len C
  have hpu:=pcs_len U
  have hpt:(pcs C).take (U.length*11)=pcs U:=by
   have e:C=U++C.drop U.length:=by
    have:=(List.take_append_drop U.length C).symm
    rwa [hU]at this
   rw[e,pcs_app,List.take_left' hpu]
  have cl:Does cfg (.clearM zpc (.c (.msl kk (U.length*11) (n-U.length) 11))) ⟨B,[],[]⟩ (.tuple []) ⟨B.set kk (pcs U++(List.replicate (n-U.length) zpc).flatten),[],[]⟩:=fun T=>by
   have:clearA zpc ⟨B,[],[]⟩ (.msl kk (U.length*11) (n-U.length) 11)=some ⟨B.set kk (pcs U++(List.replicate (n-U.length) zpc).flatten),[],[]⟩:=by
    simp only[clearA,hB.row]
    rw[if_pos ⟨by omega,rfl,by omega,by omega,rfl⟩,paste_spec _ _ _ (by omega),hpt,List.drop_eq_nil_of_le (by omega),List.append_nil]
   simp only[opStep,ev,this]
  obtain⟨ex,he⟩:=hB.from0
  have hfin:B.set kk (pcs U++(List.replicate (n-U.length) zpc).flatten)=B0.set kk (pcs U++(List.replicate (n-U.length) zpc).flatten)++ex:=by
   rw[he,List.set_append_left _ _ (by simpa using hk0),List.set_set]
  rw[show offP nm []=[]from rfl,List.append_nil]
  generalize(List.replicate (n-U.length) zpc).flatten=Z at cl hz hzd hfin
  rw[hfin]at cl
  have out:RetD B0 kk n U (.ret (.msl kk 0 U.length 11),⟨B0.set kk (pcs U++Z)++ex,[],[]⟩):=⟨Z,ex,rfl,hzd,by rw[List.length_append,hpu,hz];omega⟩
  exact let ζ1:Heap:={boxes:=B0.set kk (pcs U++Z)++ex,toks:=[],loops:=[]:Heap};goG 60 _ hT (.len (rfl:lenA false (.msl kk (0:Nat) n (11:Nat))=some (.int .i64 ↑n))<|.no (decide_eq_false (p:=(↑i:Int)<(↑n:Int)) (by omega))<|.slice (show sliceA (11:Nat) (.msl kk (0:Nat) n (11:Nat)) (some (.int .i64 (↑U.length))) none none=some (.msl kk (U.length*(11:Nat)) (n-U.length) (11:Nat))from s1)<|.effY (show Does cfg (.clearM zpc (.c (.msl kk (U.length*(11:Nat)) (n-U.length) (11:Nat)))) {boxes:=B,toks:=[],loops:=[]:Heap} (.tuple []) ζ1 from cl)<|.slice (show sliceA (11:Nat) (.msl kk (0:Nat) n (11:Nat)) none (some (.int .i64 (↑U.length))) none=some (.msl kk (0:Nat) U.length (11:Nat))from s2)<|.fin ((.ret (.msl kk (0:Nat) U.length (11:Nat)),ζ1)) (by exact out)) (by kernel_rfl)
 |cons x post ih=>
  intro i U C B hB hC hd hi hU hl T hT
  have hlt:=drop_lt hd
  have hnx:=drop_next hd
  have hx:=drop_at hd
  have c1:binA .lss (.int .i64 (i:Nat)) (.int .i64 (n:Nat))=some (.bool true):=lssT (by omega)
  have ld:=loadP (Z:=[]) (by rw[List.append_nil];exact hB.row) hx
  have i1:idxA 11 (.msl kk 0 n 11) (.int .i64 (i:Nat))=some (.ptr kk (0+i*11)):=idx_msl (by omega)
  have s1:=store_last (B:=B) (z:=zpc) x rfl
  have g1:=load_last (B:=B) x
  have hB1:=hB.snoc (pc_data x)
  have pr:=(pred_any hB1.nme hB1.tame x).2
  have inc:=inc_i (i:=i) (by omega)
  by_cases h:x.name=nm
  ·have e:offP nm (x::post)=offP nm post:=by simp[offP,h]
   rw[e]
   rw[show(x.name==nm)=true by simpa using h]at pr
   have ih':=ih (i+1) U C (B++[(encPd x).cells]) hB1 hC hnx (by omega) hU (by omega)
   exact let ζ1:Heap:={boxes:=B++[(encPd x).cells],toks:=[],loops:=[]:Heap};let ζ2:Heap:={boxes:=B,toks:=[],loops:=[]:Heap};goG 90 _ hT (.len (rfl:lenA false (.msl kk (0:Nat) n (11:Nat))=some (.int .i64 ↑n))<|.yes (decide_eq_true (p:=(↑i:Int)<(↑n:Int)) (by omega))<|.idx (show idxA 11 (.msl kk (0:Nat) n (11:Nat)) (.int .i64 ↑i)=some (.ptr kk ((0:Nat)+i*(11:Nat)))from i1)<|.effY (show Does cfg (.load true (11:Nat) (.c (.ptr kk ((0:Nat)+i*(11:Nat))))) ζ2 (encPd x) ζ2 from ld)<|.effY (show Does cfg (.store (11:Nat) (.c (.ptr B.length (0:Nat))) (.c (encPd x))) {boxes:=B++[zpc],toks:=[],loops:=[]:Heap} .undef ζ1 from s1)<|.effY (show Does cfg (.load true (11:Nat) (.c (.ptr B.length (0:Nat)))) ζ1 (encPd x) ζ1 from g1)<|.effY (show Does cfg (.callM (.c (.func (91:FuncId) [.ptr jj (0:Nat)])) [.c (encPd x)]) ζ1 (.bool true) ζ1 from pr)<|.ff<|.bin (show binA .add (.int .i64 ↑i) (.int .i64 1)=some (.int .i64 (↑(i+1)))from inc)<|.cutQ k89_0 [(0,.msl kk (0:Nat) n (11:Nat)),(1,.func (91:Nat) [.ptr jj (0:Nat)]),(5,.int .i64 (↑U.length)),(6,.int .i64 (↑(i+1)))] ({boxes:=B++[[AV.str x.name,.str x.owner,.int .i64 x.prio,.sl .sh (x.need.map encA),.sl .sh (x.labels.map encP),.sl .sh (x.sel.map encM),.sl .sh (x.tols.map encL),.str x.key,.int .i64 x.most,.str x.node,.bool x.hold]],toks:=[],loops:=[]:Heap}) (fun T hT=>(ih' T hT))) (by kernel_rfl)
  ·have e:offP nm (x::post)=x::offP nm post:=by simp[offP,h]
   rw[e]
   rw[show(x.name==nm)=false by simpa using h]at pr
   have i2:idxA 11 (.msl kk 0 n 11) (.int .i64 (U.length:Nat))=some (.ptr kk (0+U.length*11)):=idx_msl (by omega)
   have st:=storeP x hB1.row (j:=U.length) (by omega)
   have inc2:=inc_i (i:=U.length) (by omega)
   have ih':=ih (i+1) (U++[x]) (C.set U.length x) _ (hB1.put hkj hk0 (C.set U.length x)) (by simpa using hC) (by rw[List.drop_set_of_lt (by omega)];exact hnx) (by omega) (by
    rw[List.length_append,List.length_singleton,List.take_add_one,List.getElem?_set_self (by omega),List.take_set_of_le (Nat.le_refl _),hU]
    rfl) (by simp;omega)
   rw[List.append_assoc]at ih'
   have el:((U++[x]).length:Int)=((U.length+1:Nat):Int):=by simp
   rw[el]at ih'
   exact let ζ1:Heap:={boxes:=B++[(encPd x).cells],toks:=[],loops:=[]:Heap};let ζ2:Heap:={boxes:=(B++[(encPd x).cells]).set kk (pcs (C.set U.length x)),toks:=[],loops:=[]:Heap};let ζ3:Heap:={boxes:=B,toks:=[],loops:=[]:Heap};goG 90 _ hT (.len (rfl:lenA false (.msl kk (0:Nat) n (11:Nat))=some (.int .i64 ↑n))<|.yes (decide_eq_true (p:=(↑i:Int)<(↑n:Int)) (by omega))<|.idx (show idxA 11 (.msl kk (0:Nat) n (11:Nat)) (.int .i64 ↑i)=some (.ptr kk ((0:Nat)+i*(11:Nat)))from i1)<|.effY (show Does cfg (.load true (11:Nat) (.c (.ptr kk ((0:Nat)+i*(11:Nat))))) ζ3 (encPd x) ζ3 from ld)<|.effY (show Does cfg (.store (11:Nat) (.c (.ptr B.length (0:Nat))) (.c (encPd x))) {boxes:=B++[zpc],toks:=[],loops:=[]:Heap} .undef ζ1 from s1)<|.effY (show Does cfg (.load true (11:Nat) (.c (.ptr B.length (0:Nat)))) ζ1 (encPd x) ζ1 from g1)<|.effY (show Does cfg (.callM (.c (.func (91:FuncId) [.ptr jj (0:Nat)])) [.c (encPd x)]) ζ1 (.bool false) ζ1 from pr)<|.tt<|.effY (show Does cfg (.load true (11:Nat) (.c (.ptr B.length (0:Nat)))) ζ1 (encPd x) ζ1 from g1)<|.idx (show idxA 11 (.msl kk (0:Nat) n (11:Nat)) (.int .i64 (↑U.length))=some (.ptr kk ((0:Nat)+U.length*(11:Nat)))from i2)<|.effY (show Does cfg (.store (11:Nat) (.c (.ptr kk ((0:Nat)+U.length*(11:Nat)))) (.c (encPd x))) ζ1 .undef ζ2 from st)<|.bin (show binA .add (.int .i64 (↑U.length)) (.int .i64 1)=some (.int .i64 (↑(U.length+(1:Nat)):Int))from inc2)<|.bin (show binA .add (.int .i64 ↑i) (.int .i64 1)=some (.int .i64 (↑(i+1)))from inc)<|.cutQ k89_0 [(0,.msl kk (0:Nat) n (11:Nat)),(1,.func (91:Nat) [.ptr jj (0:Nat)]),(5,.int .i64 (↑(U.length+(1:Nat)):Int)),(6,.int .i64 (↑(i+1)))] (ζ2) (fun T hT=>(ih' T hT))) (by kernel_rfl)
end
end Go.Aa.T
set_option linter.unusedVariables false
set_option linter.unusedSimpArgs false
set_option maxRecDepth 100000
namespace Go.Aa.T
open Go.Aa Go.Proofs
theorem idx_spec(nm:List UInt8):∀(l:List Pod)(i:Nat),(idxG nm i l= -1∧offP nm l=l)∨∃q,idxG nm i l=((i+q:Nat):Int)∧q<l.length∧offP nm l=l.take q++offP nm (l.drop (q+1))
 |[],i=>.inl ⟨rfl,rfl⟩
 |x::l,i=>by
  have e:idxG nm i (x::l)=if x.name=nm then(i:Int)else idxG nm ((i+1:Nat):Int) l:=rfl
  rw[e]
  by_cases h:x.name=nm
  ·rw[if_pos h]
   exact .inr ⟨0,by simp,by simp,by simp[offP,h]⟩
  ·rw[if_neg h]
   have e2:offP nm (x::l)=x::offP nm l:=by simp[offP,h]
   rw[e2]
   rcases idx_spec nm l (i+1)with⟨h1,h2⟩|⟨q,h1,h2,h3⟩
   ·exact .inl ⟨h1,by rw[h2]⟩
   ·exact .inr ⟨q+1,by rw[h1];congr 1;omega,by simp;omega,by rw[h3];rfl⟩
theorem trunc_all{B:List (List AV)}{ex:List (List AV)}{nb:Nat}{v:AV}(hl:B.length=nb)(hB:Tame B)(hv:within nb 0 v=true):trunc nb 0 v ⟨B++ex,[],[]⟩=⟨B,[],[]⟩:=by
 subst hl;exact trunc_tame hB hv
theorem delete_any{B:List (List AV)}{kk jj n:Nat}{nm:List UInt8}{C:List Pod}(hn:n<9223372036854775807)(hkj:kk≠jj)(hk:B[kk]?=some (pcs C))(hj:B[jj]?=some [.str nm])(hB:Tame B)(hC:C.length=n):
 ∃Z,Z.all data0=true∧(pcs (offP nm C)++Z).length=n*11∧Does cfg (.callM (.c (.func 89 [])) [.c (.msl kk 0 n 11),.c (.func 91 [.ptr jj 0])]) ⟨B,[],[]⟩ (.msl kk 0 (offP nm C).length 11) ⟨B.set kk (pcs (offP nm C)++Z),[],[]⟩:=by
 have hk0:=(List.getElem?_eq_some_iff.1 hk).1
 have hi:=index_any hj hk hB hC hn
 have hself:B.set kk (pcs C)=B:=by
  obtain⟨h1,h2⟩:=List.getElem?_eq_some_iff.1 hk
  rw[←h2];exact List.set_getElem_self h1
 have hDH:DH B kk jj nm C B:=⟨hk,hj,hB,[],by rw[hself,List.append_nil]⟩
 have key:Goes cfg a89 [.c c89] (initEnv [.msl kk 0 n 11,.func 91 [.ptr jj 0]]) ⟨B,[],[]⟩ (RetD B kk n (offP nm C)):=by
  have hsp:(idxG nm 0 C= -1∧offP nm C=C)∨∃q,idxG nm 0 C=((0+q:Nat):Int)∧q<C.length∧offP nm C=C.take q++offP nm (C.drop (q+1)):=idx_spec nm C 0
  rcases hsp with⟨h1,h2⟩|⟨q,h1,h2,h3⟩
  ·rw[h1]at hi
   rw[h2]
   have out:RetD B kk n C (.ret (.msl kk 0 n 11),⟨B,[],[]⟩):=⟨[],[],by rw[hC,List.append_nil,List.append_nil,hself],rfl,by rw[List.append_nil,pcs_len,hC]⟩
   exact let ζ1:Heap:={boxes:=B,toks:=[],loops:=[]:Heap};goG 60 [] trivial (.effCM [.msl kk (0:Nat) n (11:Nat),.func (91:Nat) [.ptr jj (0:Nat)]] (show Does cfg (.callM (.c (.func (162:FuncId) [])) [.c (.msl kk (0:Nat) n (11:Nat)),.c (.func (91:FuncId) [.ptr jj (0:Nat)])]) ζ1 (.int .i64 (-1:Int)) ζ1 from hi) rfl<|.tt<|.fin ((.ret (.msl kk (0:Nat) n (11:Nat)),ζ1)) (by exact out)) (by kernel_rfl)
  ·rw[Nat.zero_add]at h1
   rw[h1]at hi
   rw[h3]
   have hl:(C.take q).length=q:=by rw[List.length_take];omega
   have h2':=delete_loop hn hkj hk0 (C.drop (q+1)) (q+1) (C.take q) C B hDH hC rfl (by omega) (by rw[hl]) (by omega)
   rw[hl]at h2'
   have inc:=inc_i (i:=q) (by omega)
   have ne1:binA .eql (.int .i64 (q:Nat)) (.int .i64 (-1))=some (.bool false):=eqlF (by omega)
   exact let ζ1:Heap:={boxes:=B,toks:=[],loops:=[]:Heap};goG 60 [] trivial (.effCM [.msl kk (0:Nat) n (11:Nat),.func (91:Nat) [.ptr jj (0:Nat)]] (show Does cfg (.callM (.c (.func (162:FuncId) [])) [.c (.msl kk (0:Nat) n (11:Nat)),.c (.func (91:FuncId) [.ptr jj (0:Nat)])]) ζ1 (.int .i64 ↑q) ζ1 from hi) rfl<|.ff<|.bin (show binA .add (.int .i64 ↑q) (.int .i64 1)=some (.int .i64 (↑(q+(1:Nat)):Int))from inc)<|.cutQ k89_0 [(0,.msl kk (0:Nat) n (11:Nat)),(1,.func (91:Nat) [.ptr jj (0:Nat)]),(5,.int .i64 ↑q),(6,.int .i64 (↑(q+(1:Nat)):Int))] (ζ1) (fun T hT=>(h2' T hT))) (by kernel_rfl)
 obtain⟨r,h,Z,ex,rfl,hZ,hlen⟩:=key
 refine⟨Z,hZ,hlen,?_⟩
 have h':lim cfg (.fn 89) [.msl kk 0 n 11,.func 91 [.ptr jj 0]] ⟨B,[],[]⟩=some (.ret (.msl kk 0 (offP nm C).length 11),⟨B.set kk (pcs (offP nm C)++Z)++ex,[],[]⟩):=by rw[l89];exact h
 have hd:=does_callM (xs:=[.msl kk 0 n 11,.func 91 [.ptr jj 0]]) h' rfl rfl
 have hw:within B.length 0 (.msl kk 0 (offP nm C).length 11)=true:=by simp[within,in2,in1,in0,hk0]
 have e:=trunc_all (ex:=ex) (nb:=B.length) (by simp) (tame_set (k:=kk) hB (by rw[List.all_append,pcs_data,hZ];rfl:(pcs (offP nm C)++Z).all data0=true)) hw
 rw[show(⟨B,[],[]⟩:Heap).boxes.length=B.length from rfl,show(⟨B,[],[]⟩:Heap).toks.length=0 from rfl,show shutA (.msl kk 0 (offP nm C).length 11)=.msl kk 0 (offP nm C).length 11 from rfl,e]at hd
 exact hd
theorem delete_nil{B:List (List AV)}{jj:Nat}(hB:Tame B):Does cfg (.callM (.c (.func 89 [])) [.c (.sl .nil []),.c (.func 91 [.ptr jj 0])]) ⟨B,[],[]⟩ (.sl .nil []) ⟨B,[],[]⟩:=by
 have lp:∀(T:Env)(hT:Has T [(7,.int .i64 ((([]:List AV).length:Nat):Int)),(8,.int .i64 0)]),Goes cfg a162 k162_0 T ⟨B,[],[]⟩ (fun r=>r=(.ret (.int .i64 (-1)),⟨B,[],[]⟩)):=by
  intro T hT
  exact goG 60 _ hT (.ff<|.fin ((.ret (.int .i64 (-1:Int)),{boxes:=B,toks:=[],loops:=[]:Heap})) rfl) (by kernel_rfl)
 have k1:Goes cfg a162 [.c c162] (initEnv [.sl .nil [],.func 91 [.ptr jj 0]]) ⟨B,[],[]⟩ (fun r=>r=(.ret (.int .i64 (-1)),⟨B,[],[]⟩)):=by
  exact goG 60 [] trivial (.len (show lenA false (.sl .nil [])=some (.int .i64 (↑[].length:Int))from len_sl _ _)<|.cutQ k162_0 [(7,.int .i64 (↑[].length:Int)),(8,.int .i64 0)] ({boxes:=B,toks:=[],loops:=[]:Heap}) (fun T hT=>(lp T hT))) (by kernel_rfl)
 obtain⟨r,h,rfl⟩:=k1
 have h':lim cfg (.fn 162) [.sl .nil [],.func 91 [.ptr jj 0]] ⟨B,[],[]⟩=some (.ret (.int .i64 (-1)),⟨B,[],[]⟩):=by rw[l162];exact h
 have hd:=does_callM (xs:=[.sl .nil [],.func 91 [.ptr jj 0]]) h' rfl rfl
 have e:=trunc_tame (ex:=[]) (v:=.int .i64 (-1)) hB rfl
 rw[List.append_nil]at e
 rw[show(⟨B,[],[]⟩:Heap).boxes.length=B.length from rfl,show(⟨B,[],[]⟩:Heap).toks.length=0 from rfl,show shutA (.int .i64 (-1))=.int .i64 (-1)from rfl,e]at hd
 have hd':Does cfg (.callM (.c (.func 162 [])) [.c (.sl .nil []),.c (.func 91 [.ptr jj 0])]) ⟨B,[],[]⟩ (.int .i64 (-1)) ⟨B,[],[]⟩:=hd
 have k2:Goes cfg a89 [.c c89] (initEnv [.sl .nil [],.func 91 [.ptr jj 0]]) ⟨B,[],[]⟩ (fun r=>r=(.ret (.sl .nil []),⟨B,[],[]⟩)):=by
  exact let ζ1:Heap:={boxes:=B,toks:=[],loops:=[]:Heap};goG 60 [] trivial (.effY (show Does cfg (.callM (.c (.func (162:FuncId) [])) [.c (.sl .nil []),.c (.func (91:FuncId) [.ptr jj (0:Nat)])]) ζ1 (.int .i64 (-1:Int)) ζ1 from hd')<|.tt<|.fin ((.ret (.sl .nil []),ζ1)) rfl) (by kernel_rfl)
 obtain⟨r,h2,rfl⟩:=k2
 have h2':lim cfg (.fn 89) [.sl .nil [],.func 91 [.ptr jj 0]] ⟨B,[],[]⟩=some (.ret (.sl .nil []),⟨B,[],[]⟩):=by rw[l89];exact h2
 have hd2:=does_callM (xs:=[.sl .nil [],.func 91 [.ptr jj 0]]) h2' rfl rfl
 have e2:=trunc_tame (ex:=[]) (v:=.sl .nil []) hB rfl
 rw[List.append_nil]at e2
 rw[show(⟨B,[],[]⟩:Heap).boxes.length=B.length from rfl,show(⟨B,[],[]⟩:Heap).toks.length=0 from rfl,show shutA (.sl .nil [])=.sl .nil []from rfl,e2]at hd2
 exact hd2
end Go.Aa.T
set_option linter.unusedVariables false
set_option linter.unusedSimpArgs false
set_option maxRecDepth 100000
namespace Go.Aa.T
open Go.Aa Go.Proofs
theorem does_callN{xs:List AV}{g:FuncId}{v0 v:AV}{H H0 H2:Heap}(h0:lim cfg (.fn g) xs Heap.nil=some (.ret v0,H0))(hn:isData (shutA v0)=false)(h:lim cfg (.fn g) xs H=some (.ret v,H2))(hx:xs.map shutA=xs)(hd:xs.all isData=true):
 Does cfg (.callM (.c (.func g [])) (xs.map .c)) H (shutA v) (trunc H.boxes.length H.toks.length (shutA v) H2):=fun T=>by
 have e:(xs.map Opd.c).map (fun x=>shutA (ev T x))=xs:=by rw[List.map_map];exact hx
 simp only[opStep,e]
 rw[show ev T (.c (.func g []))=.func g []from rfl]
 simp only[callW,hd,List.all_nil,Bool.and_self,if_true,List.append_nil,h0,hn,Bool.false_eq_true,if_false,callE,h]
theorem trunc_new{B ex:List (List AV)}{nb k off n es:Nat}(hl:nb≤k):trunc nb 0 (.msl k off n es) ⟨B,[],[]⟩=⟨B,[],[]⟩:=by
 unfold trunc
 have hw:within nb 0 (.msl k off n es)=false:=by simp[within,in2,in1,in0];omega
 simp only[hw,List.length_nil,List.all_nil,Bool.true_and,Bool.and_false,Bool.false_and,Bool.false_eq_true,if_false,List.take_zero,ite_self]
theorem clone_lim{l:List Pod}(hl:l≠[])(hs:l.length≤100000)(B:List (List AV)):lim cfg (.fn 90) [.sl .sh (l.map encPd)] ⟨B,[],[]⟩=some (.ret (.msl B.length 0 l.length 11),⟨B++[pcs l],[],[]⟩):=by
 rw[lim_ext (g:=cloneE 11 184) rfl rfl]
 obtain⟨x,m,rfl⟩:=List.exists_cons_of_ne_nil hl
 have hd:dataOk ((x::m).map encPd)=true:=dataOk_map fun _=>rfl
 simp only[cloneE,List.map_cons,appendMA]
 rw[if_pos ⟨by trivial,by trivial,by simp only[List.length_cons,List.length_map]at hs⊢;omega,lenPd (l:=x::m),hd⟩]
 simp[pcs]
theorem clone_any{l:List Pod}(hl:l≠[])(hs:l.length≤100000)(B:List (List AV)):Does cfg (.callM (.c (.func 90 [])) [.c (.sl .sh (l.map encPd))]) ⟨B,[],[]⟩ (.msl B.length 0 l.length 11) ⟨B++[pcs l],[],[]⟩:=by
 have h:=does_callN (xs:=[.sl .sh (l.map encPd)]) (clone_lim hl hs []) rfl (clone_lim hl hs B) rfl rfl
 rw[show shutA (.msl B.length 0 l.length 11)=.msl B.length 0 l.length 11 from rfl,show(⟨B,[],[]⟩:Heap).boxes.length=B.length from rfl,show(⟨B,[],[]⟩:Heap).toks.length=0 from rfl,trunc_new (ex:=[]) (Nat.le_refl _)]at h
 exact h
theorem clone_none(B:List (List AV))(hB:Tame B):Does cfg (.callM (.c (.func 90 [])) [.c (.sl .sh [])]) ⟨B,[],[]⟩ (.sl .nil []) ⟨B,[],[]⟩:=by
 have h:∀H,lim cfg (.fn 90) [.sl .sh []] H=some (.ret (.sl .nil []),H):=fun H=>by
  rw[lim_ext (g:=cloneE 11 184) rfl rfl];rfl
 have h:=does_callN (xs:=[.sl .sh []]) (h Heap.nil) rfl (h ⟨B,[],[]⟩) rfl rfl
 have e:=trunc_tame (ex:=[]) (v:=.sl .nil []) hB rfl
 rw[List.append_nil]at e
 rw[show shutA (.sl .nil [])=.sl .nil []from rfl,show(⟨B,[],[]⟩:Heap).boxes.length=B.length from rfl,show(⟨B,[],[]⟩:Heap).toks.length=0 from rfl,e]at h
 exact h
inductive PR(kk:Nat)(n:Nat)(l:List Pod):AV→List (List AV)→Prop
 |some(Z:List AV)(hZ:Z.all data0=true)(hn:0<n)(hl:(pcs l++Z).length=n*11):PR kk n l (.msl kk 0 l.length 11) [pcs l++Z]
 |none(h0:n=0)(hl:l=[]):PR kk n l (.sl .nil []) []
abbrev stC(s:St)(v:AV):List AV:=[.sl .sh (s.nodes.map encN),v,.sl .sh (s.buds.map encB)]
def stA(s:St)(v:AV):AV:=.agg (stC s v)
def RetDr(B:List (List AV))(s:St)(nm:List UInt8)(r:ARes×Heap):Prop:=∃v ex,PR (B.length+3) s.pods.length (offP nm s.pods) v ex∧r=(.ret (stA s v),⟨B++([stC s v,[.str nm],stC s v]++ex),[],[]⟩)
theorem drop0(s:St)(nm:List UInt8)(hs:s.pods.length≤100000):Goes cfg a27 [.c c27] (initEnv [encSt s,.str nm]) ⟨[],[],[]⟩ (RetDr [] s nm):=by
 obtain⟨nodes,pods,buds⟩:=s
 have hT:Tame [(encSt ⟨nodes,pods,buds⟩).cells,[.str nm],[.sl .full [],.sl .full [],.sl .full []]]:=tame_data rfl
 by_cases hp:pods=[]
 ·subst hp
  have h1:=clone_none [(encSt ⟨nodes,[],buds⟩).cells,[.str nm],[.sl .full [],.sl .full [],.sl .full []]] hT
  have h2:=delete_nil (jj:=1) hT
  have out:RetDr [] ⟨nodes,[],buds⟩ nm (.ret (stA ⟨nodes,[],buds⟩ (.sl .nil [])),⟨[stC ⟨nodes,[],buds⟩ (.sl .nil []),[.str nm],stC ⟨nodes,[],buds⟩ (.sl .nil [])],[],[]⟩):=⟨_,[],.none rfl rfl,rfl⟩
  exact let ζ1:Heap:={boxes:=[(encSt {nodes:=nodes,pods:=[],buds:=buds:St}).cells,[.str nm],[.sl .full [],.sl .full [],.sl .full []]],toks:=[],loops:=[]:Heap};let ζ2:List AV:=[.sl .sh (List.map encN {nodes:=nodes,pods:=[],buds:=buds:St}.nodes),.sl .nil [],.sl .sh (List.map encB {nodes:=nodes,pods:=[],buds:=buds:St}.buds)];goG 60 [] trivial (.effY (show Does cfg (.callM (.c (.func (90:FuncId) [])) [.c (.sl .sh [])]) ζ1 (.sl .nil []) ζ1 from h1)<|.effY (show Does cfg (.callM (.c (.func (89:FuncId) [])) [.c (.sl .nil []),.c (.func (91:FuncId) [.ptr 1 0])]) ζ1 (.sl .nil []) ζ1 from h2)<|.fin ((.ret (.agg ζ2),{boxes:=[ζ2,[.str nm],ζ2],toks:=[],loops:=[]:Heap})) (by exact out)) (by kernel_rfl)
 ·have h1:=clone_any hp hs [(encSt ⟨nodes,pods,buds⟩).cells,[.str nm],[.sl .full [],.sl .full [],.sl .full []]]
  obtain⟨Z,hZ,hl,h2⟩:=delete_any (B:=[(encSt ⟨nodes,pods,buds⟩).cells,[.str nm],[.sl .full [],.sl .full [],.sl .full []],pcs pods]) (kk:=3) (jj:=1) (n:=pods.length) (nm:=nm) (C:=pods) (by simp only at hs;omega) (by decide) rfl rfl (tame_app (ex:=[pcs pods]) hT (by simp[pcs_data])) rfl
  have hpos:0<pods.length:=List.length_pos_iff.2 hp
  have out:RetDr [] ⟨nodes,pods,buds⟩ nm (.ret (stA ⟨nodes,pods,buds⟩ (.msl 3 0 (offP nm pods).length 11)),⟨[stC ⟨nodes,pods,buds⟩ (.msl 3 0 (offP nm pods).length 11),[.str nm],stC ⟨nodes,pods,buds⟩ (.msl 3 0 (offP nm pods).length 11),pcs (offP nm pods)++Z],[],[]⟩):=⟨_,_,.some Z hZ hpos hl,rfl⟩
  have h1':Does cfg (.callM (.c (.func 90 [])) [.c (.sl .sh (pods.map encPd))]) ⟨[(encSt ⟨nodes,pods,buds⟩).cells,[.str nm],[.sl .full [],.sl .full [],.sl .full []]],[],[]⟩ (.msl 3 0 pods.length 11) ⟨[(encSt ⟨nodes,pods,buds⟩).cells,[.str nm],[.sl .full [],.sl .full [],.sl .full []],pcs pods],[],[]⟩:=h1
  have h2':Does cfg (.callM (.c (.func 89 [])) [.c (.msl 3 0 pods.length 11),.c (.func 91 [.ptr 1 0])]) ⟨[(encSt ⟨nodes,pods,buds⟩).cells,[.str nm],[.sl .full [],.sl .full [],.sl .full []],pcs pods],[],[]⟩ (.msl 3 0 (offP nm pods).length 11) ⟨[(encSt ⟨nodes,pods,buds⟩).cells,[.str nm],[.sl .full [],.sl .full [],.sl .full []],pcs (offP nm pods)++Z],[],[]⟩:=h2
  generalize pcs (offP nm pods)++Z=R at h2' out
  generalize pcs pods=Q at h1' h2'
  exact let ζ1:List AV:=[.sl .sh (List.map encN {nodes:=nodes,pods:=pods,buds:=buds:St}.nodes),.msl (3:Nat) (0:Nat) (offP nm pods).length (11:Nat),.sl .sh (List.map encB {nodes:=nodes,pods:=pods,buds:=buds:St}.buds)];let ζ3:List AV:=[.sl .full [],.sl .full [],.sl .full []];let ζ2:Heap:={boxes:=[(encSt {nodes:=nodes,pods:=pods,buds:=buds:St}).cells,[.str nm],ζ3,Q],toks:=[],loops:=[]:Heap};goG 60 [] trivial (.effY (show Does cfg (.callM (.c (.func (90:FuncId) [])) [.c (.sl .sh (pods.map encPd))]) {boxes:=[(encSt {nodes:=nodes,pods:=pods,buds:=buds:St}).cells,[.str nm],ζ3],toks:=[],loops:=[]:Heap} (.msl (3:Nat) (0:Nat) pods.length (11:Nat)) ζ2 from h1')<|.effY (show Does cfg (.callM (.c (.func (89:FuncId) [])) [.c (.msl (3:Nat) (0:Nat) pods.length (11:Nat)),.c (.func (91:FuncId) [.ptr 1 0])]) ζ2 (.msl (3:Nat) (0:Nat) (offP nm pods).length (11:Nat)) {boxes:=[(encSt {nodes:=nodes,pods:=pods,buds:=buds:St}).cells,[.str nm],ζ3,R],toks:=[],loops:=[]:Heap}from h2')<|.fin ((.ret (.agg ζ1),{boxes:=[ζ1,[.str nm],ζ1,R],toks:=[],loops:=[]:Heap})) (by exact out)) (by kernel_rfl)
def dropS(s:St)(nm:List UInt8):St:={s with pods:=offP nm s.pods}
theorem unrow_pods(Z:List AV):∀l:List Pod,unrow 11 l.length (pcs l++Z)=l.map encPd
 |[]=>rfl
 |x::l=>by
  have e:pcs (x::l)++Z=(encPd x).cells++(pcs l++Z):=by simp[pcs,rowCells]
  have ih:=unrow_pods Z l
  rw[e]
  show encPd x::unrow 11 l.length (pcs l++Z)=_
  rw[ih];rfl
theorem frz_pods{bs:List (List AV)}{kk:Nat}{l:List Pod}{Z:List AV}(hk:bs[kk]?=some (pcs l++Z))(hZ:Z.all data0=true):frz1 ⟨bs,[],[]⟩ (.msl kk 0 l.length 11)=some (.sl .sh (l.map encPd)):=by
 have hl:=pcs_len l
 simp only[frz1,hk,List.drop_zero]
 rw[if_pos ⟨by rw[List.length_append];omega,Nat.zero_le _,by decide,by rw[List.all_append,pcs_data,hZ];rfl⟩,unrow_pods]
theorem out_stA{bs:List (List AV)}{s:St}{v:AV}{l:List Pod}(hv:isData (shutA (stA s v))=false)(hs:shut1 v=v)(hf:frz1 ⟨bs,[],[]⟩ v=some (.sl .sh (l.map encPd))):dataOut ⟨bs,[],[]⟩ (stA s v)=some (encSt {s with pods:=l}):=by
 unfold dataOut
 rw[if_neg (by rw[hv];decide)]
 have:frzA ⟨bs,[],[]⟩ (stA s v)=some (encSt {s with pods:=l}):=by
  simp only[stA,frzA,frz2,frzL,hf]
  simp[frz1,encSt]
 rw[this]
 rfl
theorem pr_out{B:List (List AV)}{s:St}{l:List Pod}{v:AV}{ex:List (List AV)}{n:Nat}{b0 b1 b2:List AV}(h:PR (B.length+3) n l v ex):dataOut ⟨B++([b0,b1,b2]++ex),[],[]⟩ (stA s v)=some (encSt {s with pods:=l}):=by
 cases h with
 |some Z hZ hn hl=>
  refine out_stA rfl rfl (frz_pods ?_ hZ)
  rw[List.getElem?_append_right (by omega),Nat.add_sub_cancel_left]
  rfl
 |none h0 hl=>subst hl;exact out_stA rfl rfl rfl
theorem drop_gives(s:St)(nm:List UInt8)(hs:s.pods.length≤100000):GivesF cfg 27 [encSt s,.str nm] (encSt (dropS s nm)):=by
 obtain⟨r,h,v,ex,hp,rfl⟩:=drop0 s nm hs
 refine⟨_,_,(l27 _ _).trans h,pr_out (B:=[]) hp⟩
end Go.Aa.T
set_option linter.unusedVariables false
set_option linter.unusedSimpArgs false
set_option maxRecDepth 100000
namespace Go.Aa.T
open Go.Aa Go.Proofs
def before(nm:List UInt8)(p:Pod):Bool:=Op.bytesLess p.name nm
end Go.Aa.T
set_option linter.unusedVariables false
set_option linter.unusedSimpArgs false
set_option maxRecDepth 100000
namespace Go.Aa.T
open Go.Aa Go.Proofs
def srtP(l:List Pod):Prop:=l.Pairwise fun a b=>Op.bytesLess a.name b.name=true
theorem off_len(nm:List UInt8)(l:List Pod):(offP nm l).length≤l.length:=List.length_filter_le _ _
end Go.Aa.T
set_option linter.unusedVariables false
set_option linter.unusedSimpArgs false
set_option maxRecDepth 100000
namespace Go.Aa.T
open Go.Aa Go.Proofs
theorem less_lt{x y:List UInt8}:Op.bytesLess x y=true↔x<y:=by rw[bl_eq,decide_eq_true_eq]
theorem ord_of_not{x y:List UInt8}(h:¬(Op.bytesLess x y||x==y)=true):Op.bytesLess y x=true:=bl_not (by simpa only[Bool.not_eq_true]using h)
theorem ckAl_ordX{X:Type}{ck:X→Int}{nm:X→List UInt8}{s:List X}:∀{post:List X}{i:Nat},ckAl ck nm s i post=0→s.drop i=post→∀(j:Nat)(x p:X),i≤j+1→s[j+1]?=some x→s[j]?=some p→Op.bytesLess (nm p) (nm x)=true
 |[],i,_,hd,j,x,p,hi,hx,hp=>by
  have:=drop_ge hd
  have h2:j+1<s.length:=(List.getElem?_eq_some_iff.1 hx).1
  omega
 |y::post,i,h,hd,j,x,p,hi,hx,hp=>by
  unfold ckAl at h
  split at h
  ·split at h
   ·cases h
   ·rename_i ho
    rcases Nat.lt_or_ge i (j+1)with hlt|hge
    ·exact ckAl_ordX h (drop_next hd) j x p (by omega) hx hp
    ·have e:i=j+1:=by omega
     subst e
     have ey:y=x:=by
      have:=drop_at hd
      rw[hx]at this
      exact(Option.some.inj this).symm
     subst ey
     simp only[ordG,hp,Bool.not_eq_true]at ho
     exact ord_of_not (by rw[ho];decide)
  ·rename_i hx0;exact absurd h hx0
theorem names_ltX{X:Type}{most:Nat}{ck:X→Int}{nm:X→List UInt8}{s:List X}(h:ckAll most ck nm s=0):∀(d i:Nat)(x y:X),s[i]?=some x→s[i+d+1]?=some y→Op.bytesLess (nm x) (nm y)=true:=by
 have h0:ckAl ck nm s 0 s=0:=by
  unfold ckAll at h
  split at h
  ·exact h
  ·cases h
 intro d
 induction d with
 |zero=>intro i x y hx hy;exact ckAl_ordX h0 rfl i y x (by omega) hy hx
 |succ d ih=>
  intro i x y hx hy
  obtain⟨z,hz⟩:∃z,s[i+d+1]?=some z:=⟨s[i+d+1]'(by have:=(List.getElem?_eq_some_iff.1 hy).1;omega),List.getElem?_eq_getElem _⟩
  have a:=less_lt.1 (ih i x z hx hz)
  have b:=less_lt.1 (ckAl_ordX h0 rfl (i+d+1) y z (by omega) hy hz)
  exact less_lt.2 (List.lt_trans a b)
theorem ck_srt{s:St}(h:ckSt s=0):srtP s.pods:=by
 have h1:ckAll 128 ckPd Pod.name s.pods=0:=firstE_zero h _ (by simp)
 refine List.pairwise_iff_getElem.2 fun i j hi hj hij=> ?_
 exact names_ltX h1 (j-i-1) i _ _ (List.getElem?_eq_getElem hi) (by rw[show i+(j-i-1)+1=j by omega];exact List.getElem?_eq_getElem hj)
theorem off_mem{nm:List UInt8}{l:List Pod}{x:Pod}(h:x∈offP nm l):x∈l∧x.name≠nm:=by
 have:=List.mem_filter.1 h
 exact⟨this.1,by simpa using this.2⟩
end Go.Aa.T
set_option linter.unusedVariables false
set_option linter.unusedSimpArgs false
set_option maxRecDepth 100000
namespace Go.Aa.T
open Go.Aa Go.Proofs
theorem gfD{g:FuncId}{xs:List AV}{u:AV}(h:GivesF cfg g xs u)(hx:xs.map shutA=xs)(hd:xs.all isData=true)(H:Heap)(T:Env):opStepD (lim cfg) (.call (.c (.func g [])) (xs.map .c)) T H=some (.val u H):=by
 obtain⟨v,H1,h1,h2⟩:=h
 have e:(xs.map Opd.c).map (fun x=>shutA (ev T x))=xs:=by rw[List.map_map];exact hx
 simp only[opStepD,e]
 rw[show ev T (.c (.func g []))=.func g []from rfl]
 simp only[callD,hd,List.all_nil,Bool.and_self,if_true,List.append_nil,h1,h2]
def _root_.Go.Aa.ScrQ.callGF{A:AFunc}{R:ARes×Heap→Prop}{g:FuncId}{u:AV}(xs:List AV)(h:GivesF cfg g xs u)(hx:xs.map shutA=xs)(hd:xs.all isData=true)(H:Heap)(s:ScrQ cfg A R):ScrQ cfg A R:=.effS (.call (.c (.func g [])) (xs.map .c)) H u (gfD h hx hd H) s
theorem gf27{a b:St}{nm:List UInt8}(h:GivesF cfg 27 [encSt a,.str nm] (encSt b))(H:Heap):Does cfg (.call (.c (.func 27 [])) [.c (encSt a),.c (.str nm)]) H (encSt b) H:=does_callF h rfl rfl H
end Go.Aa.T
set_option linter.unusedVariables false
set_option linter.unusedSimpArgs false
set_option maxRecDepth 100000
namespace Go.Aa.T
open Go.Aa Go.Proofs
section
variable{H:Heap}{g:FuncId}{k:Nat}{p:Tol→Bool}
theorem idxL_loop(hd:∀y:Tol,Does cfg (.call (.c (.func g [.ptr k 0])) [.c (encL y)]) H (.bool (p y)) H)(l:List Tol)(hn:l.length<9223372036854775807):∀(post:List Tol)(i:Nat)(hdr:l.drop i=post)(T:Env)
 (hT:Has T [(0,.sl .sh (l.map encL)),(1,.func g [.ptr k 0]),(7,.int .i64 l.length),(8,.int .i64 i)]),
 Goes cfg a216 k216_0 T H (fun r=>r=(.ret (.int .i64 (fidxB p post i)),H)):=by
 intro post
 induction post with
 |nil=>
  intro i hdr T hT
  have hge:=drop_ge hdr
  exact goG 60 _ hT (.no (decide_eq_false (p:=(↑i:Int)<(↑l.length:Int)) (by omega))<|.fin ((.ret (.int .i64 (-1:Int)),H)) rfl) (by kernel_rfl)
 |cons x post ih=>
  intro i hdr T hT
  have hlt:=drop_lt hdr
  have hnx:=drop_next hdr
  have hdx:=hd x
  cases hp:p x with
  |true=>
   rw[hp]at hdx
   have e:fidxB p (x::post) i=i:=by simp[fidxB,hp]
   rw[e]
   exact let ζ1:List AV:=[.str x.key,.str x.val,.bool x.any];goG 60 _ hT (.yes (decide_eq_true (p:=(↑i:Int)<(↑l.length:Int)) (by omega))<|.idx (show idxA 3 (.sl .sh (l.map encL)) (.int .i64 ↑i)=some (.ref (encL x).cells)from idx_row hdr (by rfl))<|.load (rfl:loadA true 3 H (.ref ζ1)=some (.agg ζ1))<|.effY (show Does cfg (.call (.c (.func g [.ptr k (0:Nat)])) [.c (encL x)]) H (.bool true) H from hdx)<|.tt<|.fin ((.ret (.int .i64 ↑i),H)) rfl) (by kernel_rfl)
  |false=>
   rw[hp]at hdx
   have e:fidxB p (x::post) i=fidxB p post (i+1):=by simp[fidxB,hp]
   rw[e]
   exact let ζ1:List AV:=[.str x.key,.str x.val,.bool x.any];goG 60 _ hT (.yes (decide_eq_true (p:=(↑i:Int)<(↑l.length:Int)) (by omega))<|.idx (show idxA 3 (.sl .sh (l.map encL)) (.int .i64 ↑i)=some (.ref (encL x).cells)from idx_row hdr (by rfl))<|.load (rfl:loadA true 3 H (.ref ζ1)=some (.agg ζ1))<|.effY (show Does cfg (.call (.c (.func g [.ptr k (0:Nat)])) [.c (encL x)]) H (.bool false) H from hdx)<|.ff<|.bin (show binA .add (.int .i64 ↑i) (.int .i64 1)=some (.int .i64 (↑(i+1)))from inc_i (by omega))<|.cutQ k216_0 [(0,.sl .sh (l.map encL)),(1,.func g [.ptr k (0:Nat)]),(7,.int .i64 (↑l.length)),(8,.int .i64 (↑(i+1)))] (H) (fun T hT=>(ih (i+(1:Nat)) hnx T hT))) (by kernel_rfl)
theorem idxL(hd:∀y:Tol,Does cfg (.call (.c (.func g [.ptr k 0])) [.c (encL y)]) H (.bool (p y)) H)(l:List Tol)(hn:l.length<9223372036854775807):
 lim cfg (.fn 216) [.sl .sh (l.map encL),.func g [.ptr k 0]] H=some (.ret (.int .i64 (fidxB p l 0)),H):=by
 rw[l216]
 have h:=idxL_loop hd l hn l 0 rfl
 have key:Goes cfg a216 [.c c216] (initEnv [.sl .sh (l.map encL),.func g [.ptr k 0]]) H (fun r=>r=(.ret (.int .i64 (fidxB p l 0)),H)):=by
  exact goG 60 [] trivial (.len (show lenA false (.sl .sh (l.map encL))=some (.int .i64 (↑l.length))from len_map _)<|.cutQ k216_0 [(0,.sl .sh (l.map encL)),(1,.func g [.ptr k (0:Nat)]),(7,.int .i64 (↑l.length)),(8,.int .i64 0)] (H) (fun T hT=>(h T hT))) (by kernel_rfl)
 obtain⟨r,h,rfl⟩:=key
 exact h
end
theorem bears_one(t:Taint)(y:Tol):Does cfg (.call (.c (.func 202 [.ptr 0 0])) [.c (encL y)]) ⟨[t.cells],[],[]⟩ (.bool (one1 y t)) ⟨[t.cells],[],[]⟩:=by
 have key:Goes cfg a202 [.c c202] (initEnv [encL y,.ptr 0 0]) ⟨[t.cells],[],[]⟩ (fun r=>r=(.ret (.bool (one1 y t)),⟨[t.cells]++[(encL y).cells],[],[]⟩)):=by
  by_cases h1:y.key=[]
  ·by_cases h2:y.any=true
   ·have e:one1 y t=true:=by simp[one1,h1,h2]
    rw[e]
    exact goG 60 [] trivial (.yes (show(y.key==[])=true from(by simpa using h1))<|.tt<|.yes (show(y.any)=true from(by simpa using h2))<|.fin ((.ret (.bool true),{boxes:=[[.str t.key,.str t.val,.bool t.hard],[.str y.key,.str y.val,.bool y.any]],toks:=[],loops:=[]:Heap})) rfl) (by kernel_rfl)
   ·have e:one1 y t=(y.val==t.val):=by simp[one1,h1,h2]
    rw[e]
    exact goG 60 [] trivial (.yes (show(y.key==[])=true from(by simpa using h1))<|.tt<|.no (show(y.any)=false from Bool.eq_false_iff.2 (by simpa using h2))<|.fin ((.ret (.bool (y.val==t.val)),{boxes:=[[.str t.key,.str t.val,.bool t.hard],[.str y.key,.str y.val,.bool y.any]],toks:=[],loops:=[]:Heap})) rfl) (by kernel_rfl)
  ·by_cases h3:y.key=t.key
   ·by_cases h2:y.any=true
    ·have e:one1 y t=true:=by simp[one1,h3,h2]
     rw[e]
     exact goG 60 [] trivial (.no (show(y.key==[])=false from Bool.eq_false_iff.2 (by simpa using h1))<|.yes (show(y.key==t.key)=true from(by simpa using h3))<|.yes (show(y.any)=true from(by simpa using h2))<|.fin ((.ret (.bool true),{boxes:=[[.str t.key,.str t.val,.bool t.hard],[.str y.key,.str y.val,.bool y.any]],toks:=[],loops:=[]:Heap})) rfl) (by kernel_rfl)
    ·have e:one1 y t=(y.val==t.val):=by simp[one1,h3,h2]
     rw[e]
     exact goG 60 [] trivial (.no (show(y.key==[])=false from Bool.eq_false_iff.2 (by simpa using h1))<|.yes (show(y.key==t.key)=true from(by simpa using h3))<|.no (show(y.any)=false from Bool.eq_false_iff.2 (by simpa using h2))<|.fin ((.ret (.bool (y.val==t.val)),{boxes:=[[.str t.key,.str t.val,.bool t.hard],[.str y.key,.str y.val,.bool y.any]],toks:=[],loops:=[]:Heap})) rfl) (by kernel_rfl)
   ·have e:one1 y t=false:=by simp[one1,h1,h3]
    rw[e]
    exact goG 60 [] trivial (.no (show(y.key==[])=false from Bool.eq_false_iff.2 (by simpa using h1))<|.no (show(y.key==t.key)=false from Bool.eq_false_iff.2 (by simpa using h3))<|.fin ((.ret (.bool false),{boxes:=[[.str t.key,.str t.val,.bool t.hard],[.str y.key,.str y.val,.bool y.any]],toks:=[],loops:=[]:Heap})) rfl) (by kernel_rfl)
 obtain⟨r,h,rfl⟩:=key
 have h2:lim cfg (.fn 202) ([encL y]++[.ptr 0 0]) ⟨[t.cells],[],[]⟩=some (.ret (.bool (one1 y t)),⟨[t.cells]++[(encL y).cells],[],[]⟩):=by
  rw[l202];exact h
 have hd:=does_callE h2 rfl rfl
 rwa [show shutA (.bool (one1 y t))=.bool (one1 y t)from rfl,trunc_plain (bs:=[t.cells]) (ex:=[(encL y).cells]) (ts:=[]) rfl]at hd
def bearsB(l:List Tol)(t:Taint):Bool:=l.any fun y=>one1 y t
theorem bears_has(l:List Tol)(t:Taint)(hl:l.length<9223372036854775807):lim cfg (.fn 201) [.sl .sh (l.map encL),.func 202 [.ptr 0 0]] ⟨[t.cells],[],[]⟩=some (.ret (.bool (bearsB l t)),⟨[t.cells],[],[]⟩):=by
 rw[l201]
 have h0:=does_callE (xs:=[.sl .sh (l.map encL),.func 202 [.ptr 0 0]]) (caps:=[]) (idxL (g:=202) (k:=0) (bears_one t) l hl) rfl rfl
 rw[show shutA (.int .i64 (fidxB (fun y:Tol=>one1 y t) l 0))=.int .i64 (fidxB (fun y:Tol=>one1 y t) l 0)from rfl,
  show trunc (⟨[t.cells],[],[]⟩:Heap).boxes.length (⟨[t.cells],[],[]⟩:Heap).toks.length (.int .i64 (fidxB (fun y:Tol=>one1 y t) l 0)) ⟨[t.cells],[],[]⟩=⟨[t.cells],[],[]⟩from rfl]at h0
 have hf:decide (0≤fidxB (fun y:Tol=>one1 y t) l 0)=bearsB l t:=fidxB_ge (fun y:Tol=>one1 y t) l 0
 generalize fidxB (fun y:Tol=>one1 y t) l 0=c at h0 hf
 have key:Goes cfg a201 [.c c201] (initEnv [.sl .sh (l.map encL),.func 202 [.ptr 0 0]]) ⟨[t.cells],[],[]⟩ (fun r=>r=(.ret (.bool (bearsB l t)),⟨[t.cells],[],[]⟩)):=by
  exact let ζ1:Heap:={boxes:=[t.cells],toks:=[],loops:=[]:Heap};goG 60 [] trivial (.effY (show Does cfg (.call (.c (.func (216:FuncId) [])) (List.map .c [.sl .sh (l.map encL),.func (202:FuncId) [.ptr 0 0]])) ζ1 (.int .i64 c) ζ1 from h0)<|.fin ((.ret (.bool (decide ((0:Int)≤c))),{boxes:=[[.str t.key,.str t.val,.bool t.hard]],toks:=[],loops:=[]:Heap})) (by simp+zetaDelta [←hf,Taint.cells])) (by kernel_rfl)
 obtain⟨r,h,rfl⟩:=key
 exact h
theorem bears_any(l:List Tol)(t:Taint)(hl:l.length<9223372036854775807):Gives cfg 153 [.sl .sh (l.map encL),encT t] (.bool (bearsB l t)):=by
 refine Gives.run (l153 _ _) ?_
 have h0:=does_callE (xs:=[.sl .sh (l.map encL),.func 202 [.ptr 0 0]]) (caps:=[]) (bears_has l t hl) rfl rfl
 generalize bearsB l t=b at h0⊢
 rw[show trunc (⟨[t.cells],[],[]⟩:Heap).boxes.length (⟨[t.cells],[],[]⟩:Heap).toks.length (shutA (.bool b)) ⟨[t.cells],[],[]⟩=⟨[t.cells],[],[]⟩from rfl,show shutA (.bool b)=.bool b from rfl]at h0
 exact let ζ1:Heap:={boxes:=[t.cells],toks:=[],loops:=[]:Heap};goG 60 [] trivial (.effY (show Does cfg (.call (.c (.func (201:FuncId) [])) (List.map .c [.sl .sh (l.map encL),.func (202:FuncId) [.ptr 0 0]])) ζ1 (.bool b) ζ1 from h0)<|.fin ((.ret (.bool b),{boxes:=[[.str t.key,.str t.val,.bool t.hard]],toks:=[],loops:=[]:Heap})) rfl) (by kernel_rfl)
def worstB(l:List Tol)(t:List Taint):Option Taint:=t.find? fun x=>x.hard&& !bearsB l x
theorem worst_loop(l:List Tol)(t:List Taint)(hl:l.length<9223372036854775807)(hn:t.length<9223372036854775807):∀(post:List Taint)(i:Nat)(bs:List (List AV))(hd:t.drop i=post)(T:Env)
 (hT:Has T [(0,.sl .sh (l.map encL)),(4,.ptr 0 0),(8,.sl .sh (t.map encT)),(9,.int .i64 t.length),(10,.int .i64 i)]),
 Goes cfg a82 k82_0 T ⟨[.str [],.str [],.bool false]::bs,[],[]⟩ (IsRet (worstV (worstB l post))):=by
 intro post
 induction post with
 |nil=>
  intro i bs hd T hT
  have hge:=drop_ge hd
  exact let ζ1:Heap:={boxes:=[.str [],.str [],.bool false]::bs,toks:=[],loops:=[]:Heap};goG 60 _ hT (.no (decide_eq_false (p:=(↑i:Int)<(↑t.length:Int)) (by omega))<|.store (show storeA 3 ζ1 (.ptr 0 0) (.agg [.str [],.str [],.bool false])=some (ζ1)from store_box2 (cs:=[.str [],.str [],.bool false]) (cs':=[.str [],.str [],.bool false]) (by simp+zetaDelta) rfl (by simp+zetaDelta [List.set_append]))<|.fin ((.ret (.tuple [.agg [.str [],.str [],.bool false],.bool false]),ζ1)) rfl) (by kernel_rfl)
 |cons x post ih=>
  intro i bs hd T hT
  have hlt:=drop_lt hd
  have hnx:=drop_next hd
  have hb:=bears_any l x hl
  have ih':=ih (i+1) (bs++[x.cells]) hnx
  cases hh:x.hard with
  |false=>
   have e:worstB l (x::post)=worstB l post:=by simp[worstB,List.find?_cons,hh]
   rw[e]
   exact let ζ1:List AV:=[.str x.key,.str x.val,.bool x.hard];let ζ2:Heap:={boxes:=[.str [],.str [],.bool false]::(bs++[ζ1]),toks:=[],loops:=[]:Heap};goG 90 _ hT (.yes (decide_eq_true (p:=(↑i:Int)<(↑t.length:Int)) (by omega))<|.idx (show idxA 3 (.sl .sh (t.map encT)) (.int .i64 ↑i)=some (.ref (encT x).cells)from idx_row hd (by rfl))<|.load (rfl:loadA true 3 {boxes:=[.str [],.str [],.bool false]::bs,toks:=[],loops:=[]:Heap} (.ref ζ1)=some (.agg ζ1))<|.store (show storeA 3 {boxes:=[.str [],.str [],.bool false]::(bs++[[AV.str [],.str [],.bool false]]),toks:=[],loops:=[]:Heap} (.ptr ([.str [],.str [],.bool false]::bs).length (0:Nat)) (.agg ζ1)=some (ζ2)from store_box2 (cs:=[.str [],.str [],.bool false]) (cs':=ζ1) (by simp+zetaDelta) rfl (by simp+zetaDelta [List.set_append]))<|.load (show loadA false 1 ζ2 (.ptr ([.str [],.str [],.bool false]::bs).length (2:Nat))=some (.bool x.hard)from load_box (cs:=ζ1) (by simp+zetaDelta) rfl)<|.no (show(x.hard)=false from Bool.eq_false_iff.2 (by simp+zetaDelta [hh]))<|.ff<|.bin (show binA .add (.int .i64 ↑i) (.int .i64 1)=some (.int .i64 (↑(i+1)))from inc_i (by omega))<|.cutQ k82_0 [(0,.sl .sh (l.map encL)),(4,.ptr 0 0),(8,.sl .sh (t.map encT)),(9,.int .i64 (↑t.length)),(10,.int .i64 (↑(i+1)))] (ζ2) (fun T hT=>(ih' T hT))) (by kernel_rfl)
  |true=>
   cases hbb:bearsB l x with
   |true=>
    rw[hbb]at hb
    have e:worstB l (x::post)=worstB l post:=by simp[worstB,List.find?_cons,hh,hbb]
    rw[e]
    exact let ζ1:List AV:=[.str x.key,.str x.val,.bool x.hard];let ζ2:Heap:={boxes:=[.str [],.str [],.bool false]::(bs++[ζ1]),toks:=[],loops:=[]:Heap};goG 90 _ hT (.yes (decide_eq_true (p:=(↑i:Int)<(↑t.length:Int)) (by omega))<|.idx (show idxA 3 (.sl .sh (t.map encT)) (.int .i64 ↑i)=some (.ref (encT x).cells)from idx_row hd (by rfl))<|.load (rfl:loadA true 3 {boxes:=[.str [],.str [],.bool false]::bs,toks:=[],loops:=[]:Heap} (.ref ζ1)=some (.agg ζ1))<|.store (show storeA 3 {boxes:=[.str [],.str [],.bool false]::(bs++[[AV.str [],.str [],.bool false]]),toks:=[],loops:=[]:Heap} (.ptr ([.str [],.str [],.bool false]::bs).length (0:Nat)) (.agg ζ1)=some (ζ2)from store_box2 (cs:=[.str [],.str [],.bool false]) (cs':=ζ1) (by simp+zetaDelta) rfl (by simp+zetaDelta [List.set_append]))<|.load (show loadA false 1 ζ2 (.ptr ([.str [],.str [],.bool false]::bs).length (2:Nat))=some (.bool x.hard)from load_box (cs:=ζ1) (by simp+zetaDelta) rfl)<|.yes (show(x.hard)=true from(by omega))<|.load (show loadA true 3 ζ2 (.ptr ([.str [],.str [],.bool false]::bs).length (0:Nat))=some (.agg ζ1)from load_box (cs:=ζ1) (by simp+zetaDelta) rfl)<|.callI hb<|.ff<|.bin (show binA .add (.int .i64 ↑i) (.int .i64 1)=some (.int .i64 (↑(i+1)))from inc_i (by omega))<|.cutQ k82_0 [(0,.sl .sh (l.map encL)),(4,.ptr 0 0),(8,.sl .sh (t.map encT)),(9,.int .i64 (↑t.length)),(10,.int .i64 (↑(i+1)))] (ζ2) (fun T hT=>(ih' T hT))) (by kernel_rfl)
   |false=>
    rw[hbb]at hb
    have e:worstB l (x::post)=some x:=by simp[worstB,List.find?_cons,hh,hbb]
    rw[e]
    exact let ζ1:List AV:=[.str x.key,.str x.val,.bool x.hard];let ζ2:Heap:={boxes:=[.str [],.str [],.bool false]::(bs++[ζ1]),toks:=[],loops:=[]:Heap};let ζ3:Heap:={boxes:=ζ1::(bs++[ζ1]),toks:=[],loops:=[]:Heap};goG 90 _ hT (.yes (decide_eq_true (p:=(↑i:Int)<(↑t.length:Int)) (by omega))<|.idx (show idxA 3 (.sl .sh (t.map encT)) (.int .i64 ↑i)=some (.ref (encT x).cells)from idx_row hd (by rfl))<|.load (rfl:loadA true 3 {boxes:=[.str [],.str [],.bool false]::bs,toks:=[],loops:=[]:Heap} (.ref ζ1)=some (.agg ζ1))<|.store (show storeA 3 {boxes:=[.str [],.str [],.bool false]::(bs++[[AV.str [],.str [],.bool false]]),toks:=[],loops:=[]:Heap} (.ptr ([.str [],.str [],.bool false]::bs).length (0:Nat)) (.agg ζ1)=some (ζ2)from store_box2 (cs:=[.str [],.str [],.bool false]) (cs':=ζ1) (by simp+zetaDelta) rfl (by simp+zetaDelta [List.set_append]))<|.load (show loadA false 1 ζ2 (.ptr ([.str [],.str [],.bool false]::bs).length (2:Nat))=some (.bool x.hard)from load_box (cs:=ζ1) (by simp+zetaDelta) rfl)<|.yes (show(x.hard)=true from(by omega))<|.load (show loadA true 3 ζ2 (.ptr ([.str [],.str [],.bool false]::bs).length (0:Nat))=some (.agg ζ1)from load_box (cs:=ζ1) (by simp+zetaDelta) rfl)<|.callI hb<|.tt<|.load (show loadA true 3 ζ2 (.ptr ([.str [],.str [],.bool false]::bs).length (0:Nat))=some (.agg ζ1)from load_box (cs:=ζ1) (by simp+zetaDelta) rfl)<|.store (show storeA 3 ζ2 (.ptr 0 0) (.agg ζ1)=some (ζ3)from store_box2 (cs:=[.str [],.str [],.bool false]) (cs':=ζ1) (by simp+zetaDelta) rfl (by simp+zetaDelta [List.set_append]))<|.fin ((.ret (.tuple [.agg ζ1,.bool true]),ζ3)) rfl) (by kernel_rfl)
theorem worst_any(l:List Tol)(t:List Taint)(hl:l.length<9223372036854775807)(hn:t.length<9223372036854775807):Gives cfg 82 [.sl .sh (l.map encL),.sl .sh (t.map encT)] (worstV (worstB l t)):=by
 refine Gives.run (l82 _ _) ?_
 have h:=worst_loop l t hl hn t 0 [] rfl
 exact goG 60 [] trivial (.len (show lenA false (.sl .sh (t.map encT))=some (.int .i64 (↑t.length))from len_map _)<|.cutQ k82_0 [(0,.sl .sh (l.map encL)),(4,.ptr 0 0),(8,.sl .sh (t.map encT)),(9,.int .i64 (↑t.length)),(10,.int .i64 0)] ({boxes:=[[.str [],.str [],.bool false]],toks:=[],loops:=[]:Heap}) (fun T hT=>(h T hT))) (by kernel_rfl)
end Go.Aa.T
