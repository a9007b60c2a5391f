/-
  WHAT THE LAW LEANS ON, part 11 of 14: a machine of values and its soundness; the functions of the law upon it; what they come to.
-/
import Derived.Test.YtjoblbpgpmknmaaGreatDoorXsouj
set_option linter.unusedVariables false
set_option linter.unusedSimpArgs false
set_option maxRecDepth 100000
namespace Go.Aa.T
open Go.Aa Go.Proofs
structure StIn(s:St):Prop where
 nodes:s.nodes.length<9223372036854775807
 pods:s.pods.length≤1000
 cap:∀n∈s.nodes,Vin n.cap
 need:∀p∈s.pods,Vin p.need
theorem lenPd{l:List Pod}:lenOk 11 (l.map encPd)=true:=lenOk_map fun _=>rfl
theorem on_loop(s:St)(name:List UInt8)(hs:s.pods.length≤1000):∀(post:List Pod)(i:Nat)(hd:s.pods.drop i=post)(acc:List Pod)(ha:acc.length≤i)(ex:List (List AV))(T:Env)
 (hT:Has T [(1,.str name),(5,rowF encPd acc),(9,.sl .sh (s.pods.map encPd)),(10,.int .i64 s.pods.length),(11,.int .i64 i)]),
 Goes cfg a41 k41_0 T ⟨(encSt s).cells::ex,tkR encPd acc,[]⟩ (IsRet (rowF encPd (acc++post.filter (onP name)))):=by
 intro post
 induction post with
 |nil=>
  intro i hd acc ha ex T hT
  have hge:=drop_ge hd
  rw[show acc++([]:List Pod).filter (onP name)=acc by simp]
  exact gG 60 _ hT (.no (dF ((↑i:Int)<(↑s.pods.length:Int)))<|.fin ((.ret (.sl (skF acc) (acc.map encPd)),{boxes:=[.sl .sh (s.nodes.map encN),.sl .sh (s.pods.map encPd),.sl .sh (s.buds.map encB)]::ex,toks:=tkR encPd acc,loops:=[]:Heap})) rfl)
 |cons x post ih=>
  intro i hd acc ha ex T hT
  have hlt:=drop_lt hd
  have hnx:=drop_next hd
  by_cases hq:onP name x=true
  ·have e:acc++(x::post).filter (onP name)=(acc++[x])++post.filter (onP name):=by simp[List.filter_cons,hq]
   rw[e]
   have ih':=ih (i+1) hnx (acc++[x]) (by simp;omega) (ex++[(encPd x).cells])
   have ap:∀bs ls,appendA 11 184 ⟨bs,tkR encPd acc,ls⟩ (rowF encPd acc) (.sl .full [encPd x])=some (rowF encPd (acc++[x]),⟨bs,tkR encPd (acc++[x]),ls⟩):=fun bs ls=>
    row_append_T encPd (x:=x) (by simp;omega) lenPd rfl rfl
   unfold onP at hq
   simp only[Bool.and_eq_true,beq_iff_eq,Bool.not_eq_true',beq_eq_false_iff_ne]at hq
   obtain⟨q1,q2⟩:=hq
   exact let ζ1:List AV:=[.str x.name,.str x.owner,.int .i64 x.prio,.sl .sh (x.need.map encA),.sl .sh (x.labels.map encP),.sl .sh (x.sel.map encM),.sl .sh (x.tols.map encL),.str x.key,.int .i64 x.most,.str x.node,.bool x.hold];let ζ2:List AV:=[.sl .sh (s.nodes.map encN),.sl .sh (s.pods.map encPd),.sl .sh (s.buds.map encB)];let ζ3:Heap:={boxes:=ζ2::(ex++[ζ1]),toks:=tkR encPd acc,loops:=[]:Heap};let ζ4:List AV:=[.str [],.str [],.int .i64 0,.sl .full [],.sl .full [],.sl .full [],.sl .full [],.str [],.int .i64 0,.str [],.bool false];let ζ5:Heap:={boxes:=ζ2::(ex++[ζ1]),toks:=tkR encPd (acc++[x]),loops:=[]:Heap};gG 120 _ hT (.yes (dT ((↑i:Int)<(↑s.pods.length:Int)))<|.idx (iR 11 encPd hd)<|.load (rfl:loadA true 11 {boxes:=ζ2::ex,toks:=tkR encPd acc,loops:=[]:Heap} (.ref ζ1)=some (.agg ζ1))<|.store (show storeA 11 {boxes:=ζ2::(ex++[ζ4]),toks:=tkR encPd acc,loops:=[]:Heap} (.ptr (ζ2::ex).length 0) (.agg ζ1)=some (ζ3)from store_box2 (cs:=ζ4) (cs':=ζ1) (by simp+zetaDelta) rfl (by simp+zetaDelta [List.set_append]))<|.load (show loadA false 1 ζ3 (.ptr (ζ2::ex).length 9)=some (.str x.node)from load_box (cs:=ζ1) (by simp+zetaDelta) rfl)<|.yes (show(x.node==name)=true from(by simpa using q1))<|.yes (show(!name==[])=true from by have hh:¬((name==[])=true):=(by simpa using q2);simp[hh])<|.load (show loadA true 11 ζ3 (.ptr (ζ2::ex).length 0)=some (.agg ζ1)from load_box (cs:=ζ1) (by simp+zetaDelta) rfl)<|.append (show appendA 11 184 ζ3 (.sl (skF acc) (acc.map encPd)) (.sl .full [.agg ζ1])=some ((rowF encPd (acc++[x]),ζ5))from ap _ _)<|.bin (iI i)<|.cutQ k41_0 [(1,.str name),(5,.sl (skF (acc++[x])) (List.map encPd (acc++[x]))),(9,.sl .sh (s.pods.map encPd)),(10,.int .i64 (↑s.pods.length)),(11,.int .i64 (↑(i+1)))] (ζ5) (fun T hT=>(ih' T hT)))
  ·have e:acc++(x::post).filter (onP name)=acc++post.filter (onP name):=by simp[List.filter_cons,hq]
   rw[e]
   have ih':=ih (i+1) hnx acc (by omega) (ex++[(encPd x).cells])
   by_cases q1:x.node=name
   ·have q2:name=[]:=by
     unfold onP at hq
     simpa[q1]using hq
    exact let ζ1:List AV:=[.str x.name,.str x.owner,.int .i64 x.prio,.sl .sh (x.need.map encA),.sl .sh (x.labels.map encP),.sl .sh (x.sel.map encM),.sl .sh (x.tols.map encL),.str x.key,.int .i64 x.most,.str x.node,.bool x.hold];let ζ2:List AV:=[.sl .sh (s.nodes.map encN),.sl .sh (s.pods.map encPd),.sl .sh (s.buds.map encB)];let ζ3:List AV:=[.str [],.str [],.int .i64 0,.sl .full [],.sl .full [],.sl .full [],.sl .full [],.str [],.int .i64 0,.str [],.bool false];let ζ4:Heap:={boxes:=ζ2::(ex++[ζ1]),toks:=tkR encPd acc,loops:=[]:Heap};gG 120 _ hT (.yes (dT ((↑i:Int)<(↑s.pods.length:Int)))<|.idx (iR 11 encPd hd)<|.load (rfl:loadA true 11 {boxes:=ζ2::ex,toks:=tkR encPd acc,loops:=[]:Heap} (.ref ζ1)=some (.agg ζ1))<|.store (show storeA 11 {boxes:=ζ2::(ex++[ζ3]),toks:=tkR encPd acc,loops:=[]:Heap} (.ptr (ζ2::ex).length 0) (.agg ζ1)=some (ζ4)from store_box2 (cs:=ζ3) (cs':=ζ1) (by simp+zetaDelta) rfl (by simp+zetaDelta [List.set_append]))<|.load (show loadA false 1 ζ4 (.ptr (ζ2::ex).length 9)=some (.str x.node)from load_box (cs:=ζ1) (by simp+zetaDelta) rfl)<|.yes (show(x.node==name)=true from(by simpa using q1))<|.no (show(!name==[])=false from by have hh:(name==[])=true:=(by simpa using q2);simp[hh])<|.bin (iI i)<|.cutQ k41_0 [(1,.str name),(5,.sl (skF acc) (acc.map encPd)),(9,.sl .sh (s.pods.map encPd)),(10,.int .i64 (↑s.pods.length)),(11,.int .i64 (↑(i+1)))] (ζ4) (fun T hT=>(ih' T hT)))
   ·exact let ζ1:List AV:=[.str x.name,.str x.owner,.int .i64 x.prio,.sl .sh (x.need.map encA),.sl .sh (x.labels.map encP),.sl .sh (x.sel.map encM),.sl .sh (x.tols.map encL),.str x.key,.int .i64 x.most,.str x.node,.bool x.hold];let ζ2:List AV:=[.sl .sh (s.nodes.map encN),.sl .sh (s.pods.map encPd),.sl .sh (s.buds.map encB)];let ζ3:List AV:=[.str [],.str [],.int .i64 0,.sl .full [],.sl .full [],.sl .full [],.sl .full [],.str [],.int .i64 0,.str [],.bool false];let ζ4:Heap:={boxes:=ζ2::(ex++[ζ1]),toks:=tkR encPd acc,loops:=[]:Heap};gG 120 _ hT (.yes (dT ((↑i:Int)<(↑s.pods.length:Int)))<|.idx (iR 11 encPd hd)<|.load (rfl:loadA true 11 {boxes:=ζ2::ex,toks:=tkR encPd acc,loops:=[]:Heap} (.ref ζ1)=some (.agg ζ1))<|.store (show storeA 11 {boxes:=ζ2::(ex++[ζ3]),toks:=tkR encPd acc,loops:=[]:Heap} (.ptr (ζ2::ex).length 0) (.agg ζ1)=some (ζ4)from store_box2 (cs:=ζ3) (cs':=ζ1) (by simp+zetaDelta) rfl (by simp+zetaDelta [List.set_append]))<|.load (show loadA false 1 ζ4 (.ptr (ζ2::ex).length 9)=some (.str x.node)from load_box (cs:=ζ1) (by simp+zetaDelta) rfl)<|.no (show(x.node==name)=false from Bool.eq_false_iff.2 (by simpa using q1))<|.ff<|.bin (iI i)<|.cutQ k41_0 [(1,.str name),(5,.sl (skF acc) (acc.map encPd)),(9,.sl .sh (s.pods.map encPd)),(10,.int .i64 (↑s.pods.length)),(11,.int .i64 (↑(i+1)))] (ζ4) (fun T hT=>(ih' T hT)))
theorem on_any(s:St)(name:List UInt8)(hs:s.pods.length≤1000):Gives cfg 41 [encSt s,.str name] (rowF encPd (onS s name)):=by
 refine Gives.run (l41 _ _) ?_
 have h:=on_loop s name hs s.pods 0 rfl [] (by simp) []
 have e:rowF encPd ([]:List Pod)=.sl .full []:=rfl
 rw[e,tk_nil,List.nil_append]at h
 exact gG 60 [] trivial (.len (lM .sh encPd s.pods)<|.cutQ k41_0 [(1,.str name),(5,.sl .full []),(9,.sl .sh (s.pods.map encPd)),(10,.int .i64 (↑s.pods.length)),(11,.int .i64 0)] ({boxes:=[[.sl .sh (s.nodes.map encN),.sl .sh (s.pods.map encPd),.sl .sh (s.buds.map encB)]],toks:=[],loops:=[]:Heap}) (fun T hT=>(h T hT)))
def usedS(s:St)(name:List UInt8):List Amount×Int:=match findG Node.name s.nodes name with
 |none=>([],3)
 |some _=>sumG [] ((onS s name).map (·.need))
theorem on_mem{s:St}{name:List UInt8}{p:Pod}(h:p∈onS s name):p∈s.pods:=(List.mem_filter.1 h).1
theorem on_len(s:St)(name:List UInt8):(onS s name).length≤s.pods.length:=List.length_filter_le _ _
theorem used_any(s:St)(name:List UInt8)(hs:StIn s):∃c,Gives cfg 33 [encSt s,.str name] (resV c (usedS s name)):=by
 have h1:=findN_any s.nodes name hs.nodes
 cases hf:findG Node.name s.nodes name with
 |none=>
  rw[hf]at h1
  have e:usedS s name=([],3):=by unfold usedS;rw[hf]
  rw[e]
  refine⟨false,Gives.run (l33 _ _) ?_⟩
  exact let ζ1:List AV:=[.str [],.sl .sh [],.sl .sh [],.sl .sh [],.bool false];let ζ2:List AV:=[.sl .sh (s.nodes.map encN),.str name];gG 60 [] trivial (.callK (ζ2) (.tuple [.agg ζ1,.bool false]) h1<|.tt<|.fin ((.ret (.tuple [.sl .full [],.int .i64 3]),{boxes:=[[.sl .sh (s.nodes.map encN),.sl .sh (s.pods.map encPd),.sl .sh (s.buds.map encB)],ζ1],toks:=[],loops:=[]:Heap})) rfl)
 |some n=>
  rw[hf]at h1
  have e:usedS s name=sumG [] ((onS s name).map (·.need)):=by unfold usedS;rw[hf]
  rw[e]
  have h2:=on_any s name hs.pods
  obtain⟨c,h3⟩:=sumP_any (onS s name) (by have:=on_len s name;have:=hs.pods;omega) (fun p hp=>hs.need p (on_mem hp))
  generalize sumG [] ((onS s name).map (·.need))=z at h3⊢
  refine⟨true,Gives.run (l33 _ _) ?_⟩
  exact let ζ1:List AV:=[.str n.name,.sl .sh (n.cap.map encA),.sl .sh (n.labels.map encP),.sl .sh (n.taints.map encT),.bool n.cordon];let ζ2:List AV:=[.sl .sh (s.nodes.map encN),.sl .sh (s.pods.map encPd),.sl .sh (s.buds.map encB)];let ζ3:List AV:=[.sl .sh (z.fst.map encA),.int .i64 z.snd];let ζ4:List AV:=[.sl .sh (s.nodes.map encN),.str name];gG 90 [] trivial (.callK (ζ4) (.tuple [.agg ζ1,.bool true]) h1<|.ff<|.callG ([.agg ζ2,.str name]) (.sl .sh (List.map encPd (onS s name))) h2 ⟨rfl,rfl⟩ Res.p<|.callG ([.sl .sh (List.map encPd (onS s name)),.func 107 []]) (.tuple ζ3) h3 ⟨rfl,rfl⟩ Res.p<|.fin ((.ret (.tuple ζ3),{boxes:=[ζ2,ζ1],toks:=[],loops:=[]:Heap})) rfl)
def usedR(s:St)(name:List UInt8):List Amount×Int:=match findG Node.name s.nodes name with
 |none=>([],3)
 |some _=>sumG [] ((s.pods.filter fun p=>p.node==name).map (·.need))
theorem used_ref_loop(s:St)(name:List UInt8)(hs:StIn s)(nc:List AV):∀(post:List Pod)(i:Nat)(hd:s.pods.drop i=post)(acc:List Amount)(ha:acc.length≤8∧rgA acc)(c:Bool)(T:Env)
 (hT:Has T [(1,.str name),(2,.ptr 0 0),(8,.sl (kq c) (acc.map encA)),(9,.int .i64 i)]),
 Goes cfg a34 k34_0 T ⟨[(encSt s).cells,nc],[],[]⟩ (RetV (sumG acc ((post.filter fun p=>p.node==name).map (·.need)))):=by
 intro post
 induction post with
 |nil=>
  intro i hd acc ha c T hT
  have hge:=drop_ge hd
  have hp:=hs.pods
  have e:sumG acc (((([]:List Pod).filter fun p=>p.node==name)).map (·.need))=(acc,0):=rfl
  rw[e]
  exact gG 60 _ hT (.len (lM .sh encPd s.pods)<|.no (dF ((↑i:Int)<(↑s.pods.length:Int)))<|.fin ((.ret (.tuple [.sl (kq c) (acc.map encA),.int .i64 0]),{boxes:=[[.sl .sh (s.nodes.map encN),.sl .sh (s.pods.map encPd),.sl .sh (s.buds.map encB)],nc],toks:=[],loops:=[]:Heap})) (by exact⟨c,rfl⟩))
 |cons x post ih=>
  intro i hd acc ha c T hT
  have hlt:=drop_lt hd
  have hnx:=drop_next hd
  have hp:=hs.pods
  have hxi:idxA 11 (.sl .sh (s.pods.map encPd)) (.int .i64 (i:Nat))=some (.ref (encPd x).cells):=idx_row (f:=encPd) hd rfl
  by_cases hq:x.node=name
  ·have e:((x::post).filter fun p=>p.node==name).map (·.need)=x.need::(post.filter fun p=>p.node==name).map (·.need):=by simp[List.filter_cons,hq]
   rw[e]
   have hx:=hs.need x (drop_mem hd)
   obtain⟨c2,h2⟩:=addR acc x.need (by omega) hx.len ha.2 hx.rg
   have hr:=addV_rg acc x.need
   have e2:sumG acc (x.need::(post.filter fun p=>p.node==name).map (·.need))=if(addV acc x.need).2=0 then sumG (addV acc x.need).1 ((post.filter fun p=>p.node==name).map (·.need))else([],(addV acc x.need).2):=rfl
   rw[e2]
   generalize addV acc x.need=z at h2 hr⊢
   obtain⟨w,er⟩:=z
   simp only at h2 hr⊢
   by_cases h0:er=0
   ·subst h0
    rw[if_pos rfl]
    have ih':=ih (i+1) hnx w ⟨hr.2,hr.1⟩ true
    have ek:kq true=.sh:=rfl
    rw[ek]at ih'
    exact gG 120 _ hT (.len (lM .sh encPd s.pods)<|.yes (dT ((↑i:Int)<(↑s.pods.length:Int)))<|.idx hxi<|.no (show(!x.node==name)=false from by have hh:(x.node==name)=true:=(by simpa using hq);simp[hh])<|.idx hxi<|.callG ([.sl (kq c) (acc.map encA),.sl .sh (x.need.map encA)]) (.tuple [.sl .sh (List.map encA (w,(0:Int)).fst),.int .i64 (w,(0:Int)).snd]) h2 Shuts.p Res.p<|.ff<|.bin (iI i)<|.cutQ k34_0 [(1,.str name),(2,.ptr 0 0),(8,.sl .sh (List.map encA (w,(0:Int)).fst)),(9,.int .i64 (↑(i+1)))] ({boxes:=[[.sl .sh (s.nodes.map encN),.sl .sh (s.pods.map encPd),.sl .sh (s.buds.map encB)],nc],toks:=[],loops:=[]:Heap}) (fun T hT=>(ih' T hT)))
   ·rw[if_neg h0]
    exact gG 120 _ hT (.len (lM .sh encPd s.pods)<|.yes (dT ((↑i:Int)<(↑s.pods.length:Int)))<|.idx hxi<|.no (show(!x.node==name)=false from by have hh:(x.node==name)=true:=(by simpa using hq);simp[hh])<|.idx hxi<|.callG ([.sl (kq c) (acc.map encA),.sl .sh (x.need.map encA)]) (.tuple [.sl .sh (List.map encA (w,er).fst),.int .i64 (w,er).snd]) h2 Shuts.p Res.p<|.yes (show((w,er).snd !=(0:Int))=true from(by simpa using h0))<|.fin ((.ret (.tuple [.sl .full [],.int .i64 (w,er).snd]),{boxes:=[[.sl .sh (s.nodes.map encN),.sl .sh (s.pods.map encPd),.sl .sh (s.buds.map encB)],nc],toks:=[],loops:=[]:Heap})) (by exact⟨false,rfl⟩))
  ·have e:((x::post).filter fun p=>p.node==name).map (·.need)=(post.filter fun p=>p.node==name).map (·.need):=by simp[List.filter_cons,hq]
   rw[e]
   have ih':=ih (i+1) hnx acc ha c
   exact gG 120 _ hT (.len (lM .sh encPd s.pods)<|.yes (dT ((↑i:Int)<(↑s.pods.length:Int)))<|.idx hxi<|.yes (show(!x.node==name)=true from by have hh:¬((x.node==name)=true):=(by simpa using hq);simp[hh])<|.bin (iI i)<|.cutQ k34_0 [(1,.str name),(2,.ptr 0 0),(8,.sl (kq c) (acc.map encA)),(9,.int .i64 (↑(i+1)))] ({boxes:=[[.sl .sh (s.nodes.map encN),.sl .sh (s.pods.map encPd),.sl .sh (s.buds.map encB)],nc],toks:=[],loops:=[]:Heap}) (fun T hT=>(ih' T hT)))
theorem used_ref(s:St)(name:List UInt8)(hs:StIn s):∃c,Gives cfg 34 [encSt s,.str name] (resV c (usedR s name)):=by
 have h1:=findN_ref s.nodes name hs.nodes
 refine RetV.gives (l34 _ _) ?_
 cases hf:findG Node.name s.nodes name with
 |none=>
  rw[hf]at h1
  have e:usedR s name=([],3):=by unfold usedR;rw[hf]
  rw[e]
  exact let ζ1:List AV:=[.str [],.sl .sh [],.sl .sh [],.sl .sh [],.bool false];let ζ2:List AV:=[.sl .sh (s.nodes.map encN),.str name];gG 60 [] trivial (.callK (ζ2) (.tuple [.agg ζ1,.bool false]) h1<|.tt<|.fin ((.ret (.tuple [.sl .full [],.int .i64 3]),{boxes:=[[.sl .sh (s.nodes.map encN),.sl .sh (s.pods.map encPd),.sl .sh (s.buds.map encB)],ζ1],toks:=[],loops:=[]:Heap})) (by exact⟨false,rfl⟩))
 |some n=>
  rw[hf]at h1
  have e:usedR s name=sumG [] ((s.pods.filter fun p=>p.node==name).map (·.need)):=by unfold usedR;rw[hf]
  rw[e]
  have h2:=used_ref_loop s name hs (encN n).cells s.pods 0 rfl [] ⟨by simp,fun x hx=>by cases hx⟩ false
  have ek:kq false=.full:=rfl
  rw[ek]at h2
  exact let ζ1:List AV:=[.str n.name,.sl .sh (n.cap.map encA),.sl .sh (n.labels.map encP),.sl .sh (n.taints.map encT),.bool n.cordon];let ζ2:List AV:=[.sl .sh (s.nodes.map encN),.str name];gG 90 [] trivial (.callK (ζ2) (.tuple [.agg ζ1,.bool true]) h1<|.ff<|.cutQ k34_0 [(1,.str name),(2,.ptr 0 0),(8,.sl .full []),(9,.int .i64 0)] ({boxes:=[[.sl .sh (s.nodes.map encN),.sl .sh (s.pods.map encPd),.sl .sh (s.buds.map encB)],ζ1],toks:=[],loops:=[]:Heap}) (fun T hT=>(h2 T hT)))
theorem used_same(s:St){name:List UInt8}(h:name≠[]):usedR s name=usedS s name:=by
 unfold usedR usedS onS
 have e:(s.pods.filter fun p=>p.node==name)=s.pods.filter (onP name):=by
  refine List.filter_congr fun p _=> ?_
  simp[onP,h]
 rw[e]
def totalS(s:St):List Amount×Int:=sumG [] (s.nodes.map (·.cap))
theorem total_any(s:St)(hs:StIn s):∃c,Gives cfg 39 [encSt s] (resV c (totalS s)):=by
 obtain⟨c,h3⟩:=sumN_any s.nodes hs.nodes hs.cap
 unfold totalS
 generalize sumG [] (s.nodes.map (·.cap))=z at h3⊢
 refine⟨true,Gives.run (l39 _ _) ?_⟩
 exact let ζ1:List AV:=[.sl .sh (z.fst.map encA),.int .i64 z.snd];gG 90 [] trivial (.callG ([.sl .sh (s.nodes.map encN),.func 112 []]) (.tuple ζ1) h3 ⟨rfl,rfl⟩ Res.p<|.fin ((.ret (.tuple ζ1),{boxes:=[[.sl .sh (s.nodes.map encN),.sl .sh (s.pods.map encPd),.sl .sh (s.buds.map encB)]],toks:=[],loops:=[]:Heap})) rfl)
theorem total_ref_loop(s:St)(hs:StIn s):∀(post:List Node)(i:Nat)(hd:s.nodes.drop i=post)(acc:List Amount)(ha:acc.length≤8∧rgA acc)(c:Bool)(T:Env)
 (hT:Has T [(1,.ptr 0 0),(4,.sl (kq c) (acc.map encA)),(5,.int .i64 i)]),
 Goes cfg a40 k40_0 T ⟨[(encSt s).cells],[],[]⟩ (RetV (sumG acc (post.map (·.cap)))):=by
 intro post
 induction post with
 |nil=>
  intro i hd acc ha c T hT
  have hge:=drop_ge hd
  have hp:=hs.nodes
  have e:sumG acc (([]:List Node).map (·.cap))=(acc,0):=rfl
  rw[e]
  exact gG 60 _ hT (.len (lM .sh encN s.nodes)<|.no (dF ((↑i:Int)<(↑s.nodes.length:Int)))<|.fin ((.ret (.tuple [.sl (kq c) (acc.map encA),.int .i64 0]),{boxes:=[[.sl .sh (s.nodes.map encN),.sl .sh (s.pods.map encPd),.sl .sh (s.buds.map encB)]],toks:=[],loops:=[]:Heap})) (by exact⟨c,rfl⟩))
 |cons x post ih=>
  intro i hd acc ha c T hT
  have hlt:=drop_lt hd
  have hnx:=drop_next hd
  have hp:=hs.nodes
  have hxi:idxA 5 (.sl .sh (s.nodes.map encN)) (.int .i64 (i:Nat))=some (.ref (encN x).cells):=idx_row (f:=encN) hd rfl
  have hx:=hs.cap x (drop_mem hd)
  obtain⟨c2,h2⟩:=addR acc x.cap (by omega) hx.len ha.2 hx.rg
  have hr:=addV_rg acc x.cap
  have e2:sumG acc ((x::post).map (·.cap))=if(addV acc x.cap).2=0 then sumG (addV acc x.cap).1 (post.map (·.cap))else([],(addV acc x.cap).2):=rfl
  rw[e2]
  generalize addV acc x.cap=z at h2 hr⊢
  obtain⟨w,er⟩:=z
  simp only at h2 hr⊢
  by_cases h0:er=0
  ·subst h0
   rw[if_pos rfl]
   have ih':=ih (i+1) hnx w ⟨hr.2,hr.1⟩ true
   have ek:kq true=.sh:=rfl
   rw[ek]at ih'
   exact gG 120 _ hT (.len (lM .sh encN s.nodes)<|.yes (dT ((↑i:Int)<(↑s.nodes.length:Int)))<|.idx hxi<|.callG ([.sl (kq c) (acc.map encA),.sl .sh (x.cap.map encA)]) (.tuple [.sl .sh (List.map encA (w,(0:Int)).fst),.int .i64 (w,(0:Int)).snd]) h2 Shuts.p Res.p<|.ff<|.bin (iI i)<|.cutQ k40_0 [(1,.ptr 0 0),(4,.sl .sh (List.map encA (w,(0:Int)).fst)),(5,.int .i64 (↑(i+1)))] ({boxes:=[[.sl .sh (s.nodes.map encN),.sl .sh (s.pods.map encPd),.sl .sh (s.buds.map encB)]],toks:=[],loops:=[]:Heap}) (fun T hT=>(ih' T hT)))
  ·rw[if_neg h0]
   exact gG 120 _ hT (.len (lM .sh encN s.nodes)<|.yes (dT ((↑i:Int)<(↑s.nodes.length:Int)))<|.idx hxi<|.callG ([.sl (kq c) (acc.map encA),.sl .sh (x.cap.map encA)]) (.tuple [.sl .sh (List.map encA (w,er).fst),.int .i64 (w,er).snd]) h2 Shuts.p Res.p<|.yes (show((w,er).snd !=(0:Int))=true from(by simpa using h0))<|.fin ((.ret (.tuple [.sl .full [],.int .i64 (w,er).snd]),{boxes:=[[.sl .sh (s.nodes.map encN),.sl .sh (s.pods.map encPd),.sl .sh (s.buds.map encB)]],toks:=[],loops:=[]:Heap})) (by exact⟨false,rfl⟩))
theorem total_ref(s:St)(hs:StIn s):∃c,Gives cfg 40 [encSt s] (resV c (totalS s)):=by
 refine RetV.gives (l40 _ _) ?_
 have h2:=total_ref_loop s hs s.nodes 0 rfl [] ⟨by simp,fun x hx=>by cases hx⟩ false
 have ek:kq false=.full:=rfl
 rw[ek]at h2
 unfold totalS
 exact gG 90 [] trivial (.cutQ k40_0 [(1,.ptr 0 0),(4,.sl .full []),(5,.int .i64 0)] ({boxes:=[[.sl .sh (s.nodes.map encN),.sl .sh (s.pods.map encPd),.sl .sh (s.buds.map encB)]],toks:=[],loops:=[]:Heap}) (fun T hT=>(h2 T hT)))
def capOf(s:St)(name:List UInt8):List Amount:=match findG Node.name s.nodes name with
 |none=>[]
 |some n=>n.cap
def freeG(u:List Amount×Int)(cap:List Amount):List Amount×Int:=if u.2=0 then subV cap u.1 else([],u.2)
def freeS(s:St)(name:List UInt8):List Amount×Int:=freeG (usedS s name) (capOf s name)
theorem sumG_in:∀(vs:List (List Amount))(acc:List Amount),acc.length≤8∧rgA acc→(sumG acc vs).1.length≤8∧rgA (sumG acc vs).1
 |[],acc,h=>h
 |v::vs,acc,h=>by
  unfold sumG
  split
  ·exact sumG_in vs _ ⟨(addV_rg acc v).2,(addV_rg acc v).1⟩
  ·exact⟨by simp,fun x hx=>by cases hx⟩
theorem usedS_in(s:St)(name:List UInt8):(usedS s name).1.length≤8∧rgA (usedS s name).1:=by
 unfold usedS
 split
 ·exact⟨by simp,fun x hx=>by cases hx⟩
 ·exact sumG_in _ _ ⟨by simp,fun x hx=>by cases hx⟩
theorem usedR_in(s:St)(name:List UInt8):(usedR s name).1.length≤8∧rgA (usedR s name).1:=by
 unfold usedR
 split
 ·exact⟨by simp,fun x hx=>by cases hx⟩
 ·exact sumG_in _ _ ⟨by simp,fun x hx=>by cases hx⟩
theorem free_any(s:St)(name:List UInt8)(hs:StIn s):∃c,Gives cfg 37 [encSt s,.str name] (resV c (freeS s name)):=by
 have h1:=findN_any s.nodes name hs.nodes
 obtain⟨c,h2⟩:=used_any s name hs
 have hi:=usedS_in s name
 cases hf:findG Node.name s.nodes name with
 |none=>
  rw[hf]at h1
  have e:usedS s name=([],3):=by unfold usedS;rw[hf]
  rw[e]at h2
  have e:freeS s name=([],3):=by unfold freeS;rw[e];rfl
  rw[e]
  refine⟨false,Gives.run (l37 _ _) ?_⟩
  exact let ζ1:List AV:=[.sl .sh (s.nodes.map encN),.sl .sh (s.pods.map encPd),.sl .sh (s.buds.map encB)];let ζ2:List AV:=[.str [],.sl .sh [],.sl .sh [],.sl .sh [],.bool false];let ζ3:List AV:=[.sl .sh (s.nodes.map encN),.str name];gG 60 [] trivial (.callK (ζ3) (.tuple [.agg ζ2,.bool false]) h1<|.callG ([.agg ζ1,.str name]) (.tuple [.sl .sh [],.int .i64 ([],(3:Int)).snd]) h2 ⟨rfl,rfl⟩ Res.p<|.tt<|.fin ((.ret (.tuple [.sl .full [],.int .i64 ([],(3:Int)).snd]),{boxes:=[ζ1,ζ2],toks:=[],loops:=[]:Heap})) rfl)
 |some n=>
  rw[hf]at h1
  have e:freeS s name=freeG (usedS s name) n.cap:=by unfold freeS capOf;rw[hf]
  rw[e]
  have hn:=hs.cap n (findG_mem hf)
  have h3:=subV_any n.cap (usedS s name).1 hn.len (by omega) hn.rg hi.2
  generalize usedS s name=u at h2 h3⊢
  obtain⟨w,er⟩:=u
  by_cases h0:er=0
  ·subst h0
   have e:freeG (w,0) n.cap=subV n.cap w:=rfl
   rw[e]
   simp only at h3
   generalize subV n.cap w=z at h3⊢
   refine⟨true,Gives.run (l37 _ _) ?_⟩
   exact let ζ1:List AV:=[.str n.name,.sl .sh (n.cap.map encA),.sl .sh (n.labels.map encP),.sl .sh (n.taints.map encT),.bool n.cordon];let ζ2:List AV:=[.sl .sh (s.nodes.map encN),.sl .sh (s.pods.map encPd),.sl .sh (s.buds.map encB)];let ζ3:List AV:=[.sl .sh (z.fst.map encA),.int .i64 z.snd];let ζ4:List AV:=[.sl .sh (s.nodes.map encN),.str name];gG 90 [] trivial (.callK (ζ4) (.tuple [.agg ζ1,.bool true]) h1<|.callG ([.agg ζ2,.str name]) (.tuple [.sl .sh (List.map encA (w,(0:Int)).fst),.int .i64 (w,(0:Int)).snd]) h2 ⟨rfl,rfl⟩ Res.p<|.ff<|.callI h3<|.fin ((.ret (.tuple ζ3),{boxes:=[ζ2,ζ1],toks:=[],loops:=[]:Heap})) rfl)
  ·have e:freeG (w,er) n.cap=([],er):=by simp[freeG,h0]
   rw[e]
   refine⟨false,Gives.run (l37 _ _) ?_⟩
   exact let ζ1:List AV:=[.str n.name,.sl .sh (n.cap.map encA),.sl .sh (n.labels.map encP),.sl .sh (n.taints.map encT),.bool n.cordon];let ζ2:List AV:=[.sl .sh (s.nodes.map encN),.sl .sh (s.pods.map encPd),.sl .sh (s.buds.map encB)];let ζ3:List AV:=[.sl .sh (s.nodes.map encN),.str name];gG 90 [] trivial (.callK (ζ3) (.tuple [.agg ζ1,.bool true]) h1<|.callG ([.agg ζ2,.str name]) (.tuple [.sl .sh (List.map encA (w,er).fst),.int .i64 (w,er).snd]) h2 ⟨rfl,rfl⟩ Res.p<|.yes (show((w,er).snd !=(0:Int))=true from(by simpa using h0))<|.fin ((.ret (.tuple [.sl .full [],.int .i64 (w,er).snd]),{boxes:=[ζ2,ζ1],toks:=[],loops:=[]:Heap})) rfl)
end Go.Aa.T
set_option linter.unusedVariables false
set_option linter.unusedSimpArgs false
set_option maxRecDepth 100000
namespace Go.Aa.T
open Go.Aa Go.Proofs
section
variable{call:CallF}{i p:Nat}{o:AOper}{ops:List AOper}{T:Env}{H H':Heap}{u v:AV}
theorem runD_val(hg:o.guard=none)(h:opStepD call o.op T H=some (.val u H')):runD call i (o::ops) none T H=runD call (i+1) ops none (setD T o.dst u) H':=by
 simp only[runD,wantedA,hg,h]
theorem runO_val(hg:o.guard=none)(h:opStep call o.op T H=some (.val u H')):runOps call (o::ops) T H=runOps call ops (setD T o.dst u) H':=by
 simp only[runOps,wantedA,hg,h]
theorem runD_pan(hg:o.guard=none)(h:opStepD call o.op T H=some (.pan v H')):runD call i (o::ops) none T H=runD call (i+1) ops (some (i,v)) T H':=by
 simp only[runD,wantedA,hg,h]
theorem runD_skip(hd:o.deps.contains p=true):runD call i (o::ops) (some (p,v)) T H=runD call (i+1) ops (some (p,v)) T H:=by
 simp only[runD,hd,if_true]
theorem runD_look(hd:o.deps.contains p=false)(hg:o.guard=none)(h:opStepD call o.op T H=some (.val u H')):runD call i (o::ops) (some (p,v)) T H=runD call (i+1) ops (some (p,v)) (setD T o.dst u) H':=by
 simp only[runD,wantedA,hd,hg,h,Bool.false_eq_true,if_false]
end
theorem Goes.imp{A:AFunc}{k:List AIt}{T:Env}{H:Heap}{R R':ARes×Heap→Prop}(h:Goes cfg A k T H R)(hi:∀r,R r→R' r):Goes cfg A k T H R':=by
 obtain⟨r,h1,h2⟩:=h
 exact⟨r,h1,hi r h2⟩
theorem load_any{agg:Bool}{n k off:Nat}{H:Heap}{cs:List AV}{v:AV}(h:H.boxes[k]?=some cs)(e:loadA agg n ⟨[cs],[],[]⟩ (.ptr 0 off)=some v)(T:Env):opStepD (lim cfg) (.load agg n (.c (.ptr k off))) T H=some (.val v H):=by
 simp only[opStepD,opStep,ev,load_box h e]
def ops50:List AOper:=[⟨some 50,.load true 3 (.t 0),none,[]⟩,⟨some 51,.fld 0 1 (.t 6),none,[]⟩,⟨some 52,.load false 1 (.t 51),none,[1]⟩,⟨some 53,.call (.c (.func 33 [])) [(.t 50),(.t 52)],none,[1,2,0]⟩,⟨some 54,.extract (.t 53) 0,none,[0,2,1,3]⟩,⟨some 55,.extract (.t 53) 1,none,[0,2,1,3]⟩,⟨some 56,.call (.c (.func 105 [])) [(.t 54),(.t 55)],none,[5,3,1,2,0,4]⟩,⟨some 57,.fld 1 1 (.t 6),none,[]⟩,⟨some 58,.load false 1 (.t 57),none,[7]⟩,⟨some 59,.call (.c (.func 58 [])) [(.t 56),(.t 58)],none,[7,8,4,0,2,1,3,5,6]⟩,⟨some 60,.un .not (.t 59),none,[6,5,3,1,2,0,4,8,7,9]⟩]
theorem room_reg(s:St)(x:Node)(ex:List (List AV))(w:List Amount)(er:Int)(h0:¬er=0)(c:Bool)(h1:Gives cfg 33 [encSt s,.str x.name] (resV c (w,er)))(T:Env)(t0:T 0=.ptr 0 0)(t6:T 6=.ptr (ex.length+1) 0):
 regionA (lim cfg) true ops50 T ⟨(encSt s).cells::(ex++[(encN x).cells]),[],[]⟩=
 some (.pan (stopV er) ⟨(encSt s).cells::(ex++[(encN x).cells]),[],[]⟩):=by
 have hb:(⟨(encSt s).cells::(ex++[(encN x).cells]),[],[]⟩:Heap).boxes[ex.length+1]?=some (encN x).cells:=by
  show((encSt s).cells::(ex++[(encN x).cells]))[ex.length+1]?=_
  rw[List.getElem?_cons_succ,List.getElem?_append_right (Nat.le_refl _),Nat.sub_self];rfl
 have hp:=takeN_A (w.map encA) h0
 have m1:=fun T H=>givesD (xs:=[encSt s,.str x.name]) (w:=.tuple [.sl .sh (w.map encA),.int .i64 er]) h1 ⟨rfl,rfl⟩ (by cases c<;>exact⟨rfl,rfl⟩) T H
 have m2:=fun T H=>pansD (xs:=[.sl .sh (w.map encA),.int .i64 er]) hp ⟨rfl,rfl⟩ rfl H T
 have l1:=fun T=>load_any (H:=⟨(encSt s).cells::(ex++[(encN x).cells]),[],[]⟩) (k:=0) (agg:=true) (n:=3) (off:=0) (v:=encSt s) (cs:=(encSt s).cells) rfl rfl T
 have l2:=fun T=>load_any (agg:=false) (n:=1) (off:=0) (v:=.str x.name) hb rfl T
 have l3:=fun T=>load_any (agg:=false) (n:=1) (off:=1) (v:=.sl .sh (x.cap.map encA)) hb rfl T
 generalize(⟨(encSt s).cells::(ex++[(encN x).cells]),[],[]⟩:Heap)=H at l1 l2 l3⊢
 have st:∀(T:Env)(o:AOp)(q:AOp)(r:Option Out),clOp T o=q→opStepD (lim cfg) q T H=r→opStepD (lim cfg) o T H=r:=fun T o q r h1 h2=>by
  rw[←cl_stepD _ T T,h1];exact h2
 change runD (lim cfg) 0 ops50 none T H=_
 unfold ops50
 refine Eq.trans (runD_val (u:=encSt s) (H':=H) rfl ?h) ?_
 case h=>exact st _ _ _ _ (by simp only[clOp,cl,ev,t0]) (l1 _)
 refine Eq.trans (runD_val (u:=.ptr (ex.length+1) 0) (H':=H) rfl ?h) ?_
 case h=>simp[opStepD,opStep,pureOp,ev,setD,upd_eq,t6,fldA]
 refine Eq.trans (runD_val (u:=.str x.name) (H':=H) rfl ?h) ?_
 case h=>exact st _ _ _ _ (by simp[clOp,cl,ev,setD,upd_eq]) (l2 _)
 refine Eq.trans (runD_val (u:=.tuple [.sl .sh (w.map encA),.int .i64 er]) (H':=H) rfl ?h) ?_
 case h=>exact st _ _ _ _ (by simp[clOp,cl,ev,setD,upd_eq]) (m1 _ _)
 refine Eq.trans (runD_val (u:=.sl .sh (w.map encA)) (H':=H) rfl ?h) ?_
 case h=>simp[opStepD,opStep,pureOp,ev,setD,upd_eq,extractA]
 refine Eq.trans (runD_val (u:=.int .i64 er) (H':=H) rfl ?h) ?_
 case h=>simp[opStepD,opStep,pureOp,ev,setD,upd_eq,extractA]
 refine Eq.trans (runD_pan (v:=stopV er) (H':=H) rfl ?h) ?_
 case h=>exact st _ _ _ _ (by simp[clOp,cl,ev,setD,upd_eq]) (m2 _ _)
 refine Eq.trans (runD_look (u:=.ptr (ex.length+1) 1) (H':=H) rfl rfl ?h) ?_
 case h=>simp[opStepD,opStep,pureOp,ev,setD,upd_eq,t6,fldA]
 refine Eq.trans (runD_look (u:=.sl .sh (x.cap.map encA)) (H':=H) rfl rfl ?h) ?_
 case h=>exact st _ _ _ _ (by simp[clOp,cl,ev,setD,upd_eq]) (l3 _)
 refine Eq.trans (runD_skip rfl) ?_
 refine Eq.trans (runD_skip rfl) ?_
 rfl
theorem room_pan(s:St)(x:Node)(ex:List (List AV))(w:List Amount)(er:Int)(h0:¬er=0)(c:Bool)(h1:Gives cfg 33 [encSt s,.str x.name] (resV c (w,er)))(i:Nat)(hlt:i<s.nodes.length)(hxi:idxA 5 (.sl .sh (s.nodes.map encN)) (.int .i64 (i:Nat))=some (.ref (encN x).cells))
 (T:Env)(hT:Has T [(0,.ptr 0 0),(44,.sl .sh (s.nodes.map encN)),(45,.int .i64 s.nodes.length),(46,.int .i64 i)]):
 Goes cfg a100 k100_1 T ⟨(encSt s).cells::ex,[],[]⟩ (fun r=>r.1=.pan (stopV er)):=by
 obtain⟨t0,t44,t45,t46,-⟩:=hT
 have r1:regionA (lim cfg) false [⟨some 47,.bin .lss (.t 46) (.t 45),none,[]⟩] T ⟨(encSt s).cells::ex,[],[]⟩=some (.env (upd T 47 (.bool true)) ⟨(encSt s).cells::ex,[],[]⟩):=by
  have hl:binA .lss (.int .i64 (i:Nat)) (.int .i64 (s.nodes.length:Nat))=some (.bool true):=lssT (by omega)
  simp only[regionA,Bool.false_eq_true,if_false,runOps,wantedA,opStep,pureOp,ev,setD,t46,t45,hl]
 have r2:∃T',regionA (lim cfg) false [⟨some 48,.idx 5 (.t 44) (.t 46),none,[]⟩,⟨some 49,.load true 5 (.t 48),none,[]⟩,⟨some 6,.box (.c (.agg [(.str []),(.sl .full []),(.sl .full []),(.sl .full []),(.bool false)])),none,[]⟩,⟨none,.store 5 (.t 6) (.t 49),none,[]⟩] (upd T 47 (.bool true)) ⟨(encSt s).cells::ex,[],[]⟩=
  some (.env T' ⟨(encSt s).cells::(ex++[(encN x).cells]),[],[]⟩)∧T' 0=.ptr 0 0∧T' 6=.ptr (ex.length+1) 0:=by
  have hl:loadA true 5 ⟨(encSt s).cells::ex,[],[]⟩ (.ref (encN x).cells)=some (encN x):=rfl
  have hs:storeA 5 ⟨(encSt s).cells::ex++[[.str [],.sl .full [],.sl .full [],.sl .full [],.bool false]],[],[]⟩ (.ptr (ex.length+1) 0) (encN x)=some ⟨(encSt s).cells::(ex++[(encN x).cells]),[],[]⟩:=by
   have hb:((encSt s).cells::ex++[[.str [],.sl .full [],.sl .full [],.sl .full [],.bool false]])[ex.length+1]?=some [.str [],.sl .full [],.sl .full [],.sl .full [],.bool false]:=by
    rw[List.cons_append,List.getElem?_cons_succ,List.getElem?_append_right (Nat.le_refl _),Nat.sub_self];rfl
   rw[store_box (cs:=[.str [],.sl .full [],.sl .full [],.sl .full [],.bool false]) (cs':=(encN x).cells) hb rfl]
   simp[List.set_append]
  refine⟨setD (setD (setD (setD (upd T 47 (.bool true)) (some 48) (.ref (encN x).cells)) (some 49) (encN x)) (some 6) (.ptr (ex.length+1) 0)) none .undef,?_,?_,?_⟩
  ·change runOps (lim cfg) _ _ _=_
   refine Eq.trans (runO_val (u:=.ref (encN x).cells) (H':=⟨(encSt s).cells::ex,[],[]⟩) rfl ?h) ?_
   case h=>simp[opStep,pureOp,ev,upd_eq,t44,t46,hxi]
   refine Eq.trans (runO_val (u:=encN x) (H':=⟨(encSt s).cells::ex,[],[]⟩) rfl ?h) ?_
   case h=>simp only[opStep,ev,setD,upd_eq,if_true,hl]
   refine Eq.trans (runO_val (u:=.ptr (ex.length+1) 0) (H':=⟨(encSt s).cells::ex++[[.str [],.sl .full [],.sl .full [],.sl .full [],.bool false]],[],[]⟩) rfl ?h) ?_
   case h=>simp[opStep,ev,boxA,AV.cells]
   refine Eq.trans (runO_val (u:=.undef) (H':=⟨(encSt s).cells::(ex++[(encN x).cells]),[],[]⟩) rfl ?h) ?_
   case h=>
    simp only[opStep,ev,setD,upd_eq,if_true,Nat.reduceEqDiff,if_false]
    rw[hs]
   rfl
  ·simp[setD,upd_eq,t0]
  ·simp[setD,upd_eq]
 obtain⟨T',r2,t0',t6'⟩:=r2
 have r3:=room_reg s x ex w er h0 c h1 T' t0' t6'
 refine⟨(.pan (stopV er),⟨(encSt s).cells::(ex++[(encN x).cells]),[],[]⟩),?_,rfl⟩
 rw[show k100_1=.lp b100_1::k100_1.tail from rfl,runL_lp]
 generalize k100_1.tail=tl
 generalize hbb:(AIt.lp b100_1::tl)=tl2
 unfold b100_1
 rw[runL_seq]
 erw [runL_region,r1]
 simp only
 rw[runL_seq,runL_cond]
 erw[show ev (upd T 47 (.bool true)) (.t 47)=.bool true from rfl]
 simp only[if_true]
 rw[runL_skip,runL_seq,runL_block,runL_seq]
 erw [runL_region]
 erw [r2]
 simp only
 rw[runL_seq]
 erw [runL_region]
 change(match regionA (lim cfg) true ops50 T' ⟨(encSt s).cells::(ex++[(encN x).cells]),[],[]⟩with|some (.env T' H')=>_|some (.pan v H')=>_|none=>_)=_
 rw[r3]
end Go.Aa.T
set_option linter.unusedVariables false
set_option linter.unusedSimpArgs false
set_option maxRecDepth 100000
namespace Go.Aa.T
open Go.Aa Go.Proofs
def fewSt(s:St):Bool:=decide (s.nodes.length≤34)&&(decide (s.pods.length≤130)&&(fewBs s.buds&&(s.nodes.all fewN&&s.pods.all fewPd)))
structure FewS(s:St):Prop where
 nodes:s.nodes.length≤34
 pods:s.pods.length≤130
 buds:fewBs s.buds=true
 node:∀n∈s.nodes,fewN n=true
 pod:∀p∈s.pods,fewPd p=true
theorem fewS{s:St}(h:fewSt s=true):FewS s:=by
 simp only[fewSt,Bool.and_eq_true,decide_eq_true_eq,List.all_eq_true]at h
 exact⟨h.1,h.2.1,h.2.2.1,h.2.2.2.1,h.2.2.2.2⟩
theorem fewSt_pods(s:St)(hs:s.pods.length≤130):∀(post:List Pod)(i:Nat)(hd:s.pods.drop i=post)(T:Env)(hT:Has T [(1,.ptr 0 0),(4,.int .i64 i)]),
 Goes cfg a30 k30_1 T ⟨[(encSt s).cells],[],[]⟩ (IsRet (.bool (post.all fewPd))):=by
 intro post
 induction post with
 |nil=>
  intro i hd T hT
  have hge:=drop_ge hd
  exact gG 60 _ hT (.len (lM .sh encPd s.pods)<|.no (dF ((↑i:Int)<(↑s.pods.length:Int)))<|.fin ((.ret (.bool true),{boxes:=[[.sl .sh (s.nodes.map encN),.sl .sh (s.pods.map encPd),.sl .sh (s.buds.map encB)]],toks:=[],loops:=[]:Heap})) rfl)
 |cons x post ih=>
  intro i hd T hT
  have hlt:=drop_lt hd
  have hnx:=drop_next hd
  have hx:=fewPd_any x
  have hxi:idxA 11 (.sl .sh (s.pods.map encPd)) (.int .i64 (i:Nat))=some (.ref (encPd x).cells):=idx_row (f:=encPd) hd rfl
  rw[List.all_cons]
  cases hb:fewPd x with
  |true=>
   rw[hb]at hx
   exact gG 60 _ hT (.len (lM .sh encPd s.pods)<|.yes (dT ((↑i:Int)<(↑s.pods.length:Int)))<|.idx hxi<|.callI hx<|.ff<|.bin (iI i)<|.cutQ k30_1 [(1,.ptr 0 0),(4,.int .i64 (↑(i+1)))] ({boxes:=[[.sl .sh (s.nodes.map encN),.sl .sh (s.pods.map encPd),.sl .sh (s.buds.map encB)]],toks:=[],loops:=[]:Heap}) (fun T hT=>(ih (i+1) hnx T hT)))
  |false=>
   rw[hb]at hx
   exact gG 60 _ hT (.len (lM .sh encPd s.pods)<|.yes (dT ((↑i:Int)<(↑s.pods.length:Int)))<|.idx hxi<|.callI hx<|.tt<|.fin ((.ret (.bool false),{boxes:=[[.sl .sh (s.nodes.map encN),.sl .sh (s.pods.map encPd),.sl .sh (s.buds.map encB)]],toks:=[],loops:=[]:Heap})) rfl)
theorem fewSt_nodes(s:St)(hs:s.nodes.length≤34)(hp:s.pods.length≤130):∀(post:List Node)(i:Nat)(hd:s.nodes.drop i=post)(T:Env)(hT:Has T [(1,.ptr 0 0),(3,.int .i64 i)]),
 Goes cfg a30 k30_0 T ⟨[(encSt s).cells],[],[]⟩ (IsRet (.bool (post.all fewN&&s.pods.all fewPd))):=by
 intro post
 induction post with
 |nil=>
  intro i hd T hT
  have hge:=drop_ge hd
  have h2:=fewSt_pods s hp s.pods 0 rfl
  rw[show(([]:List Node).all fewN&&s.pods.all fewPd)=s.pods.all fewPd from rfl]
  exact gG 60 _ hT (.len (lM .sh encN s.nodes)<|.no (dF ((↑i:Int)<(↑s.nodes.length:Int)))<|.cutQ k30_1 [(1,.ptr 0 0),(4,.int .i64 0)] ({boxes:=[[.sl .sh (s.nodes.map encN),.sl .sh (s.pods.map encPd),.sl .sh (s.buds.map encB)]],toks:=[],loops:=[]:Heap}) (fun T hT=>(h2 T hT)))
 |cons x post ih=>
  intro i hd T hT
  have hlt:=drop_lt hd
  have hnx:=drop_next hd
  have hx:=fewN_any x
  have hxi:idxA 5 (.sl .sh (s.nodes.map encN)) (.int .i64 (i:Nat))=some (.ref (encN x).cells):=idx_row (f:=encN) hd rfl
  rw[List.all_cons]
  cases hb:fewN x with
  |true=>
   rw[hb]at hx
   rw[Bool.true_and]
   exact gG 60 _ hT (.len (lM .sh encN s.nodes)<|.yes (dT ((↑i:Int)<(↑s.nodes.length:Int)))<|.idx hxi<|.callI hx<|.ff<|.bin (iI i)<|.cutQ k30_0 [(1,.ptr 0 0),(3,.int .i64 (↑(i+1)))] ({boxes:=[[.sl .sh (s.nodes.map encN),.sl .sh (s.pods.map encPd),.sl .sh (s.buds.map encB)]],toks:=[],loops:=[]:Heap}) (fun T hT=>(ih (i+1) hnx T hT)))
  |false=>
   rw[hb]at hx
   exact gG 60 _ hT (.len (lM .sh encN s.nodes)<|.yes (dT ((↑i:Int)<(↑s.nodes.length:Int)))<|.idx hxi<|.callI hx<|.tt<|.fin ((.ret (.bool false),{boxes:=[[.sl .sh (s.nodes.map encN),.sl .sh (s.pods.map encPd),.sl .sh (s.buds.map encB)]],toks:=[],loops:=[]:Heap})) rfl)
theorem fewSt_any(s:St):Gives cfg 30 [encSt s] (.bool (fewSt s)):=by
 refine Gives.run (l30 _ _) ?_
 have hb:=fewBs_any s.buds
 unfold fewSt
 by_cases h1:s.nodes.length≤34
 ·by_cases h2:s.pods.length≤130
  ·have h3:=fewSt_nodes s h1 h2 s.nodes 0 rfl
   rw[decide_eq_true h1,decide_eq_true h2,Bool.true_and,Bool.true_and]
   cases hq:fewBs s.buds with
   |true=>
    rw[hq]at hb
    rw[Bool.true_and]
    exact gG 90 [] trivial (.len (lM .sh encN s.nodes)<|.no (dF ((34:Int)<(↑s.nodes.length:Int)))<|.len (lM .sh encPd s.pods)<|.no (dF ((130:Int)<(↑s.pods.length:Int)))<|.callI hb<|.ff<|.cutQ k30_0 [(1,.ptr 0 0),(3,.int .i64 0)] ({boxes:=[[.sl .sh (s.nodes.map encN),.sl .sh (s.pods.map encPd),.sl .sh (s.buds.map encB)]],toks:=[],loops:=[]:Heap}) (fun T hT=>(h3 T hT)))
   |false=>
    rw[hq]at hb
    exact gG 90 [] trivial (.len (lM .sh encN s.nodes)<|.no (dF ((34:Int)<(↑s.nodes.length:Int)))<|.len (lM .sh encPd s.pods)<|.no (dF ((130:Int)<(↑s.pods.length:Int)))<|.callI hb<|.tt<|.fin ((.ret (.bool false),{boxes:=[[.sl .sh (s.nodes.map encN),.sl .sh (s.pods.map encPd),.sl .sh (s.buds.map encB)]],toks:=[],loops:=[]:Heap})) rfl)
  ·rw[decide_eq_false h2,Bool.false_and,Bool.and_false]
   exact gG 90 [] trivial (.len (lM .sh encN s.nodes)<|.no (dF ((34:Int)<(↑s.nodes.length:Int)))<|.len (lM .sh encPd s.pods)<|.yes (dT ((130:Int)<(↑s.pods.length:Int)))<|.tt<|.fin ((.ret (.bool false),{boxes:=[[.sl .sh (s.nodes.map encN),.sl .sh (s.pods.map encPd),.sl .sh (s.buds.map encB)]],toks:=[],loops:=[]:Heap})) rfl)
 ·rw[decide_eq_false h1,Bool.false_and]
  exact gG 90 [] trivial (.len (lM .sh encN s.nodes)<|.yes (dT ((34:Int)<(↑s.nodes.length:Int)))<|.tt<|.tt<|.fin ((.ret (.bool false),{boxes:=[[.sl .sh (s.nodes.map encN),.sl .sh (s.pods.map encPd),.sl .sh (s.buds.map encB)]],toks:=[],loops:=[]:Heap})) rfl)
theorem ofSt_any(s:St)(h:FewS s):Gives cfg 20 [encSt s] (encSt s):=by
 refine Gives.run (l20 _ _) ?_
 have h1:=ofNs_any s.nodes (by have:=h.nodes;omega) h.node
 have h2:=ofPds_any s.pods (by have:=h.pods;omega) h.pod
 have h3:=ofBs_any s.buds (fewBs_len h.buds) (fewBs_all h.buds)
 exact let ζ1:List AV:=[.sl .sh (s.nodes.map encN),.sl .sh (s.pods.map encPd),.sl .sh (s.buds.map encB)];gG 90 [] trivial (.callG ([.sl .sh (s.nodes.map encN)]) (.sl .sh (s.nodes.map encN)) h1 ⟨rfl,rfl⟩ Res.p<|.callG ([.sl .sh (s.pods.map encPd)]) (.sl .sh (s.pods.map encPd)) h2 ⟨rfl,rfl⟩ Res.p<|.callG ([.sl .sh (s.buds.map encB)]) (.sl .sh (s.buds.map encB)) h3 ⟨rfl,rfl⟩ Res.p<|.fin ((.ret (.agg ζ1),{boxes:=[ζ1,ζ1],toks:=[],loops:=[]:Heap})) rfl)
def podsE(s:St):List Pod→Int
 |[]=>0
 |p::r=>if p.node≠[]∧findG Node.name s.nodes p.node=none then 3 else podsE s r
def roomE(s:St):List Node→Int
 |[]=>0
 |n::r=>if(usedS s n.name).2=0 then(if fitsV (usedS s n.name).1 n.cap=true then roomE s r else 7)else(usedS s n.name).2
def ckSt(s:St):Int:=firstE [ckAll 32 ckN Node.name s.nodes,ckAll 128 ckPd Pod.name s.pods,ckAll 8 ckB Bud.name s.buds,podsE s s.pods,roomE s s.nodes,(totalS s).2]
def ChkR(e:Int)(r:ARes×Heap):Prop:=(e=0∧r.1=.ret (.tuple []))∨(e≠0∧r.1=.pan (stopV e))
theorem firstE_cons(a:Int)(l:List Int):firstE (a::l)=if a=0 then firstE l else a:=rfl
theorem ck_room(s:St)(hs:StIn s):∀(post:List Node)(i:Nat)(hd:s.nodes.drop i=post)(ex:List (List AV))(T:Env)
 (hT:Has T [(0,.ptr 0 0),(44,.sl .sh (s.nodes.map encN)),(45,.int .i64 s.nodes.length),(46,.int .i64 i)]),
 Goes cfg a100 k100_1 T ⟨(encSt s).cells::ex,[],[]⟩ (ChkR (firstE [roomE s post,(totalS s).2])):=by
 intro post
 induction post with
 |nil=>
  intro i hd ex T hT
  have hge:=drop_ge hd
  obtain⟨c,h1⟩:=total_any s hs
  have e:firstE [roomE s [],(totalS s).2]=(totalS s).2:=by
   simp only[roomE,firstE,if_true];split<;>simp_all
  rw[e]
  generalize totalS s=z at h1⊢
  obtain⟨w,er⟩:=z
  simp only
  by_cases h0:er=0
  ·subst h0
   have h2:=take_A (w.map encA)
   exact let ζ1:List AV:=[.sl .sh (s.nodes.map encN),.sl .sh (s.pods.map encPd),.sl .sh (s.buds.map encB)];let ζ2:List AV:=[.sl .sh (List.map encA (w,(0:Int)).fst),.int .i64 (w,(0:Int)).snd];let ζ3:Heap:={boxes:=ζ1::ex,toks:=[],loops:=[]:Heap};gG 90 _ hT (.no (dF ((↑i:Int)<(↑s.nodes.length:Int)))<|.load (lB true 3 ζ3 0 0 (.agg ζ1) ζ1)<|.callG ([.agg ζ1]) (.tuple ζ2) h1 ⟨rfl,rfl⟩ Res.p<|.callI h2<|.fin ((.ret (.tuple []),ζ3)) (by exact .inl ⟨rfl,rfl⟩))
  ·have h2:=takeN_A (w.map encA) h0
   exact let ζ1:List AV:=[.sl .sh (s.nodes.map encN),.sl .sh (s.pods.map encPd),.sl .sh (s.buds.map encB)];let ζ2:List AV:=[.sl .sh (List.map encA (w,er).fst),.int .i64 (w,er).snd];let ζ3:Heap:={boxes:=ζ1::ex,toks:=[],loops:=[]:Heap};gG 90 _ hT (.no (dF ((↑i:Int)<(↑s.nodes.length:Int)))<|.load (lB true 3 ζ3 0 0 (.agg ζ1) ζ1)<|.callG ([.agg ζ1]) (.tuple ζ2) h1 ⟨rfl,rfl⟩ Res.p<|.callP (ζ2) (ζ3) h2 ⟨rfl,rfl⟩ rfl (by exact .inr ⟨h0,rfl⟩))
 |cons x post ih=>
  intro i hd ex T hT
  have hlt:=drop_lt hd
  have hnx:=drop_next hd
  have hxi:idxA 5 (.sl .sh (s.nodes.map encN)) (.int .i64 (i:Nat))=some (.ref (encN x).cells):=idx_row (f:=encN) hd rfl
  have hnl:=hs.nodes
  obtain⟨c,h1⟩:=used_any s x.name hs
  have hin:=usedS_in s x.name
  have hx:=hs.cap x (drop_mem hd)
  have e:roomE s (x::post)=if(usedS s x.name).2=0 then(if fitsV (usedS s x.name).1 x.cap=true then roomE s post else 7)else(usedS s x.name).2:=rfl
  rw[firstE_cons]
  have h3:=fits_any (usedS s x.name).1 x.cap (by omega) hx.len
  by_cases h0:(usedS s x.name).2=0
  ·rw[if_pos h0]at e
   cases hb:fitsV (usedS s x.name).1 x.cap with
   |true=>
    rw[hb]at h3 e
    rw[if_pos rfl]at e
    rw[e]
    generalize usedS s x.name=z at h1 h3 h0
    obtain⟨w,er⟩:=z
    simp only at h0 h3
    subst h0
    have ih':=ih (i+1) hnx (ex++[(encN x).cells])
    rw[firstE_cons]at ih'
    have h2:=take_A (w.map encA)
    exact let ζ1:List AV:=[.str x.name,.sl .sh (x.cap.map encA),.sl .sh (x.labels.map encP),.sl .sh (x.taints.map encT),.bool x.cordon];let ζ2:List AV:=[.sl .sh (s.nodes.map encN),.sl .sh (s.pods.map encPd),.sl .sh (s.buds.map encB)];let ζ3:Heap:={boxes:=ζ2::(ex++[ζ1]),toks:=[],loops:=[]:Heap};let ζ4:List AV:=[.sl .sh (List.map encA (w,(0:Int)).fst),.int .i64 (w,(0:Int)).snd];let ζ5:List AV:=[.str [],.sl .full [],.sl .full [],.sl .full [],.bool false];let ζ6:List AV:=[.sl .sh (w.map encA),.sl .sh (x.cap.map encA)];gG 120 _ hT (.yes (dT ((↑i:Int)<(↑s.nodes.length:Int)))<|.idx hxi<|.load (rfl:loadA true 5 {boxes:=ζ2::ex,toks:=[],loops:=[]:Heap} (.ref ζ1)=some (.agg ζ1))<|.store (show storeA 5 {boxes:=ζ2::(ex++[ζ5]),toks:=[],loops:=[]:Heap} (.ptr (ζ2::ex).length 0) (.agg ζ1)=some (ζ3)from store_box2 (cs:=ζ5) (cs':=ζ1) (by simp+zetaDelta) rfl (by simp+zetaDelta [List.set_append]))<|.load (lB true 3 ζ3 0 0 (.agg ζ2) ζ2)<|.load (show loadA false 1 ζ3 (.ptr (ζ2::ex).length 0)=some (.str x.name)from load_box (cs:=ζ1) (by simp+zetaDelta) rfl)<|.callG ([.agg ζ2,.str x.name]) (.tuple ζ4) h1 ⟨rfl,rfl⟩ Res.p<|.callI h2<|.load (show loadA false 1 ζ3 (.ptr (ζ2::ex).length 1)=some (.sl .sh (x.cap.map encA))from load_box (cs:=ζ1) (by simp+zetaDelta) rfl)<|.callK (ζ6) (.bool true) h3<|.ff<|.bin (iI i)<|.cutQ k100_1 [(0,.ptr 0 0),(44,.sl .sh (s.nodes.map encN)),(45,.int .i64 (↑s.nodes.length)),(46,.int .i64 (↑(i+1)))] (ζ3) (fun T hT=>(ih' T hT)))
   |false=>
    rw[hb]at h3 e
    rw[if_neg (by decide)]at e
    rw[e,if_neg (by decide)]
    generalize usedS s x.name=z at h1 h3 h0
    obtain⟨w,er⟩:=z
    simp only at h0 h3
    subst h0
    have h2:=take_A (w.map encA)
    have hst:Pans cfg 101 [.int .i64 7] (stopV 7):=stop_pan (by decide)
    exact let ζ1:List AV:=[.str x.name,.sl .sh (x.cap.map encA),.sl .sh (x.labels.map encP),.sl .sh (x.taints.map encT),.bool x.cordon];let ζ2:List AV:=[.sl .sh (s.nodes.map encN),.sl .sh (s.pods.map encPd),.sl .sh (s.buds.map encB)];let ζ3:Heap:={boxes:=ζ2::(ex++[ζ1]),toks:=[],loops:=[]:Heap};let ζ4:List AV:=[.sl .sh (List.map encA (w,(0:Int)).fst),.int .i64 (w,(0:Int)).snd];let ζ5:List AV:=[.str [],.sl .full [],.sl .full [],.sl .full [],.bool false];let ζ6:List AV:=[.sl .sh (w.map encA),.sl .sh (x.cap.map encA)];gG 120 _ hT (.yes (dT ((↑i:Int)<(↑s.nodes.length:Int)))<|.idx hxi<|.load (rfl:loadA true 5 {boxes:=ζ2::ex,toks:=[],loops:=[]:Heap} (.ref ζ1)=some (.agg ζ1))<|.store (show storeA 5 {boxes:=ζ2::(ex++[ζ5]),toks:=[],loops:=[]:Heap} (.ptr (ζ2::ex).length 0) (.agg ζ1)=some (ζ3)from store_box2 (cs:=ζ5) (cs':=ζ1) (by simp+zetaDelta) rfl (by simp+zetaDelta [List.set_append]))<|.load (lB true 3 ζ3 0 0 (.agg ζ2) ζ2)<|.load (show loadA false 1 ζ3 (.ptr (ζ2::ex).length 0)=some (.str x.name)from load_box (cs:=ζ1) (by simp+zetaDelta) rfl)<|.callG ([.agg ζ2,.str x.name]) (.tuple ζ4) h1 ⟨rfl,rfl⟩ Res.p<|.callI h2<|.load (show loadA false 1 ζ3 (.ptr (ζ2::ex).length 1)=some (.sl .sh (x.cap.map encA))from load_box (cs:=ζ1) (by simp+zetaDelta) rfl)<|.callK (ζ6) (.bool false) h3<|.tt<|.callP ([.int .i64 7]) (ζ3) hst ⟨rfl,rfl⟩ rfl (by exact .inr ⟨by decide,rfl⟩))
  ·rw[if_neg h0]at e
   rw[e,if_neg h0]
   generalize usedS s x.name=z at h1 h3 h0⊢
   obtain⟨w,er⟩:=z
   simp only at h0 h3⊢
   exact Goes.imp (room_pan s x ex w er h0 c h1 i hlt hxi T hT) fun r hr=>.inr ⟨h0,hr⟩
theorem ck_pods(s:St)(hs:StIn s):∀(post:List Pod)(i:Nat)(hd:s.pods.drop i=post)(ex:List (List AV))(T:Env)
 (hT:Has T [(0,.ptr 0 0),(20,.sl .sh (s.pods.map encPd)),(21,.int .i64 s.pods.length),(22,.int .i64 i)]),
 Goes cfg a100 k100_0 T ⟨(encSt s).cells::ex,[],[]⟩ (ChkR (firstE [podsE s post,roomE s s.nodes,(totalS s).2])):=by
 intro post
 induction post with
 |nil=>
  intro i hd ex T hT
  have hge:=drop_ge hd
  have hp:=hs.pods
  have h1:=ck_room s hs s.nodes 0 rfl ex
  have e:firstE [podsE s [],roomE s s.nodes,(totalS s).2]=firstE [roomE s s.nodes,(totalS s).2]:=rfl
  rw[e]
  exact let ζ1:List AV:=[.sl .sh (s.nodes.map encN),.sl .sh (s.pods.map encPd),.sl .sh (s.buds.map encB)];let ζ2:Heap:={boxes:=ζ1::ex,toks:=[],loops:=[]:Heap};gG 90 _ hT (.no (dF ((↑i:Int)<(↑s.pods.length:Int)))<|.load (lB false 1 ζ2 0 0 (.sl .sh (s.nodes.map encN)) ζ1)<|.len (lM .sh encN s.nodes)<|.cutQ k100_1 [(0,.ptr 0 0),(44,.sl .sh (s.nodes.map encN)),(45,.int .i64 (↑s.nodes.length)),(46,.int .i64 0)] (ζ2) (fun T hT=>(h1 T hT)))
 |cons x post ih=>
  intro i hd ex T hT
  have hlt:=drop_lt hd
  have hnx:=drop_next hd
  have hp:=hs.pods
  have hxi:idxA 11 (.sl .sh (s.pods.map encPd)) (.int .i64 (i:Nat))=some (.ref (encPd x).cells):=idx_row (f:=encPd) hd rfl
  have h1:=findN_any s.nodes x.node hs.nodes
  have hst:Pans cfg 101 [.int .i64 3] (stopV 3):=stop_pan (by decide)
  have e:podsE s (x::post)=if x.node≠[]∧findG Node.name s.nodes x.node=none then 3 else podsE s post:=rfl
  rw[firstE_cons]
  cases hf:findG Node.name s.nodes x.node with
  |none=>
   rw[hf]at h1
   by_cases hn:x.node=[]
   ·have e':podsE s (x::post)=podsE s post:=by rw[e,if_neg (by simp[hn])]
    rw[e']
    have ih':=ih (i+1) hnx (ex++[(encPd x).cells,(encN noN).cells])
    rw[firstE_cons]at ih'
    exact let ζ1:List AV:=[.str x.name,.str x.owner,.int .i64 x.prio,.sl .sh (x.need.map encA),.sl .sh (x.labels.map encP),.sl .sh (x.sel.map encM),.sl .sh (x.tols.map encL),.str x.key,.int .i64 x.most,.str x.node,.bool x.hold];let ζ2:List AV:=[.sl .sh (s.nodes.map encN),.sl .sh (s.pods.map encPd),.sl .sh (s.buds.map encB)];let ζ3:List AV:=[.str [],.sl .sh [],.sl .sh [],.sl .sh [],.bool false];let ζ4:List AV:=[.str [],.str [],.int .i64 0,.sl .full [],.sl .full [],.sl .full [],.sl .full [],.str [],.int .i64 0,.str [],.bool false];let ζ5:Heap:={boxes:=ζ2::(ex++[ζ1,ζ3]),toks:=[],loops:=[]:Heap};let ζ6:Heap:={boxes:=ζ2::(ex++[ζ1]),toks:=[],loops:=[]:Heap};let ζ7:List AV:=[.str [],.sl .full [],.sl .full [],.sl .full [],.bool false];let ζ8:List AV:=[.sl .sh (s.nodes.map encN),.str x.node];gG 120 _ hT (.yes (dT ((↑i:Int)<(↑s.pods.length:Int)))<|.idx hxi<|.load (rfl:loadA true 11 {boxes:=ζ2::ex,toks:=[],loops:=[]:Heap} (.ref ζ1)=some (.agg ζ1))<|.store (show storeA 11 {boxes:=ζ2::(ex++[ζ4]),toks:=[],loops:=[]:Heap} (.ptr (ζ2::ex).length 0) (.agg ζ1)=some (ζ6)from store_box2 (cs:=ζ4) (cs':=ζ1) (by simp+zetaDelta) rfl (by simp+zetaDelta [List.set_append]))<|.load (lB false 1 ζ6 0 0 (.sl .sh (s.nodes.map encN)) ζ2)<|.load (show loadA false 1 ζ6 (.ptr (ζ2::ex).length 9)=some (.str x.node)from load_box (cs:=ζ1) (by simp+zetaDelta) rfl)<|.callK (ζ8) (.tuple [.agg ζ3,.bool false]) h1<|.store (show storeA 5 {boxes:=ζ2::(ex++[ζ1]++[ζ7]),toks:=[],loops:=[]:Heap} (.ptr (ζ2::(ex++[ζ1])).length 0) (.agg ζ3)=some (ζ5)from store_box2 (cs:=ζ7) (cs':=ζ3) (by simp+zetaDelta) rfl (by simp+zetaDelta [List.set_append]))<|.load (show loadA false 1 ζ5 (.ptr (ζ2::ex).length 9)=some (.str x.node)from load_box (cs:=ζ1) (by simp+zetaDelta) rfl)<|.no (show(!x.node==[])=false from by have hh:(x.node==[])=true:=(by simpa using hn);simp[hh])<|.ff<|.bin (iI i)<|.cutQ k100_0 [(0,.ptr 0 0),(20,.sl .sh (s.pods.map encPd)),(21,.int .i64 (↑s.pods.length)),(22,.int .i64 (↑(i+1)))] (ζ5) (fun T hT=>(ih' T hT)))
   ·have e':podsE s (x::post)=3:=by rw[e,if_pos ⟨hn,hf⟩]
    rw[e',if_neg (by decide)]
    exact let ζ1:List AV:=[.str x.name,.str x.owner,.int .i64 x.prio,.sl .sh (x.need.map encA),.sl .sh (x.labels.map encP),.sl .sh (x.sel.map encM),.sl .sh (x.tols.map encL),.str x.key,.int .i64 x.most,.str x.node,.bool x.hold];let ζ2:List AV:=[.sl .sh (s.nodes.map encN),.sl .sh (s.pods.map encPd),.sl .sh (s.buds.map encB)];let ζ3:List AV:=[.str [],.sl .sh [],.sl .sh [],.sl .sh [],.bool false];let ζ4:List AV:=[.str [],.str [],.int .i64 0,.sl .full [],.sl .full [],.sl .full [],.sl .full [],.str [],.int .i64 0,.str [],.bool false];let ζ5:Heap:={boxes:=ζ2::(ex++[ζ1,ζ3]),toks:=[],loops:=[]:Heap};let ζ6:Heap:={boxes:=ζ2::(ex++[ζ1]),toks:=[],loops:=[]:Heap};let ζ7:List AV:=[.str [],.sl .full [],.sl .full [],.sl .full [],.bool false];let ζ8:List AV:=[.sl .sh (s.nodes.map encN),.str x.node];gG 120 _ hT (.yes (dT ((↑i:Int)<(↑s.pods.length:Int)))<|.idx hxi<|.load (rfl:loadA true 11 {boxes:=ζ2::ex,toks:=[],loops:=[]:Heap} (.ref ζ1)=some (.agg ζ1))<|.store (show storeA 11 {boxes:=ζ2::(ex++[ζ4]),toks:=[],loops:=[]:Heap} (.ptr (ζ2::ex).length 0) (.agg ζ1)=some (ζ6)from store_box2 (cs:=ζ4) (cs':=ζ1) (by simp+zetaDelta) rfl (by simp+zetaDelta [List.set_append]))<|.load (lB false 1 ζ6 0 0 (.sl .sh (s.nodes.map encN)) ζ2)<|.load (show loadA false 1 ζ6 (.ptr (ζ2::ex).length 9)=some (.str x.node)from load_box (cs:=ζ1) (by simp+zetaDelta) rfl)<|.callK (ζ8) (.tuple [.agg ζ3,.bool false]) h1<|.store (show storeA 5 {boxes:=ζ2::(ex++[ζ1]++[ζ7]),toks:=[],loops:=[]:Heap} (.ptr (ζ2::(ex++[ζ1])).length 0) (.agg ζ3)=some (ζ5)from store_box2 (cs:=ζ7) (cs':=ζ3) (by simp+zetaDelta) rfl (by simp+zetaDelta [List.set_append]))<|.load (show loadA false 1 ζ5 (.ptr (ζ2::ex).length 9)=some (.str x.node)from load_box (cs:=ζ1) (by simp+zetaDelta) rfl)<|.yes (show(!x.node==[])=true from by have hh:¬((x.node==[])=true):=(by simpa using hn);simp[hh])<|.tt<|.callP ([.int .i64 3]) (ζ5) hst ⟨rfl,rfl⟩ rfl (by exact .inr ⟨by decide,rfl⟩))
  |some n=>
   rw[hf]at h1
   have e':podsE s (x::post)=podsE s post:=by rw[e,if_neg (by simp[hf])]
   rw[e']
   have ih':=ih (i+1) hnx (ex++[(encPd x).cells,(encN n).cells])
   rw[firstE_cons]at ih'
   by_cases hn:x.node=[]
   ·exact let ζ1:List AV:=[.str x.name,.str x.owner,.int .i64 x.prio,.sl .sh (x.need.map encA),.sl .sh (x.labels.map encP),.sl .sh (x.sel.map encM),.sl .sh (x.tols.map encL),.str x.key,.int .i64 x.most,.str x.node,.bool x.hold];let ζ2:List AV:=[.sl .sh (s.nodes.map encN),.sl .sh (s.pods.map encPd),.sl .sh (s.buds.map encB)];let ζ3:List AV:=[.str n.name,.sl .sh (n.cap.map encA),.sl .sh (n.labels.map encP),.sl .sh (n.taints.map encT),.bool n.cordon];let ζ4:List AV:=[.str [],.str [],.int .i64 0,.sl .full [],.sl .full [],.sl .full [],.sl .full [],.str [],.int .i64 0,.str [],.bool false];let ζ5:Heap:={boxes:=ζ2::(ex++[ζ1,ζ3]),toks:=[],loops:=[]:Heap};let ζ6:Heap:={boxes:=ζ2::(ex++[ζ1]),toks:=[],loops:=[]:Heap};let ζ7:List AV:=[.str [],.sl .full [],.sl .full [],.sl .full [],.bool false];let ζ8:List AV:=[.sl .sh (s.nodes.map encN),.str x.node];gG 120 _ hT (.yes (dT ((↑i:Int)<(↑s.pods.length:Int)))<|.idx hxi<|.load (rfl:loadA true 11 {boxes:=ζ2::ex,toks:=[],loops:=[]:Heap} (.ref ζ1)=some (.agg ζ1))<|.store (show storeA 11 {boxes:=ζ2::(ex++[ζ4]),toks:=[],loops:=[]:Heap} (.ptr (ζ2::ex).length 0) (.agg ζ1)=some (ζ6)from store_box2 (cs:=ζ4) (cs':=ζ1) (by simp+zetaDelta) rfl (by simp+zetaDelta [List.set_append]))<|.load (lB false 1 ζ6 0 0 (.sl .sh (s.nodes.map encN)) ζ2)<|.load (show loadA false 1 ζ6 (.ptr (ζ2::ex).length 9)=some (.str x.node)from load_box (cs:=ζ1) (by simp+zetaDelta) rfl)<|.callK (ζ8) (.tuple [.agg ζ3,.bool true]) h1<|.store (show storeA 5 {boxes:=ζ2::(ex++[ζ1]++[ζ7]),toks:=[],loops:=[]:Heap} (.ptr (ζ2::(ex++[ζ1])).length 0) (.agg ζ3)=some (ζ5)from store_box2 (cs:=ζ7) (cs':=ζ3) (by simp+zetaDelta) rfl (by simp+zetaDelta [List.set_append]))<|.load (show loadA false 1 ζ5 (.ptr (ζ2::ex).length 9)=some (.str x.node)from load_box (cs:=ζ1) (by simp+zetaDelta) rfl)<|.no (show(!x.node==[])=false from by have hh:(x.node==[])=true:=(by simpa using hn);simp[hh])<|.ff<|.bin (iI i)<|.cutQ k100_0 [(0,.ptr 0 0),(20,.sl .sh (s.pods.map encPd)),(21,.int .i64 (↑s.pods.length)),(22,.int .i64 (↑(i+1)))] (ζ5) (fun T hT=>(ih' T hT)))
   ·exact let ζ1:List AV:=[.str x.name,.str x.owner,.int .i64 x.prio,.sl .sh (x.need.map encA),.sl .sh (x.labels.map encP),.sl .sh (x.sel.map encM),.sl .sh (x.tols.map encL),.str x.key,.int .i64 x.most,.str x.node,.bool x.hold];let ζ2:List AV:=[.sl .sh (s.nodes.map encN),.sl .sh (s.pods.map encPd),.sl .sh (s.buds.map encB)];let ζ3:List AV:=[.str n.name,.sl .sh (n.cap.map encA),.sl .sh (n.labels.map encP),.sl .sh (n.taints.map encT),.bool n.cordon];let ζ4:List AV:=[.str [],.str [],.int .i64 0,.sl .full [],.sl .full [],.sl .full [],.sl .full [],.str [],.int .i64 0,.str [],.bool false];let ζ5:Heap:={boxes:=ζ2::(ex++[ζ1,ζ3]),toks:=[],loops:=[]:Heap};let ζ6:Heap:={boxes:=ζ2::(ex++[ζ1]),toks:=[],loops:=[]:Heap};let ζ7:List AV:=[.str [],.sl .full [],.sl .full [],.sl .full [],.bool false];let ζ8:List AV:=[.sl .sh (s.nodes.map encN),.str x.node];gG 120 _ hT (.yes (dT ((↑i:Int)<(↑s.pods.length:Int)))<|.idx hxi<|.load (rfl:loadA true 11 {boxes:=ζ2::ex,toks:=[],loops:=[]:Heap} (.ref ζ1)=some (.agg ζ1))<|.store (show storeA 11 {boxes:=ζ2::(ex++[ζ4]),toks:=[],loops:=[]:Heap} (.ptr (ζ2::ex).length 0) (.agg ζ1)=some (ζ6)from store_box2 (cs:=ζ4) (cs':=ζ1) (by simp+zetaDelta) rfl (by simp+zetaDelta [List.set_append]))<|.load (lB false 1 ζ6 0 0 (.sl .sh (s.nodes.map encN)) ζ2)<|.load (show loadA false 1 ζ6 (.ptr (ζ2::ex).length 9)=some (.str x.node)from load_box (cs:=ζ1) (by simp+zetaDelta) rfl)<|.callK (ζ8) (.tuple [.agg ζ3,.bool true]) h1<|.store (show storeA 5 {boxes:=ζ2::(ex++[ζ1]++[ζ7]),toks:=[],loops:=[]:Heap} (.ptr (ζ2::(ex++[ζ1])).length 0) (.agg ζ3)=some (ζ5)from store_box2 (cs:=ζ7) (cs':=ζ3) (by simp+zetaDelta) rfl (by simp+zetaDelta [List.set_append]))<|.load (show loadA false 1 ζ5 (.ptr (ζ2::ex).length 9)=some (.str x.node)from load_box (cs:=ζ1) (by simp+zetaDelta) rfl)<|.yes (show(!x.node==[])=true from by have hh:¬((x.node==[])=true):=(by simpa using hn);simp[hh])<|.ff<|.bin (iI i)<|.cutQ k100_0 [(0,.ptr 0 0),(20,.sl .sh (s.pods.map encPd)),(21,.int .i64 (↑s.pods.length)),(22,.int .i64 (↑(i+1)))] (ζ5) (fun T hT=>(ih' T hT)))
theorem ck_all(s:St)(hs:StIn s):Goes cfg a100 [.c c100] (initEnv [.ptr 0 0]) ⟨[(encSt s).cells],[],[]⟩ (ChkR (ckSt s)):=by
 have c1:=ckNs_any s.nodes
 have c2:=ckPds_any s.pods
 have c3:=ckBs_any s.buds
 have h:=ck_pods s hs s.pods 0 rfl []
 unfold ckSt
 generalize ckAll 32 ckN Node.name s.nodes=e1 at c1⊢
 generalize ckAll 128 ckPd Pod.name s.pods=e2 at c2⊢
 generalize ckAll 8 ckB Bud.name s.buds=e3 at c3⊢
 rw[firstE_cons]
 by_cases h1:e1=0
 ·subst h1
  rw[if_pos rfl,firstE_cons]
  by_cases h2:e2=0
  ·subst h2
   rw[if_pos rfl,firstE_cons]
   by_cases h3:e3=0
   ·subst h3
    rw[if_pos rfl]
    exact gG 90 [] trivial (.callI c1<|.callI stop_ok<|.callI c2<|.callI stop_ok<|.callI c3<|.callI stop_ok<|.len (lM .sh encPd s.pods)<|.cutQ k100_0 [(0,.ptr 0 0),(20,.sl .sh (s.pods.map encPd)),(21,.int .i64 (↑s.pods.length)),(22,.int .i64 0)] ({boxes:=[[.sl .sh (s.nodes.map encN),.sl .sh (s.pods.map encPd),.sl .sh (s.buds.map encB)]],toks:=[],loops:=[]:Heap}) (fun T hT=>(h T hT)))
   ·rw[if_neg h3]
    have hst:=stop_pan h3
    exact gG 90 [] trivial (.callI c1<|.callI stop_ok<|.callI c2<|.callI stop_ok<|.callI c3<|.callP ([.int .i64 e3]) ({boxes:=[[.sl .sh (s.nodes.map encN),.sl .sh (s.pods.map encPd),.sl .sh (s.buds.map encB)]],toks:=[],loops:=[]:Heap}) hst ⟨rfl,rfl⟩ rfl (by exact .inr ⟨h3,rfl⟩))
  ·rw[if_neg h2]
   have hst:=stop_pan h2
   exact gG 90 [] trivial (.callI c1<|.callI stop_ok<|.callI c2<|.callP ([.int .i64 e2]) ({boxes:=[[.sl .sh (s.nodes.map encN),.sl .sh (s.pods.map encPd),.sl .sh (s.buds.map encB)]],toks:=[],loops:=[]:Heap}) hst ⟨rfl,rfl⟩ rfl (by exact .inr ⟨h2,rfl⟩))
 ·rw[if_neg h1]
  have hst:=stop_pan h1
  exact gG 90 [] trivial (.callI c1<|.callP ([.int .i64 e1]) ({boxes:=[[.sl .sh (s.nodes.map encN),.sl .sh (s.pods.map encPd),.sl .sh (s.buds.map encB)]],toks:=[],loops:=[]:Heap}) hst ⟨rfl,rfl⟩ rfl (by exact .inr ⟨h1,rfl⟩))
theorem ckSt_any(s:St)(hs:StIn s):Gives cfg 32 [encSt s] (.int .i64 (ckSt s)):=by
 refine Gives.run (l32 _ _) ?_
 obtain⟨⟨a,H1⟩,hr,hR⟩:=ck_all s hs
 generalize ckSt s=e at hR⊢
 have ht:lim cfg (.fn 77) [.func 100 [.ptr 0 0]] ⟨[(encSt s).cells],[],[]⟩=some (.ret (.int .i64 e),H1):=by
  rw[lim_try rfl,l100,hr]
  rcases hR with⟨h0,h1⟩|⟨h0,h1⟩
  ·simp only at h1;subst h1;subst h0;rfl
  ·simp only at h1;subst h1;rfl
 have hd:=does_callE (xs:=[.func 100 [.ptr 0 0]]) (caps:=[]) ht rfl rfl
 generalize trunc _ _ _ H1=H2 at hd
 exact gG 60 [] trivial (.effY hd<|.fin ((.ret (.int .i64 e),H2)) rfl)
def roomR(s:St):List Node→Int
 |[]=>0
 |n::r=>if(usedR s n.name).2=0 then(if fitsV (usedR s n.name).1 n.cap=true then roomR s r else 7)else(usedR s n.name).2
def ckStR(s:St):Int:=firstE [ckAll 32 ckN Node.name s.nodes,ckAll 128 ckPd Pod.name s.pods,ckAll 8 ckB Bud.name s.buds,podsE s s.pods,roomR s s.nodes,(totalS s).2]
theorem room_same(s:St):∀l:List Node,(∀n∈l,n.name≠[])→roomR s l=roomE s l
 |[],_=>rfl
 |n::l,h=>by
  unfold roomR roomE
  rw[used_same s (h n (by simp)),room_same s l fun m hm=>h m (by simp[hm])]
theorem ckR_room(s:St)(hs:StIn s):∀(post:List Node)(i:Nat)(hd:s.nodes.drop i=post)(ex:List (List AV))(T:Env)
 (hT:Has T [(1,.ptr 0 0),(7,.int .i64 i)]),
 Goes cfg a31 k31_1 T ⟨(encSt s).cells::ex,[],[]⟩ (IsRet (.int .i64 (firstE [roomR s post,(totalS s).2]))):=by
 intro post
 induction post with
 |nil=>
  intro i hd ex T hT
  have hge:=drop_ge hd
  have hn:=hs.nodes
  obtain⟨c,h1⟩:=total_ref s hs
  have e:firstE [roomR s [],(totalS s).2]=(totalS s).2:=by
   simp only[roomR,firstE,if_true];split<;>simp_all
  rw[e]
  generalize totalS s=z at h1⊢
  exact let ζ1:List AV:=[.sl .sh (s.nodes.map encN),.sl .sh (s.pods.map encPd),.sl .sh (s.buds.map encB)];let ζ2:Heap:={boxes:=ζ1::ex,toks:=[],loops:=[]:Heap};gG 90 _ hT (.load (lB false 1 ζ2 0 0 (.sl .sh (s.nodes.map encN)) ζ1)<|.len (lM .sh encN s.nodes)<|.no (dF ((↑i:Int)<(↑s.nodes.length:Int)))<|.load (lB true 3 ζ2 0 0 (.agg ζ1) ζ1)<|.callG ([.agg ζ1]) (.tuple [.sl .sh (z.fst.map encA),.int .i64 z.snd]) h1 ⟨rfl,rfl⟩ Res.p<|.fin ((.ret (.int .i64 z.snd),ζ2)) rfl)
 |cons x post ih=>
  intro i hd ex T hT
  have hlt:=drop_lt hd
  have hnx:=drop_next hd
  have hn:=hs.nodes
  have hxi:idxA 5 (.sl .sh (s.nodes.map encN)) (.int .i64 (i:Nat))=some (.ref (encN x).cells):=idx_row (f:=encN) hd rfl
  obtain⟨c,h1⟩:=used_ref s x.name hs
  have hin:=usedR_in s x.name
  have hx:=hs.cap x (drop_mem hd)
  have e:roomR s (x::post)=if(usedR s x.name).2=0 then(if fitsV (usedR s x.name).1 x.cap=true then roomR s post else 7)else(usedR s x.name).2:=rfl
  rw[firstE_cons]
  have h3:=fits_ref (usedR s x.name).1 x.cap (by omega) hx.len
  by_cases h0:(usedR s x.name).2=0
  ·rw[if_pos h0]at e
   cases hb:fitsV (usedR s x.name).1 x.cap with
   |true=>
    rw[hb]at h3 e
    rw[if_pos rfl]at e
    rw[e]
    generalize usedR s x.name=z at h1 h3 h0
    obtain⟨w,er⟩:=z
    simp only at h0 h3
    subst h0
    have ih':=ih (i+1) hnx ex
    rw[firstE_cons]at ih'
    exact let ζ1:List AV:=[.sl .sh (s.nodes.map encN),.sl .sh (s.pods.map encPd),.sl .sh (s.buds.map encB)];let ζ2:Heap:={boxes:=ζ1::ex,toks:=[],loops:=[]:Heap};gG 120 _ hT (.load (lB false 1 ζ2 0 0 (.sl .sh (s.nodes.map encN)) ζ1)<|.len (lM .sh encN s.nodes)<|.yes (dT ((↑i:Int)<(↑s.nodes.length:Int)))<|.load (lB true 3 ζ2 0 0 (.agg ζ1) ζ1)<|.load (lB false 1 ζ2 0 0 (.sl .sh (s.nodes.map encN)) ζ1)<|.idx hxi<|.load (rfl:loadA false 1 ζ2 (.ref [.str x.name])=some (.str x.name))<|.callG ([.agg ζ1,.str x.name]) (.tuple [.sl .sh (List.map encA (w,(0:Int)).fst),.int .i64 (w,(0:Int)).snd]) h1 ⟨rfl,rfl⟩ Res.p<|.ff<|.load (lB false 1 ζ2 0 0 (.sl .sh (s.nodes.map encN)) ζ1)<|.idx hxi<|.load (rfl:loadA false 1 ζ2 (.ref [.sl .sh (x.cap.map encA)])=some (.sl .sh (x.cap.map encA)))<|.callI h3<|.ff<|.bin (iI i)<|.cutQ k31_1 [(1,.ptr 0 0),(7,.int .i64 (↑(i+1)))] (ζ2) (fun T hT=>(ih' T hT)))
   |false=>
    rw[hb]at h3 e
    rw[if_neg (by decide)]at e
    rw[e,if_neg (by decide)]
    generalize usedR s x.name=z at h1 h3 h0
    obtain⟨w,er⟩:=z
    simp only at h0 h3
    subst h0
    exact let ζ1:List AV:=[.sl .sh (s.nodes.map encN),.sl .sh (s.pods.map encPd),.sl .sh (s.buds.map encB)];let ζ2:Heap:={boxes:=ζ1::ex,toks:=[],loops:=[]:Heap};gG 120 _ hT (.load (lB false 1 ζ2 0 0 (.sl .sh (s.nodes.map encN)) ζ1)<|.len (lM .sh encN s.nodes)<|.yes (dT ((↑i:Int)<(↑s.nodes.length:Int)))<|.load (lB true 3 ζ2 0 0 (.agg ζ1) ζ1)<|.load (lB false 1 ζ2 0 0 (.sl .sh (s.nodes.map encN)) ζ1)<|.idx hxi<|.load (rfl:loadA false 1 ζ2 (.ref [.str x.name])=some (.str x.name))<|.callG ([.agg ζ1,.str x.name]) (.tuple [.sl .sh (List.map encA (w,(0:Int)).fst),.int .i64 (w,(0:Int)).snd]) h1 ⟨rfl,rfl⟩ Res.p<|.ff<|.load (lB false 1 ζ2 0 0 (.sl .sh (s.nodes.map encN)) ζ1)<|.idx hxi<|.load (rfl:loadA false 1 ζ2 (.ref [.sl .sh (x.cap.map encA)])=some (.sl .sh (x.cap.map encA)))<|.callI h3<|.tt<|.fin ((.ret (.int .i64 7),ζ2)) rfl)
  ·rw[if_neg h0]at e
   rw[e,if_neg h0]
   generalize usedR s x.name=z at h1 h3 h0⊢
   obtain⟨w,er⟩:=z
   simp only at h0 h3⊢
   exact let ζ1:List AV:=[.sl .sh (s.nodes.map encN),.sl .sh (s.pods.map encPd),.sl .sh (s.buds.map encB)];let ζ2:Heap:={boxes:=ζ1::ex,toks:=[],loops:=[]:Heap};gG 120 _ hT (.load (lB false 1 ζ2 0 0 (.sl .sh (s.nodes.map encN)) ζ1)<|.len (lM .sh encN s.nodes)<|.yes (dT ((↑i:Int)<(↑s.nodes.length:Int)))<|.load (lB true 3 ζ2 0 0 (.agg ζ1) ζ1)<|.load (lB false 1 ζ2 0 0 (.sl .sh (s.nodes.map encN)) ζ1)<|.idx hxi<|.load (rfl:loadA false 1 ζ2 (.ref [.str x.name])=some (.str x.name))<|.callG ([.agg ζ1,.str x.name]) (.tuple [.sl .sh (List.map encA (w,er).fst),.int .i64 (w,er).snd]) h1 ⟨rfl,rfl⟩ Res.p<|.yes (show((w,er).snd !=(0:Int))=true from(by simpa using h0))<|.fin ((.ret (.int .i64 (w,er).snd),ζ2)) rfl)
theorem ckR_pods(s:St)(hs:StIn s):∀(post:List Pod)(i:Nat)(hd:s.pods.drop i=post)(ex:List (List AV))(T:Env)
 (hT:Has T [(1,.ptr 0 0),(4,.int .i64 i)]),
 Goes cfg a31 k31_0 T ⟨(encSt s).cells::ex,[],[]⟩ (IsRet (.int .i64 (firstE [podsE s post,roomR s s.nodes,(totalS s).2]))):=by
 intro post
 induction post with
 |nil=>
  intro i hd ex T hT
  have hge:=drop_ge hd
  have hp:=hs.pods
  have h1:=ckR_room s hs s.nodes 0 rfl ex
  have e:firstE [podsE s [],roomR s s.nodes,(totalS s).2]=firstE [roomR s s.nodes,(totalS s).2]:=rfl
  rw[e]
  exact let ζ1:List AV:=[.sl .sh (s.nodes.map encN),.sl .sh (s.pods.map encPd),.sl .sh (s.buds.map encB)];let ζ2:Heap:={boxes:=ζ1::ex,toks:=[],loops:=[]:Heap};gG 90 _ hT (.load (lB false 1 ζ2 0 1 (.sl .sh (s.pods.map encPd)) ζ1)<|.len (lM .sh encPd s.pods)<|.no (dF ((↑i:Int)<(↑s.pods.length:Int)))<|.cutQ k31_1 [(1,.ptr 0 0),(7,.int .i64 0)] (ζ2) (fun T hT=>(h1 T hT)))
 |cons x post ih=>
  intro i hd ex T hT
  have hlt:=drop_lt hd
  have hnx:=drop_next hd
  have hp:=hs.pods
  have hxi:idxA 11 (.sl .sh (s.pods.map encPd)) (.int .i64 (i:Nat))=some (.ref (encPd x).cells):=idx_row (f:=encPd) hd rfl
  have h1:=findN_ref s.nodes x.node hs.nodes
  have e:podsE s (x::post)=if x.node≠[]∧findG Node.name s.nodes x.node=none then 3 else podsE s post:=rfl
  rw[firstE_cons]
  by_cases hn:x.node=[]
  ·have e':podsE s (x::post)=podsE s post:=by rw[e,if_neg (by simp[hn])]
   rw[e']
   have ih':=ih (i+1) hnx ex
   rw[firstE_cons]at ih'
   exact let ζ1:List AV:=[.sl .sh (s.nodes.map encN),.sl .sh (s.pods.map encPd),.sl .sh (s.buds.map encB)];let ζ2:Heap:={boxes:=ζ1::ex,toks:=[],loops:=[]:Heap};gG 120 _ hT (.load (lB false 1 ζ2 0 1 (.sl .sh (s.pods.map encPd)) ζ1)<|.len (lM .sh encPd s.pods)<|.yes (dT ((↑i:Int)<(↑s.pods.length:Int)))<|.load (lB false 1 ζ2 0 1 (.sl .sh (s.pods.map encPd)) ζ1)<|.idx hxi<|.load (rfl:loadA false 1 ζ2 (.ref [.str x.node])=some (.str x.node))<|.yes (show(x.node==[])=true from(by simpa using hn))<|.bin (iI i)<|.cutQ k31_0 [(1,.ptr 0 0),(4,.int .i64 (↑(i+1)))] (ζ2) (fun T hT=>(ih' T hT)))
  ·cases hf:findG Node.name s.nodes x.node with
   |none=>
    rw[hf]at h1
    have e':podsE s (x::post)=3:=by rw[e,if_pos ⟨hn,hf⟩]
    rw[e',if_neg (by decide)]
    exact let ζ1:List AV:=[.sl .sh (s.nodes.map encN),.sl .sh (s.pods.map encPd),.sl .sh (s.buds.map encB)];let ζ2:Heap:={boxes:=ζ1::(ex++[[AV.str [],.sl .full [],.sl .full [],.sl .full [],.bool false]]),toks:=[],loops:=[]:Heap};let ζ3:List AV:=[.str [],.sl .sh [],.sl .sh [],.sl .sh [],.bool false];let ζ4:Heap:={boxes:=ζ1::ex,toks:=[],loops:=[]:Heap};let ζ5:Heap:={boxes:=ζ1::(ex++[ζ3]),toks:=[],loops:=[]:Heap};let ζ6:List AV:=[.sl .sh (s.nodes.map encN),.str x.node];gG 120 _ hT (.load (lB false 1 ζ4 0 1 (.sl .sh (s.pods.map encPd)) ζ1)<|.len (lM .sh encPd s.pods)<|.yes (dT ((↑i:Int)<(↑s.pods.length:Int)))<|.load (lB false 1 ζ4 0 1 (.sl .sh (s.pods.map encPd)) ζ1)<|.idx hxi<|.load (rfl:loadA false 1 ζ4 (.ref [.str x.node])=some (.str x.node))<|.no (show(x.node==[])=false from Bool.eq_false_iff.2 (by simpa using hn))<|.load (lB false 1 ζ2 0 0 (.sl .sh (s.nodes.map encN)) ζ1)<|.load (lB false 1 ζ2 0 1 (.sl .sh (s.pods.map encPd)) ζ1)<|.idx hxi<|.load (rfl:loadA false 1 ζ2 (.ref [.str x.node])=some (.str x.node))<|.callK (ζ6) (.tuple [.agg ζ3,.bool false]) h1<|.store (show storeA 5 ζ2 (.ptr (ζ1::ex).length 0) (.agg ζ3)=some (ζ5)from store_box2 (cs:=[.str [],.sl .full [],.sl .full [],.sl .full [],.bool false]) (cs':=ζ3) (by simp+zetaDelta) rfl (by simp+zetaDelta [List.set_append]))<|.tt<|.fin ((.ret (.int .i64 3),ζ5)) rfl)
   |some n=>
    rw[hf]at h1
    have e':podsE s (x::post)=podsE s post:=by rw[e,if_neg (by simp[hf])]
    rw[e']
    have ih':=ih (i+1) hnx (ex++[(encN n).cells])
    rw[firstE_cons]at ih'
    exact let ζ1:List AV:=[.sl .sh (s.nodes.map encN),.sl .sh (s.pods.map encPd),.sl .sh (s.buds.map encB)];let ζ2:List AV:=[.str n.name,.sl .sh (n.cap.map encA),.sl .sh (n.labels.map encP),.sl .sh (n.taints.map encT),.bool n.cordon];let ζ3:Heap:={boxes:=ζ1::(ex++[[AV.str [],.sl .full [],.sl .full [],.sl .full [],.bool false]]),toks:=[],loops:=[]:Heap};let ζ4:Heap:={boxes:=ζ1::ex,toks:=[],loops:=[]:Heap};let ζ5:Heap:={boxes:=ζ1::(ex++[ζ2]),toks:=[],loops:=[]:Heap};let ζ6:List AV:=[.sl .sh (s.nodes.map encN),.str x.node];gG 120 _ hT (.load (lB false 1 ζ4 0 1 (.sl .sh (s.pods.map encPd)) ζ1)<|.len (lM .sh encPd s.pods)<|.yes (dT ((↑i:Int)<(↑s.pods.length:Int)))<|.load (lB false 1 ζ4 0 1 (.sl .sh (s.pods.map encPd)) ζ1)<|.idx hxi<|.load (rfl:loadA false 1 ζ4 (.ref [.str x.node])=some (.str x.node))<|.no (show(x.node==[])=false from Bool.eq_false_iff.2 (by simpa using hn))<|.load (lB false 1 ζ3 0 0 (.sl .sh (s.nodes.map encN)) ζ1)<|.load (lB false 1 ζ3 0 1 (.sl .sh (s.pods.map encPd)) ζ1)<|.idx hxi<|.load (rfl:loadA false 1 ζ3 (.ref [.str x.node])=some (.str x.node))<|.callK (ζ6) (.tuple [.agg ζ2,.bool true]) h1<|.store (show storeA 5 ζ3 (.ptr (ζ1::ex).length 0) (.agg ζ2)=some (ζ5)from store_box2 (cs:=[.str [],.sl .full [],.sl .full [],.sl .full [],.bool false]) (cs':=ζ2) (by simp+zetaDelta) rfl (by simp+zetaDelta [List.set_append]))<|.ff<|.bin (iI i)<|.cutQ k31_0 [(1,.ptr 0 0),(4,.int .i64 (↑(i+1)))] (ζ5) (fun T hT=>(ih' T hT)))
theorem ckStR_ref(s:St)(hs:StIn s):Gives cfg 31 [encSt s] (.int .i64 (ckStR s)):=by
 refine Gives.run (l31 _ _) ?_
 have c1:=ckNs_ref s.nodes
 have c2:=ckPds_ref s.pods
 have c3:=ckBs_ref s.buds
 have h:=ckR_pods s hs s.pods 0 rfl []
 unfold ckStR
 generalize ckAll 32 ckN Node.name s.nodes=e1 at c1⊢
 generalize ckAll 128 ckPd Pod.name s.pods=e2 at c2⊢
 generalize ckAll 8 ckB Bud.name s.buds=e3 at c3⊢
 rw[firstE_cons]
 by_cases h1:e1=0
 ·subst h1
  rw[if_pos rfl,firstE_cons]
  by_cases h2:e2=0
  ·subst h2
   rw[if_pos rfl,firstE_cons]
   by_cases h3:e3=0
   ·subst h3
    rw[if_pos rfl]
    exact gG 90 [] trivial (.callI c1<|.ff<|.callI c2<|.ff<|.callI c3<|.ff<|.cutQ k31_0 [(1,.ptr 0 0),(4,.int .i64 0)] ({boxes:=[[.sl .sh (s.nodes.map encN),.sl .sh (s.pods.map encPd),.sl .sh (s.buds.map encB)]],toks:=[],loops:=[]:Heap}) (fun T hT=>(h T hT)))
   ·rw[if_neg h3]
    exact gG 90 [] trivial (.callI c1<|.ff<|.callI c2<|.ff<|.callI c3<|.yes (show(e3 !=(0:Int))=true from(by simpa using h3))<|.fin ((.ret (.int .i64 e3),{boxes:=[[.sl .sh (s.nodes.map encN),.sl .sh (s.pods.map encPd),.sl .sh (s.buds.map encB)]],toks:=[],loops:=[]:Heap})) rfl)
  ·rw[if_neg h2]
   exact gG 90 [] trivial (.callI c1<|.ff<|.callI c2<|.yes (show(e2 !=(0:Int))=true from(by simpa using h2))<|.fin ((.ret (.int .i64 e2),{boxes:=[[.sl .sh (s.nodes.map encN),.sl .sh (s.pods.map encPd),.sl .sh (s.buds.map encB)]],toks:=[],loops:=[]:Heap})) rfl)
 ·rw[if_neg h1]
  exact gG 90 [] trivial (.callI c1<|.yes (show(e1 !=(0:Int))=true from(by simpa using h1))<|.fin ((.ret (.int .i64 e1),{boxes:=[[.sl .sh (s.nodes.map encN),.sl .sh (s.pods.map encPd),.sl .sh (s.buds.map encB)]],toks:=[],loops:=[]:Heap})) rfl)
theorem ckAll_mem{X:Type}{most:Nat}{ck:X→Int}{nm:X→List UInt8}{s:List X}(h:ckAll most ck nm s=0):s.length≤most∧∀x∈s,ck x=0:=by
 unfold ckAll at h
 split at h
 ·rename_i hl
  refine⟨hl,?_⟩
  have key:∀(post:List X)(i:Nat),ckAl ck nm s i post=0→∀x∈post,ck x=0:=by
   intro post
   induction post with
   |nil=>intro i _ x hx;cases hx
   |cons y post ih=>
    intro i h x hx
    unfold ckAl at h
    split at h
    ·rename_i h0
     split at h
     ·cases h
     ·rcases List.mem_cons.1 hx with rfl|hx
      ·exact h0
      ·exact ih _ h x hx
    ·rename_i h0;exact absurd h h0
  exact key s 0 h
 ·cases h
theorem ckN_name{n:Node}(h:ckN n=0):n.name≠[]:=by
 intro e
 have:=firstE_zero h (if isName n.name then 0 else 3) (by simp)
 rw[e]at this
 simp[isName]at this
theorem ck_same(s:St):ckStR s=ckSt s:=by
 unfold ckStR ckSt
 by_cases h:ckAll 32 ckN Node.name s.nodes=0
 ·rw[room_same s s.nodes fun n hn=>ckN_name ((ckAll_mem h).2 n hn)]
 ·simp[firstE,h]
theorem ckSt_ref(s:St)(hs:StIn s):Gives cfg 31 [encSt s] (.int .i64 (ckSt s)):=by
 have:=ckStR_ref s hs
 rwa [ck_same]at this
structure RgS(s:St):Prop where
 cap:∀n∈s.nodes,rgA n.cap
 need:∀p∈s.pods,rgA p.need
theorem stIn{s:St}(h:FewS s)(r:RgS s):StIn s:=
 ⟨by have:=h.nodes;omega,by have:=h.pods;omega,fun n hn=>⟨by have:=(fewNd (h.node n hn)).cap;omega,r.cap n hn⟩,fun p hp=>⟨by have:=(fewPod (h.pod p hp)).need;omega,r.need p hp⟩⟩
theorem good_any(s:St)(r:RgS s):Gives cfg 16 [encSt s] (.bool (fewSt s&&ckSt s==0)):=by
 refine Gives.run (l16 _ _) ?_
 have h1:=fewSt_any s
 cases hf:fewSt s with
 |false=>
  rw[hf]at h1
  exact let ζ1:List AV:=[.sl .sh (s.nodes.map encN),.sl .sh (s.pods.map encPd),.sl .sh (s.buds.map encB)];gG 60 [] trivial (.callI h1<|.ff<|.fin ((.ret (.bool false),{boxes:=[ζ1],toks:=[],loops:=[]:Heap})) rfl)
 |true=>
  rw[hf]at h1
  have fs:=fewS hf
  have h2:=ofSt_any s fs
  have h3:=ckSt_ref s (stIn fs r)
  rw[Bool.true_and]
  exact let ζ1:List AV:=[.sl .sh (s.nodes.map encN),.sl .sh (s.pods.map encPd),.sl .sh (s.buds.map encB)];gG 60 [] trivial (.callI h1<|.tt<|.callI h2<|.callI h3<|.fin ((.ret (.bool (ckSt s==(0:Int))),{boxes:=[ζ1],toks:=[],loops:=[]:Heap})) rfl)
end Go.Aa.T
set_option linter.unusedVariables false
set_option linter.unusedSimpArgs false
set_option maxRecDepth 100000
namespace Go.Aa.T
open Go.Aa Go.Proofs
structure SmN(n:Node):Prop where
 cap:n.cap.length<9223372036854775807
 labels:n.labels.length<9223372036854775807
 taints:n.taints.length<9223372036854775807
structure SmP(p:Pod):Prop where
 need:p.need.length<9223372036854775807
 labels:p.labels.length<9223372036854775807
 sel:p.sel.length<9223372036854775807
 tols:p.tols.length<9223372036854775807
structure SmS(s:St):Prop where
 nodes:s.nodes.length<9223372036854775807
 pods:s.pods.length<9223372036854775807
 buds:s.buds.length<9223372036854775807
 node:∀x∈s.nodes,SmN x
 pod:∀x∈s.pods,SmP x
 bud:∀x∈s.buds,x.sel.length<9223372036854775807
end Go.Aa.T
set_option linter.unusedVariables false
set_option linter.unusedSimpArgs false
set_option maxRecDepth 100000
namespace Go.Aa.T
open Go.Aa Go.Proofs
theorem map_of2{α:Type}{f:α→AV}{Q:AV→Prop}{S:α→Prop}(h:∀y,Q y→∃x,y=f x∧S x):∀(l:List AV),(∀y∈l,Q y)→∃t:List α,l=t.map f∧∀x∈t,S x
 |[],_=>⟨[],rfl,by simp⟩
 |y::l,hl=>by
  obtain⟨x,rfl,hx⟩:=h y (hl y (by simp))
  obtain⟨t,rfl,ht⟩:=map_of2 h l (fun z hz=>hl z (by simp[hz]))
  exact⟨x::t,rfl,by simpa using⟨hx,ht⟩⟩
theorem i64_range{m:Int}(h:(Lit.int .i64 m).wf=true): -9223372036854775808≤m∧m≤9223372036854775807:=by
 have h':IntKind.i64.min≤m∧m≤IntKind.i64.max:=by simpa[Lit.wf,IntKind.has]using h
 have e1:IntKind.i64.min= -9223372036854775808:=rfl
 have e2:IntKind.i64.max=9223372036854775807:=rfl
 omega
theorem tys2{R:TypeId→List AV→Prop}{f1 f2:Field}{cs:List AV}(h:Tys R (#[f1,f2]:Array Field).toList cs):∃a1 a2,cs=a1++(a2)∧R f1.type a1∧R f2.type a2:=by
 obtain⟨a1,b1,rfl,h1,a2,b2,rfl,h2,e⟩:=(show Tys R [f1,f2] cs from h)
 cases e
 exact⟨a1,a2,by simp,h1,h2⟩
theorem tys3{R:TypeId→List AV→Prop}{f1 f2 f3:Field}{cs:List AV}(h:Tys R (#[f1,f2,f3]:Array Field).toList cs):∃a1 a2 a3,cs=a1++(a2++(a3))∧R f1.type a1∧R f2.type a2∧R f3.type a3:=by
 obtain⟨a1,b1,rfl,h1,a2,b2,rfl,h2,a3,b3,rfl,h3,e⟩:=(show Tys R [f1,f2,f3] cs from h)
 cases e
 exact⟨a1,a2,a3,by simp,h1,h2,h3⟩
theorem tys5{R:TypeId→List AV→Prop}{f1 f2 f3 f4 f5:Field}{cs:List AV}(h:Tys R (#[f1,f2,f3,f4,f5]:Array Field).toList cs):∃a1 a2 a3 a4 a5,cs=a1++(a2++(a3++(a4++(a5))))∧R f1.type a1∧R f2.type a2∧R f3.type a3∧R f4.type a4∧R f5.type a5:=by
 obtain⟨a1,b1,rfl,h1,a2,b2,rfl,h2,a3,b3,rfl,h3,a4,b4,rfl,h4,a5,b5,rfl,h5,e⟩:=(show Tys R [f1,f2,f3,f4,f5] cs from h)
 cases e
 exact⟨a1,a2,a3,a4,a5,by simp,h1,h2,h3,h4,h5⟩
theorem tys11{R:TypeId→List AV→Prop}{f1 f2 f3 f4 f5 f6 f7 f8 f9 f10 f11:Field}{cs:List AV}(h:Tys R (#[f1,f2,f3,f4,f5,f6,f7,f8,f9,f10,f11]:Array Field).toList cs):∃a1 a2 a3 a4 a5 a6 a7 a8 a9 a10 a11,cs=a1++(a2++(a3++(a4++(a5++(a6++(a7++(a8++(a9++(a10++(a11))))))))))∧R f1.type a1∧R f2.type a2∧R f3.type a3∧R f4.type a4∧R f5.type a5∧R f6.type a6∧R f7.type a7∧R f8.type a8∧R f9.type a9∧R f10.type a10∧R f11.type a11:=by
 obtain⟨a1,b1,rfl,h1,a2,b2,rfl,h2,a3,b3,rfl,h3,a4,b4,rfl,h4,a5,b5,rfl,h5,a6,b6,rfl,h6,a7,b7,rfl,h7,a8,b8,rfl,h8,a9,b9,rfl,h9,a10,b10,rfl,h10,a11,b11,rfl,h11,e⟩:=(show Tys R [f1,f2,f3,f4,f5,f6,f7,f8,f9,f10,f11] cs from h)
 cases e
 exact⟨a1,a2,a3,a4,a5,a6,a7,a8,a9,a10,a11,by simp,h1,h2,h3,h4,h5,h6,h7,h8,h9,h10,h11⟩
theorem ty100{k:Nat}{y:AV}(h:TyV Tryz.prog (k+2) 100 y):∃x:Amount,y=encA x∧(-9223372036854775808≤x.n∧x.n≤9223372036854775807):=by
 obtain⟨cs,rfl,hh⟩:=tyv_struct Tryz.underlying100 h
 obtain⟨a1,a2,rfl,h1,h2⟩:=tys2 hh
 obtain⟨s1,rfl,-⟩:=ty_string Tryz.underlying9 h1
 obtain⟨s2,rfl,w2⟩:=ty_int Tryz.underlying2 h2
 have r2:=i64_range w2
 exact⟨⟨s1,s2⟩,rfl,r2⟩
theorem ty28s{k:Nat}{y:List AV}(h:Ty Tryz.prog (k+3) 28 y):∃t:List Amount,y=[.sl .sh (t.map encA)]∧∀x∈t,-9223372036854775808≤x.n∧x.n≤9223372036854775807:=by
 obtain⟨l,rfl,-,hl⟩:=ty_slice Tryz.underlying28 h
 obtain⟨t,rfl,hs⟩:=map_of2 (S:=fun x:Amount=> -9223372036854775808≤x.n∧x.n≤9223372036854775807) (fun y hy=>ty100 hy) l hl
 exact⟨t,rfl,hs⟩
theorem ty201{k:Nat}{y:AV}(h:TyV Tryz.prog (k+2) 201 y):∃x:Pair,y=encP x∧(True):=by
 obtain⟨cs,rfl,hh⟩:=tyv_struct Tryz.underlying201 h
 obtain⟨a1,a2,rfl,h1,h2⟩:=tys2 hh
 obtain⟨s1,rfl,-⟩:=ty_string Tryz.underlying9 h1
 obtain⟨s2,rfl,-⟩:=ty_string Tryz.underlying9 h2
 exact⟨⟨s1,s2⟩,rfl,trivial⟩
theorem ty30s{k:Nat}{y:List AV}(h:Ty Tryz.prog (k+3) 30 y):∃t:List Pair,y=[.sl .sh (t.map encP)]∧∀x∈t,True:=by
 obtain⟨l,rfl,-,hl⟩:=ty_slice Tryz.underlying30 h
 obtain⟨t,rfl,hs⟩:=map_of2 (S:=fun x:Pair=>True) (fun y hy=>ty201 hy) l hl
 exact⟨t,rfl,hs⟩
theorem ty110{k:Nat}{y:AV}(h:TyV Tryz.prog (k+2) 110 y):∃x:Taint,y=encT x∧(True):=by
 obtain⟨cs,rfl,hh⟩:=tyv_struct Tryz.underlying110 h
 obtain⟨a1,a2,a3,rfl,h1,h2,h3⟩:=tys3 hh
 obtain⟨s1,rfl,-⟩:=ty_string Tryz.underlying9 h1
 obtain⟨s2,rfl,-⟩:=ty_string Tryz.underlying9 h2
 obtain⟨s3,rfl⟩:=ty_bool Tryz.underlying4 h3
 exact⟨⟨s1,s2,s3⟩,rfl,trivial⟩
theorem ty62s{k:Nat}{y:List AV}(h:Ty Tryz.prog (k+3) 62 y):∃t:List Taint,y=[.sl .sh (t.map encT)]∧∀x∈t,True:=by
 obtain⟨l,rfl,-,hl⟩:=ty_slice Tryz.underlying62 h
 obtain⟨t,rfl,hs⟩:=map_of2 (S:=fun x:Taint=>True) (fun y hy=>ty110 hy) l hl
 exact⟨t,rfl,hs⟩
theorem ty64{k:Nat}{y:AV}(h:TyV Tryz.prog (k+4) 64 y):∃x:Node,y=encN x∧(rgA x.cap):=by
 obtain⟨cs,rfl,hh⟩:=tyv_struct Tryz.underlying64 h
 obtain⟨a1,a2,a3,a4,a5,rfl,h1,h2,h3,h4,h5⟩:=tys5 hh
 obtain⟨s1,rfl,-⟩:=ty_string Tryz.underlying9 h1
 obtain⟨s2,rfl,w2⟩:=ty28s h2
 obtain⟨s3,rfl,w3⟩:=ty30s h3
 obtain⟨s4,rfl,w4⟩:=ty62s h4
 obtain⟨s5,rfl⟩:=ty_bool Tryz.underlying4 h5
 exact⟨⟨s1,s2,s3,s4,s5⟩,rfl,w2⟩
theorem ty22s{k:Nat}{y:List AV}(h:Ty Tryz.prog (k+5) 22 y):∃t:List Node,y=[.sl .sh (t.map encN)]∧∀x∈t,rgA x.cap:=by
 obtain⟨l,rfl,-,hl⟩:=ty_slice Tryz.underlying22 h
 obtain⟨t,rfl,hs⟩:=map_of2 (S:=fun x:Node=>rgA x.cap) (fun y hy=>ty64 hy) l hl
 exact⟨t,rfl,hs⟩
theorem ty112{k:Nat}{y:AV}(h:TyV Tryz.prog (k+2) 112 y):∃x:Term,y=encM x∧(True):=by
 obtain⟨cs,rfl,hh⟩:=tyv_struct Tryz.underlying112 h
 obtain⟨a1,a2,a3,rfl,h1,h2,h3⟩:=tys3 hh
 obtain⟨s1,rfl,w1⟩:=ty_int Tryz.underlying3 h1
 have r1:=i64_range w1
 obtain⟨s2,rfl,-⟩:=ty_string Tryz.underlying9 h2
 obtain⟨s3,rfl,-⟩:=ty_string Tryz.underlying9 h3
 exact⟨⟨s1,s2,s3⟩,rfl,trivial⟩
theorem ty32s{k:Nat}{y:List AV}(h:Ty Tryz.prog (k+3) 32 y):∃t:List Term,y=[.sl .sh (t.map encM)]∧∀x∈t,True:=by
 obtain⟨l,rfl,-,hl⟩:=ty_slice Tryz.underlying32 h
 obtain⟨t,rfl,hs⟩:=map_of2 (S:=fun x:Term=>True) (fun y hy=>ty112 hy) l hl
 exact⟨t,rfl,hs⟩
theorem ty205{k:Nat}{y:AV}(h:TyV Tryz.prog (k+2) 205 y):∃x:Tol,y=encL x∧(True):=by
 obtain⟨cs,rfl,hh⟩:=tyv_struct Tryz.underlying205 h
 obtain⟨a1,a2,a3,rfl,h1,h2,h3⟩:=tys3 hh
 obtain⟨s1,rfl,-⟩:=ty_string Tryz.underlying9 h1
 obtain⟨s2,rfl,-⟩:=ty_string Tryz.underlying9 h2
 obtain⟨s3,rfl⟩:=ty_bool Tryz.underlying4 h3
 exact⟨⟨s1,s2,s3⟩,rfl,trivial⟩
theorem ty33s{k:Nat}{y:List AV}(h:Ty Tryz.prog (k+3) 33 y):∃t:List Tol,y=[.sl .sh (t.map encL)]∧∀x∈t,True:=by
 obtain⟨l,rfl,-,hl⟩:=ty_slice Tryz.underlying33 h
 obtain⟨t,rfl,hs⟩:=map_of2 (S:=fun x:Tol=>True) (fun y hy=>ty205 hy) l hl
 exact⟨t,rfl,hs⟩
theorem ty35{k:Nat}{y:AV}(h:TyV Tryz.prog (k+4) 35 y):∃x:Pod,y=encPd x∧(rgA x.need∧inI x.prio∧inI x.most):=by
 obtain⟨cs,rfl,hh⟩:=tyv_struct Tryz.underlying35 h
 obtain⟨a1,a2,a3,a4,a5,a6,a7,a8,a9,a10,a11,rfl,h1,h2,h3,h4,h5,h6,h7,h8,h9,h10,h11⟩:=tys11 hh
 obtain⟨s1,rfl,-⟩:=ty_string Tryz.underlying9 h1
 obtain⟨s2,rfl,-⟩:=ty_string Tryz.underlying9 h2
 obtain⟨s3,rfl,w3⟩:=ty_int Tryz.underlying3 h3
 have r3:=i64_range w3
 obtain⟨s4,rfl,w4⟩:=ty28s h4
 obtain⟨s5,rfl,w5⟩:=ty30s h5
 obtain⟨s6,rfl,w6⟩:=ty32s h6
 obtain⟨s7,rfl,w7⟩:=ty33s h7
 obtain⟨s8,rfl,-⟩:=ty_string Tryz.underlying9 h8
 obtain⟨s9,rfl,w9⟩:=ty_int Tryz.underlying3 h9
 have r9:=i64_range w9
 obtain⟨s10,rfl,-⟩:=ty_string Tryz.underlying9 h10
 obtain⟨s11,rfl⟩:=ty_bool Tryz.underlying4 h11
 exact⟨⟨s1,s2,s3,s4,s5,s6,s7,s8,s9,s10,s11⟩,rfl,⟨w4,r3,r9⟩⟩
theorem ty23s{k:Nat}{y:List AV}(h:Ty Tryz.prog (k+5) 23 y):∃t:List Pod,y=[.sl .sh (t.map encPd)]∧∀x∈t,rgA x.need∧inI x.prio∧inI x.most:=by
 obtain⟨l,rfl,-,hl⟩:=ty_slice Tryz.underlying23 h
 obtain⟨t,rfl,hs⟩:=map_of2 (S:=fun x:Pod=>rgA x.need∧inI x.prio∧inI x.most) (fun y hy=>ty35 hy) l hl
 exact⟨t,rfl,hs⟩
theorem ty181{k:Nat}{y:AV}(h:TyV Tryz.prog (k+4) 181 y):∃x:Bud,y=encB x∧(inI x.floor):=by
 obtain⟨cs,rfl,hh⟩:=tyv_struct Tryz.underlying181 h
 obtain⟨a1,a2,a3,rfl,h1,h2,h3⟩:=tys3 hh
 obtain⟨s1,rfl,-⟩:=ty_string Tryz.underlying9 h1
 obtain⟨s2,rfl,w2⟩:=ty32s h2
 obtain⟨s3,rfl,w3⟩:=ty_int Tryz.underlying3 h3
 have r3:=i64_range w3
 exact⟨⟨s1,s2,s3⟩,rfl,r3⟩
theorem ty24s{k:Nat}{y:List AV}(h:Ty Tryz.prog (k+5) 24 y):∃t:List Bud,y=[.sl .sh (t.map encB)]∧∀x∈t,inI x.floor:=by
 obtain⟨l,rfl,-,hl⟩:=ty_slice Tryz.underlying24 h
 obtain⟨t,rfl,hs⟩:=map_of2 (S:=fun x:Bud=>inI x.floor) (fun y hy=>ty181 hy) l hl
 exact⟨t,rfl,hs⟩
theorem ty26{k:Nat}{y:AV}(h:TyV Tryz.prog (k+6) 26 y):∃x:St,y=encSt x∧(RgS x∧(∀p∈x.pods,inI p.prio∧inI p.most)∧∀b∈x.buds,inI b.floor):=by
 obtain⟨cs,rfl,hh⟩:=tyv_struct Tryz.underlying26 h
 obtain⟨a1,a2,a3,rfl,h1,h2,h3⟩:=tys3 hh
 obtain⟨s1,rfl,w1⟩:=ty22s h1
 obtain⟨s2,rfl,w2⟩:=ty23s h2
 obtain⟨s3,rfl,w3⟩:=ty24s h3
 exact⟨⟨s1,s2,s3⟩,rfl,⟨⟨w1,fun p hp=>(w2 p hp).1⟩,fun p hp=>(w2 p hp).2,w3⟩⟩
end Go.Aa.T
