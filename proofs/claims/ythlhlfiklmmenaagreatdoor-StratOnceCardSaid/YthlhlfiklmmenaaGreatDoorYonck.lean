/-
  WHAT THE LAW LEANS ON, part 11 of 14: a machine of values and its soundness; the functions of the law upon it; what they come to.
-/
import Derived.Test.YthlhlfiklmmenaaGreatDoorYoncj
set_option linter.unusedVariables false
set_option linter.unusedSimpArgs false
set_option maxRecDepth 100000
namespace Go.Aa.T
open Go.Aa Go.Proofs
def fewSt(s:St):Bool:=decide (s.nodes.length≤34)&&(decide (s.pods.length≤130)&&(fewBs s.buds&&(s.nodes.all fewN&&s.pods.all fewPd)))
structure FewS(s:St):Prop where
 nodes:s.nodes.length≤34
 pods:s.pods.length≤130
 buds:fewBs s.buds=true
 node:∀n∈s.nodes,fewN n=true
 pod:∀p∈s.pods,fewPd p=true
theorem fewS{s:St}(h:fewSt s=true):FewS s:=by
 simp only[fewSt,Bool.and_eq_true,decide_eq_true_eq,List.all_eq_true]at h
 exact⟨h.1,h.2.1,h.2.2.1,h.2.2.2.1,h.2.2.2.2⟩
theorem fewSt_pods(s:St)(hs:s.pods.length≤130):∀(post:List Pod)(i:Nat)(hd:s.pods.drop i=post)(T:Env)(hT:Has T [(1,.ptr 0 0),(4,.int .i64 i)]),
 Goes cfg a51 k51_1 T ⟨[(encSt s).cells],[],[]⟩ (IsRet (.bool (post.all fewPd))):=by
 intro post
 induction post with
 |nil=>
  intro i hd T hT
  have hge:=drop_ge hd
  exact gG 60 _ hT (.len (lM .sh encPd s.pods)<|.no (dF ((↑i:Int)<(↑s.pods.length:Int)))<|.fin ((.ret (.bool true),{boxes:=[[.sl .sh (s.nodes.map encN),.sl .sh (s.pods.map encPd),.sl .sh (s.buds.map encB)]],toks:=[],loops:=[]:Heap})) rfl)
 |cons x post ih=>
  intro i hd T hT
  have hlt:=drop_lt hd
  have hnx:=drop_next hd
  have hx:=fewPd_any x
  have hxi:idxA 11 (.sl .sh (s.pods.map encPd)) (.int .i64 (i:Nat))=some (.ref (encPd x).cells):=idx_row (f:=encPd) hd rfl
  rw[List.all_cons]
  cases hb:fewPd x with
  |true=>
   rw[hb]at hx
   exact gG 60 _ hT (.len (lM .sh encPd s.pods)<|.yes (dT ((↑i:Int)<(↑s.pods.length:Int)))<|.idx hxi<|.callK ([.agg [.str x.name,.str x.owner,.int .i64 x.prio,.sl .sh (x.need.map encA),.sl .sh (x.labels.map encP),.sl .sh (x.sel.map encM),.sl .sh (x.tols.map encL),.str x.key,.int .i64 x.most,.str x.node,.bool x.hold]]) (.bool true) hx<|.ff<|.bin (iI i)<|.cutQ k51_1 [(1,.ptr 0 0),(4,.int .i64 (↑(i+1)))] ({boxes:=[[.sl .sh (s.nodes.map encN),.sl .sh (s.pods.map encPd),.sl .sh (s.buds.map encB)]],toks:=[],loops:=[]:Heap}) (fun T hT=>(ih (i+1) hnx T hT)))
  |false=>
   rw[hb]at hx
   exact gG 60 _ hT (.len (lM .sh encPd s.pods)<|.yes (dT ((↑i:Int)<(↑s.pods.length:Int)))<|.idx hxi<|.callK ([.agg [.str x.name,.str x.owner,.int .i64 x.prio,.sl .sh (x.need.map encA),.sl .sh (x.labels.map encP),.sl .sh (x.sel.map encM),.sl .sh (x.tols.map encL),.str x.key,.int .i64 x.most,.str x.node,.bool x.hold]]) (.bool false) hx<|.tt<|.fin ((.ret (.bool false),{boxes:=[[.sl .sh (s.nodes.map encN),.sl .sh (s.pods.map encPd),.sl .sh (s.buds.map encB)]],toks:=[],loops:=[]:Heap})) rfl)
theorem fewSt_nodes(s:St)(hs:s.nodes.length≤34)(hp:s.pods.length≤130):∀(post:List Node)(i:Nat)(hd:s.nodes.drop i=post)(T:Env)(hT:Has T [(1,.ptr 0 0),(3,.int .i64 i)]),
 Goes cfg a51 k51_0 T ⟨[(encSt s).cells],[],[]⟩ (IsRet (.bool (post.all fewN&&s.pods.all fewPd))):=by
 intro post
 induction post with
 |nil=>
  intro i hd T hT
  have hge:=drop_ge hd
  have h2:=fewSt_pods s hp s.pods 0 rfl
  rw[show(([]:List Node).all fewN&&s.pods.all fewPd)=s.pods.all fewPd from rfl]
  exact gG 60 _ hT (.len (lM .sh encN s.nodes)<|.no (dF ((↑i:Int)<(↑s.nodes.length:Int)))<|.cutQ k51_1 [(1,.ptr 0 0),(4,.int .i64 0)] ({boxes:=[[.sl .sh (s.nodes.map encN),.sl .sh (s.pods.map encPd),.sl .sh (s.buds.map encB)]],toks:=[],loops:=[]:Heap}) (fun T hT=>(h2 T hT)))
 |cons x post ih=>
  intro i hd T hT
  have hlt:=drop_lt hd
  have hnx:=drop_next hd
  have hx:=fewN_any x
  have hxi:idxA 5 (.sl .sh (s.nodes.map encN)) (.int .i64 (i:Nat))=some (.ref (encN x).cells):=idx_row (f:=encN) hd rfl
  rw[List.all_cons]
  cases hb:fewN x with
  |true=>
   rw[hb]at hx
   rw[Bool.true_and]
   exact gG 60 _ hT (.len (lM .sh encN s.nodes)<|.yes (dT ((↑i:Int)<(↑s.nodes.length:Int)))<|.idx hxi<|.callK ([.agg [.str x.name,.sl .sh (x.cap.map encA),.sl .sh (x.labels.map encP),.sl .sh (x.taints.map encT),.bool x.cordon]]) (.bool true) hx<|.ff<|.bin (iI i)<|.cutQ k51_0 [(1,.ptr 0 0),(3,.int .i64 (↑(i+1)))] ({boxes:=[[.sl .sh (s.nodes.map encN),.sl .sh (s.pods.map encPd),.sl .sh (s.buds.map encB)]],toks:=[],loops:=[]:Heap}) (fun T hT=>(ih (i+1) hnx T hT)))
  |false=>
   rw[hb]at hx
   exact gG 60 _ hT (.len (lM .sh encN s.nodes)<|.yes (dT ((↑i:Int)<(↑s.nodes.length:Int)))<|.idx hxi<|.callK ([.agg [.str x.name,.sl .sh (x.cap.map encA),.sl .sh (x.labels.map encP),.sl .sh (x.taints.map encT),.bool x.cordon]]) (.bool false) hx<|.tt<|.fin ((.ret (.bool false),{boxes:=[[.sl .sh (s.nodes.map encN),.sl .sh (s.pods.map encPd),.sl .sh (s.buds.map encB)]],toks:=[],loops:=[]:Heap})) rfl)
theorem fewSt_any(s:St):Gives cfg 51 [encSt s] (.bool (fewSt s)):=by
 refine Gives.run (l51 _ _) ?_
 have hb:=fewBs_any s.buds
 unfold fewSt
 by_cases h1:s.nodes.length≤34
 ·by_cases h2:s.pods.length≤130
  ·have h3:=fewSt_nodes s h1 h2 s.nodes 0 rfl
   rw[decide_eq_true h1,decide_eq_true h2,Bool.true_and,Bool.true_and]
   cases hq:fewBs s.buds with
   |true=>
    rw[hq]at hb
    rw[Bool.true_and]
    exact gG 90 [] trivial (.len (lM .sh encN s.nodes)<|.no (dF ((34:Int)<(↑s.nodes.length:Int)))<|.len (lM .sh encPd s.pods)<|.no (dF ((130:Int)<(↑s.pods.length:Int)))<|.callK ([.sl .sh (s.buds.map encB)]) (.bool true) hb<|.ff<|.cutQ k51_0 [(1,.ptr 0 0),(3,.int .i64 0)] ({boxes:=[[.sl .sh (s.nodes.map encN),.sl .sh (s.pods.map encPd),.sl .sh (s.buds.map encB)]],toks:=[],loops:=[]:Heap}) (fun T hT=>(h3 T hT)))
   |false=>
    rw[hq]at hb
    exact gG 90 [] trivial (.len (lM .sh encN s.nodes)<|.no (dF ((34:Int)<(↑s.nodes.length:Int)))<|.len (lM .sh encPd s.pods)<|.no (dF ((130:Int)<(↑s.pods.length:Int)))<|.callK ([.sl .sh (s.buds.map encB)]) (.bool false) hb<|.tt<|.fin ((.ret (.bool false),{boxes:=[[.sl .sh (s.nodes.map encN),.sl .sh (s.pods.map encPd),.sl .sh (s.buds.map encB)]],toks:=[],loops:=[]:Heap})) rfl)
  ·rw[decide_eq_false h2,Bool.false_and,Bool.and_false]
   exact gG 90 [] trivial (.len (lM .sh encN s.nodes)<|.no (dF ((34:Int)<(↑s.nodes.length:Int)))<|.len (lM .sh encPd s.pods)<|.yes (dT ((130:Int)<(↑s.pods.length:Int)))<|.tt<|.fin ((.ret (.bool false),{boxes:=[[.sl .sh (s.nodes.map encN),.sl .sh (s.pods.map encPd),.sl .sh (s.buds.map encB)]],toks:=[],loops:=[]:Heap})) rfl)
 ·rw[decide_eq_false h1,Bool.false_and]
  exact gG 90 [] trivial (.len (lM .sh encN s.nodes)<|.yes (dT ((34:Int)<(↑s.nodes.length:Int)))<|.tt<|.tt<|.fin ((.ret (.bool false),{boxes:=[[.sl .sh (s.nodes.map encN),.sl .sh (s.pods.map encPd),.sl .sh (s.buds.map encB)]],toks:=[],loops:=[]:Heap})) rfl)
theorem ofSt_any(s:St)(h:FewS s):Gives cfg 16 [encSt s] (encSt s):=by
 refine Gives.run (l16 _ _) ?_
 have h1:=ofNs_any s.nodes (by have:=h.nodes;omega) h.node
 have h2:=ofPds_any s.pods (by have:=h.pods;omega) h.pod
 have h3:=ofBs_any s.buds (fewBs_len h.buds) (fewBs_all h.buds)
 exact let ζ1:List AV:=[.sl .sh (s.nodes.map encN),.sl .sh (s.pods.map encPd),.sl .sh (s.buds.map encB)];gG 90 [] trivial (.callG ([.sl .sh (s.nodes.map encN)]) (.sl .sh (s.nodes.map encN)) h1 ⟨rfl,rfl⟩ Res.p<|.callG ([.sl .sh (s.pods.map encPd)]) (.sl .sh (s.pods.map encPd)) h2 ⟨rfl,rfl⟩ Res.p<|.callG ([.sl .sh (s.buds.map encB)]) (.sl .sh (s.buds.map encB)) h3 ⟨rfl,rfl⟩ Res.p<|.fin ((.ret (.agg ζ1),{boxes:=[ζ1,ζ1],toks:=[],loops:=[]:Heap})) rfl)
def podsE(s:St):List Pod→Int
 |[]=>0
 |p::r=>if p.node≠[]∧findG Node.name s.nodes p.node=none then 3 else podsE s r
def roomE(s:St):List Node→Int
 |[]=>0
 |n::r=>if(usedS s n.name).2=0 then(if fitsV (usedS s n.name).1 n.cap=true then roomE s r else 7)else(usedS s n.name).2
def ckSt(s:St):Int:=firstE [ckAll 32 ckN Node.name s.nodes,ckAll 128 ckPd Pod.name s.pods,ckAll 8 ckB Bud.name s.buds,podsE s s.pods,roomE s s.nodes,(totalS s).2]
theorem firstE_cons(a:Int)(l:List Int):firstE (a::l)=if a=0 then firstE l else a:=rfl
def roomR(s:St):List Node→Int
 |[]=>0
 |n::r=>if(usedR s n.name).2=0 then(if fitsV (usedR s n.name).1 n.cap=true then roomR s r else 7)else(usedR s n.name).2
def ckStR(s:St):Int:=firstE [ckAll 32 ckN Node.name s.nodes,ckAll 128 ckPd Pod.name s.pods,ckAll 8 ckB Bud.name s.buds,podsE s s.pods,roomR s s.nodes,(totalS s).2]
theorem room_same(s:St):∀l:List Node,(∀n∈l,n.name≠[])→roomR s l=roomE s l
 |[],_=>rfl
 |n::l,h=>by
  unfold roomR roomE
  rw[used_same s (h n (by simp)),room_same s l fun m hm=>h m (by simp[hm])]
theorem ckR_room(s:St)(hs:StIn s):∀(post:List Node)(i:Nat)(hd:s.nodes.drop i=post)(ex:List (List AV))(T:Env)
 (hT:Has T [(1,.ptr 0 0),(7,.int .i64 i)]),
 Goes cfg a52 k52_1 T ⟨(encSt s).cells::ex,[],[]⟩ (IsRet (.int .i64 (firstE [roomR s post,(totalS s).2]))):=by
 intro post
 induction post with
 |nil=>
  intro i hd ex T hT
  have hge:=drop_ge hd
  have hn:=hs.nodes
  obtain⟨c,h1⟩:=total_ref s hs
  have e:firstE [roomR s [],(totalS s).2]=(totalS s).2:=by
   simp only[roomR,firstE,if_true];split<;>simp_all
  rw[e]
  generalize totalS s=z at h1⊢
  exact let ζ1:List AV:=[.sl .sh (s.nodes.map encN),.sl .sh (s.pods.map encPd),.sl .sh (s.buds.map encB)];let ζ2:Heap:={boxes:=ζ1::ex,toks:=[],loops:=[]:Heap};gG 90 _ hT (.load (lB false 1 ζ2 0 0 (.sl .sh (s.nodes.map encN)) ζ1)<|.len (lM .sh encN s.nodes)<|.no (dF ((↑i:Int)<(↑s.nodes.length:Int)))<|.load (lB true 3 ζ2 0 0 (.agg ζ1) ζ1)<|.callG ([.agg ζ1]) (.tuple [.sl .sh (z.fst.map encA),.int .i64 z.snd]) h1 ⟨rfl,rfl⟩ Res.p<|.fin ((.ret (.int .i64 z.snd),ζ2)) rfl)
 |cons x post ih=>
  intro i hd ex T hT
  have hlt:=drop_lt hd
  have hnx:=drop_next hd
  have hn:=hs.nodes
  have hxi:idxA 5 (.sl .sh (s.nodes.map encN)) (.int .i64 (i:Nat))=some (.ref (encN x).cells):=idx_row (f:=encN) hd rfl
  obtain⟨c,h1⟩:=used_ref s x.name hs
  have hin:=usedR_in s x.name
  have hx:=hs.cap x (drop_mem hd)
  have e:roomR s (x::post)=if(usedR s x.name).2=0 then(if fitsV (usedR s x.name).1 x.cap=true then roomR s post else 7)else(usedR s x.name).2:=rfl
  rw[firstE_cons]
  have h3:=fits_ref (usedR s x.name).1 x.cap (by omega) hx.len
  by_cases h0:(usedR s x.name).2=0
  ·rw[if_pos h0]at e
   cases hb:fitsV (usedR s x.name).1 x.cap with
   |true=>
    rw[hb]at h3 e
    rw[if_pos rfl]at e
    rw[e]
    generalize usedR s x.name=z at h1 h3 h0
    obtain⟨w,er⟩:=z
    simp only at h0 h3
    subst h0
    have ih':=ih (i+1) hnx ex
    rw[firstE_cons]at ih'
    exact let ζ1:List AV:=[.sl .sh (s.nodes.map encN),.sl .sh (s.pods.map encPd),.sl .sh (s.buds.map encB)];let ζ2:Heap:={boxes:=ζ1::ex,toks:=[],loops:=[]:Heap};gG 120 _ hT (.load (lB false 1 ζ2 0 0 (.sl .sh (s.nodes.map encN)) ζ1)<|.len (lM .sh encN s.nodes)<|.yes (dT ((↑i:Int)<(↑s.nodes.length:Int)))<|.load (lB true 3 ζ2 0 0 (.agg ζ1) ζ1)<|.load (lB false 1 ζ2 0 0 (.sl .sh (s.nodes.map encN)) ζ1)<|.idx hxi<|.load (rfl:loadA false 1 ζ2 (.ref [.str x.name])=some (.str x.name))<|.callG ([.agg ζ1,.str x.name]) (.tuple [.sl .sh (List.map encA (w,(0:Int)).fst),.int .i64 (w,(0:Int)).snd]) h1 ⟨rfl,rfl⟩ Res.p<|.ff<|.load (lB false 1 ζ2 0 0 (.sl .sh (s.nodes.map encN)) ζ1)<|.idx hxi<|.load (rfl:loadA false 1 ζ2 (.ref [.sl .sh (x.cap.map encA)])=some (.sl .sh (x.cap.map encA)))<|.callK ([.sl .sh (List.map encA (w,(0:Int)).fst),.sl .sh (x.cap.map encA)]) (.bool true) h3<|.ff<|.bin (iI i)<|.cutQ k52_1 [(1,.ptr 0 0),(7,.int .i64 (↑(i+1)))] (ζ2) (fun T hT=>(ih' T hT)))
   |false=>
    rw[hb]at h3 e
    rw[if_neg (by decide)]at e
    rw[e,if_neg (by decide)]
    generalize usedR s x.name=z at h1 h3 h0
    obtain⟨w,er⟩:=z
    simp only at h0 h3
    subst h0
    exact let ζ1:List AV:=[.sl .sh (s.nodes.map encN),.sl .sh (s.pods.map encPd),.sl .sh (s.buds.map encB)];let ζ2:Heap:={boxes:=ζ1::ex,toks:=[],loops:=[]:Heap};gG 120 _ hT (.load (lB false 1 ζ2 0 0 (.sl .sh (s.nodes.map encN)) ζ1)<|.len (lM .sh encN s.nodes)<|.yes (dT ((↑i:Int)<(↑s.nodes.length:Int)))<|.load (lB true 3 ζ2 0 0 (.agg ζ1) ζ1)<|.load (lB false 1 ζ2 0 0 (.sl .sh (s.nodes.map encN)) ζ1)<|.idx hxi<|.load (rfl:loadA false 1 ζ2 (.ref [.str x.name])=some (.str x.name))<|.callG ([.agg ζ1,.str x.name]) (.tuple [.sl .sh (List.map encA (w,(0:Int)).fst),.int .i64 (w,(0:Int)).snd]) h1 ⟨rfl,rfl⟩ Res.p<|.ff<|.load (lB false 1 ζ2 0 0 (.sl .sh (s.nodes.map encN)) ζ1)<|.idx hxi<|.load (rfl:loadA false 1 ζ2 (.ref [.sl .sh (x.cap.map encA)])=some (.sl .sh (x.cap.map encA)))<|.callK ([.sl .sh (List.map encA (w,(0:Int)).fst),.sl .sh (x.cap.map encA)]) (.bool false) h3<|.tt<|.fin ((.ret (.int .i64 7),ζ2)) rfl)
  ·rw[if_neg h0]at e
   rw[e,if_neg h0]
   generalize usedR s x.name=z at h1 h3 h0⊢
   obtain⟨w,er⟩:=z
   simp only at h0 h3⊢
   exact let ζ1:List AV:=[.sl .sh (s.nodes.map encN),.sl .sh (s.pods.map encPd),.sl .sh (s.buds.map encB)];let ζ2:Heap:={boxes:=ζ1::ex,toks:=[],loops:=[]:Heap};gG 120 _ hT (.load (lB false 1 ζ2 0 0 (.sl .sh (s.nodes.map encN)) ζ1)<|.len (lM .sh encN s.nodes)<|.yes (dT ((↑i:Int)<(↑s.nodes.length:Int)))<|.load (lB true 3 ζ2 0 0 (.agg ζ1) ζ1)<|.load (lB false 1 ζ2 0 0 (.sl .sh (s.nodes.map encN)) ζ1)<|.idx hxi<|.load (rfl:loadA false 1 ζ2 (.ref [.str x.name])=some (.str x.name))<|.callG ([.agg ζ1,.str x.name]) (.tuple [.sl .sh (List.map encA (w,er).fst),.int .i64 (w,er).snd]) h1 ⟨rfl,rfl⟩ Res.p<|.yes (show((w,er).snd !=(0:Int))=true from(by simpa using h0))<|.fin ((.ret (.int .i64 (w,er).snd),ζ2)) rfl)
theorem ckR_pods(s:St)(hs:StIn s):∀(post:List Pod)(i:Nat)(hd:s.pods.drop i=post)(ex:List (List AV))(T:Env)
 (hT:Has T [(1,.ptr 0 0),(4,.int .i64 i)]),
 Goes cfg a52 k52_0 T ⟨(encSt s).cells::ex,[],[]⟩ (IsRet (.int .i64 (firstE [podsE s post,roomR s s.nodes,(totalS s).2]))):=by
 intro post
 induction post with
 |nil=>
  intro i hd ex T hT
  have hge:=drop_ge hd
  have hp:=hs.pods
  have h1:=ckR_room s hs s.nodes 0 rfl ex
  have e:firstE [podsE s [],roomR s s.nodes,(totalS s).2]=firstE [roomR s s.nodes,(totalS s).2]:=rfl
  rw[e]
  exact let ζ1:List AV:=[.sl .sh (s.nodes.map encN),.sl .sh (s.pods.map encPd),.sl .sh (s.buds.map encB)];let ζ2:Heap:={boxes:=ζ1::ex,toks:=[],loops:=[]:Heap};gG 90 _ hT (.load (lB false 1 ζ2 0 1 (.sl .sh (s.pods.map encPd)) ζ1)<|.len (lM .sh encPd s.pods)<|.no (dF ((↑i:Int)<(↑s.pods.length:Int)))<|.cutQ k52_1 [(1,.ptr 0 0),(7,.int .i64 0)] (ζ2) (fun T hT=>(h1 T hT)))
 |cons x post ih=>
  intro i hd ex T hT
  have hlt:=drop_lt hd
  have hnx:=drop_next hd
  have hp:=hs.pods
  have hxi:idxA 11 (.sl .sh (s.pods.map encPd)) (.int .i64 (i:Nat))=some (.ref (encPd x).cells):=idx_row (f:=encPd) hd rfl
  have h1:=findN_ref s.nodes x.node hs.nodes
  have e:podsE s (x::post)=if x.node≠[]∧findG Node.name s.nodes x.node=none then 3 else podsE s post:=rfl
  rw[firstE_cons]
  by_cases hn:x.node=[]
  ·have e':podsE s (x::post)=podsE s post:=by rw[e,if_neg (by simp[hn])]
   rw[e']
   have ih':=ih (i+1) hnx ex
   rw[firstE_cons]at ih'
   exact let ζ1:List AV:=[.sl .sh (s.nodes.map encN),.sl .sh (s.pods.map encPd),.sl .sh (s.buds.map encB)];let ζ2:Heap:={boxes:=ζ1::ex,toks:=[],loops:=[]:Heap};gG 120 _ hT (.load (lB false 1 ζ2 0 1 (.sl .sh (s.pods.map encPd)) ζ1)<|.len (lM .sh encPd s.pods)<|.yes (dT ((↑i:Int)<(↑s.pods.length:Int)))<|.load (lB false 1 ζ2 0 1 (.sl .sh (s.pods.map encPd)) ζ1)<|.idx hxi<|.load (rfl:loadA false 1 ζ2 (.ref [.str x.node])=some (.str x.node))<|.yes (show(x.node==[])=true from(by simpa using hn))<|.bin (iI i)<|.cutQ k52_0 [(1,.ptr 0 0),(4,.int .i64 (↑(i+1)))] (ζ2) (fun T hT=>(ih' T hT)))
  ·cases hf:findG Node.name s.nodes x.node with
   |none=>
    rw[hf]at h1
    have e':podsE s (x::post)=3:=by rw[e,if_pos ⟨hn,hf⟩]
    rw[e',if_neg (by decide)]
    exact let ζ1:List AV:=[.sl .sh (s.nodes.map encN),.sl .sh (s.pods.map encPd),.sl .sh (s.buds.map encB)];let ζ2:Heap:={boxes:=ζ1::(ex++[[AV.str [],.sl .full [],.sl .full [],.sl .full [],.bool false]]),toks:=[],loops:=[]:Heap};let ζ3:List AV:=[.str [],.sl .sh [],.sl .sh [],.sl .sh [],.bool false];let ζ4:Heap:={boxes:=ζ1::ex,toks:=[],loops:=[]:Heap};let ζ5:Heap:={boxes:=ζ1::(ex++[ζ3]),toks:=[],loops:=[]:Heap};let ζ6:List AV:=[.sl .sh (s.nodes.map encN),.str x.node];gG 120 _ hT (.load (lB false 1 ζ4 0 1 (.sl .sh (s.pods.map encPd)) ζ1)<|.len (lM .sh encPd s.pods)<|.yes (dT ((↑i:Int)<(↑s.pods.length:Int)))<|.load (lB false 1 ζ4 0 1 (.sl .sh (s.pods.map encPd)) ζ1)<|.idx hxi<|.load (rfl:loadA false 1 ζ4 (.ref [.str x.node])=some (.str x.node))<|.no (show(x.node==[])=false from Bool.eq_false_iff.2 (by simpa using hn))<|.load (lB false 1 ζ2 0 0 (.sl .sh (s.nodes.map encN)) ζ1)<|.load (lB false 1 ζ2 0 1 (.sl .sh (s.pods.map encPd)) ζ1)<|.idx hxi<|.load (rfl:loadA false 1 ζ2 (.ref [.str x.node])=some (.str x.node))<|.callK (ζ6) (.tuple [.agg ζ3,.bool false]) h1<|.store (show storeA 5 ζ2 (.ptr (ζ1::ex).length 0) (.agg ζ3)=some (ζ5)from store_box2 (cs:=[.str [],.sl .full [],.sl .full [],.sl .full [],.bool false]) (cs':=ζ3) (by simp+zetaDelta) rfl (by simp+zetaDelta [List.set_append]))<|.tt<|.fin ((.ret (.int .i64 3),ζ5)) rfl)
   |some n=>
    rw[hf]at h1
    have e':podsE s (x::post)=podsE s post:=by rw[e,if_neg (by simp[hf])]
    rw[e']
    have ih':=ih (i+1) hnx (ex++[(encN n).cells])
    rw[firstE_cons]at ih'
    exact let ζ1:List AV:=[.sl .sh (s.nodes.map encN),.sl .sh (s.pods.map encPd),.sl .sh (s.buds.map encB)];let ζ2:List AV:=[.str n.name,.sl .sh (n.cap.map encA),.sl .sh (n.labels.map encP),.sl .sh (n.taints.map encT),.bool n.cordon];let ζ3:Heap:={boxes:=ζ1::(ex++[[AV.str [],.sl .full [],.sl .full [],.sl .full [],.bool false]]),toks:=[],loops:=[]:Heap};let ζ4:Heap:={boxes:=ζ1::ex,toks:=[],loops:=[]:Heap};let ζ5:Heap:={boxes:=ζ1::(ex++[ζ2]),toks:=[],loops:=[]:Heap};let ζ6:List AV:=[.sl .sh (s.nodes.map encN),.str x.node];gG 120 _ hT (.load (lB false 1 ζ4 0 1 (.sl .sh (s.pods.map encPd)) ζ1)<|.len (lM .sh encPd s.pods)<|.yes (dT ((↑i:Int)<(↑s.pods.length:Int)))<|.load (lB false 1 ζ4 0 1 (.sl .sh (s.pods.map encPd)) ζ1)<|.idx hxi<|.load (rfl:loadA false 1 ζ4 (.ref [.str x.node])=some (.str x.node))<|.no (show(x.node==[])=false from Bool.eq_false_iff.2 (by simpa using hn))<|.load (lB false 1 ζ3 0 0 (.sl .sh (s.nodes.map encN)) ζ1)<|.load (lB false 1 ζ3 0 1 (.sl .sh (s.pods.map encPd)) ζ1)<|.idx hxi<|.load (rfl:loadA false 1 ζ3 (.ref [.str x.node])=some (.str x.node))<|.callK (ζ6) (.tuple [.agg ζ2,.bool true]) h1<|.store (show storeA 5 ζ3 (.ptr (ζ1::ex).length 0) (.agg ζ2)=some (ζ5)from store_box2 (cs:=[.str [],.sl .full [],.sl .full [],.sl .full [],.bool false]) (cs':=ζ2) (by simp+zetaDelta) rfl (by simp+zetaDelta [List.set_append]))<|.ff<|.bin (iI i)<|.cutQ k52_0 [(1,.ptr 0 0),(4,.int .i64 (↑(i+1)))] (ζ5) (fun T hT=>(ih' T hT)))
theorem ckStR_ref(s:St)(hs:StIn s):Gives cfg 52 [encSt s] (.int .i64 (ckStR s)):=by
 refine Gives.run (l52 _ _) ?_
 have c1:=ckNs_ref s.nodes
 have c2:=ckPds_ref s.pods
 have c3:=ckBs_ref s.buds
 have h:=ckR_pods s hs s.pods 0 rfl []
 unfold ckStR
 generalize ckAll 32 ckN Node.name s.nodes=e1 at c1⊢
 generalize ckAll 128 ckPd Pod.name s.pods=e2 at c2⊢
 generalize ckAll 8 ckB Bud.name s.buds=e3 at c3⊢
 rw[firstE_cons]
 by_cases h1:e1=0
 ·subst h1
  rw[if_pos rfl,firstE_cons]
  by_cases h2:e2=0
  ·subst h2
   rw[if_pos rfl,firstE_cons]
   by_cases h3:e3=0
   ·subst h3
    rw[if_pos rfl]
    exact gG 90 [] trivial (.callK ([.sl .sh (s.nodes.map encN)]) (.int .i64 0) c1<|.ff<|.callK ([.sl .sh (s.pods.map encPd)]) (.int .i64 0) c2<|.ff<|.callK ([.sl .sh (s.buds.map encB)]) (.int .i64 0) c3<|.ff<|.cutQ k52_0 [(1,.ptr 0 0),(4,.int .i64 0)] ({boxes:=[[.sl .sh (s.nodes.map encN),.sl .sh (s.pods.map encPd),.sl .sh (s.buds.map encB)]],toks:=[],loops:=[]:Heap}) (fun T hT=>(h T hT)))
   ·rw[if_neg h3]
    exact gG 90 [] trivial (.callK ([.sl .sh (s.nodes.map encN)]) (.int .i64 0) c1<|.ff<|.callK ([.sl .sh (s.pods.map encPd)]) (.int .i64 0) c2<|.ff<|.callK ([.sl .sh (s.buds.map encB)]) (.int .i64 e3) c3<|.yes (show(e3 !=(0:Int))=true from(by simpa using h3))<|.fin ((.ret (.int .i64 e3),{boxes:=[[.sl .sh (s.nodes.map encN),.sl .sh (s.pods.map encPd),.sl .sh (s.buds.map encB)]],toks:=[],loops:=[]:Heap})) rfl)
  ·rw[if_neg h2]
   exact gG 90 [] trivial (.callK ([.sl .sh (s.nodes.map encN)]) (.int .i64 0) c1<|.ff<|.callK ([.sl .sh (s.pods.map encPd)]) (.int .i64 e2) c2<|.yes (show(e2 !=(0:Int))=true from(by simpa using h2))<|.fin ((.ret (.int .i64 e2),{boxes:=[[.sl .sh (s.nodes.map encN),.sl .sh (s.pods.map encPd),.sl .sh (s.buds.map encB)]],toks:=[],loops:=[]:Heap})) rfl)
 ·rw[if_neg h1]
  exact gG 90 [] trivial (.callK ([.sl .sh (s.nodes.map encN)]) (.int .i64 e1) c1<|.yes (show(e1 !=(0:Int))=true from(by simpa using h1))<|.fin ((.ret (.int .i64 e1),{boxes:=[[.sl .sh (s.nodes.map encN),.sl .sh (s.pods.map encPd),.sl .sh (s.buds.map encB)]],toks:=[],loops:=[]:Heap})) rfl)
theorem ckAll_mem{X:Type}{most:Nat}{ck:X→Int}{nm:X→List UInt8}{s:List X}(h:ckAll most ck nm s=0):s.length≤most∧∀x∈s,ck x=0:=by
 unfold ckAll at h
 split at h
 ·rename_i hl
  refine⟨hl,?_⟩
  have key:∀(post:List X)(i:Nat),ckAl ck nm s i post=0→∀x∈post,ck x=0:=by
   intro post
   induction post with
   |nil=>intro i _ x hx;cases hx
   |cons y post ih=>
    intro i h x hx
    unfold ckAl at h
    split at h
    ·rename_i h0
     split at h
     ·cases h
     ·rcases List.mem_cons.1 hx with rfl|hx
      ·exact h0
      ·exact ih _ h x hx
    ·rename_i h0;exact absurd h h0
  exact key s 0 h
 ·cases h
theorem ckN_name{n:Node}(h:ckN n=0):n.name≠[]:=by
 intro e
 have:=firstE_zero h (if isName n.name then 0 else 3) (by simp)
 rw[e]at this
 simp[isName]at this
theorem ck_same(s:St):ckStR s=ckSt s:=by
 unfold ckStR ckSt
 by_cases h:ckAll 32 ckN Node.name s.nodes=0
 ·rw[room_same s s.nodes fun n hn=>ckN_name ((ckAll_mem h).2 n hn)]
 ·simp[firstE,h]
theorem ckSt_ref(s:St)(hs:StIn s):Gives cfg 52 [encSt s] (.int .i64 (ckSt s)):=by
 have:=ckStR_ref s hs
 rwa [ck_same]at this
structure RgS(s:St):Prop where
 cap:∀n∈s.nodes,rgA n.cap
 need:∀p∈s.pods,rgA p.need
theorem stIn{s:St}(h:FewS s)(r:RgS s):StIn s:=
 ⟨by have:=h.nodes;omega,by have:=h.pods;omega,fun n hn=>⟨by have:=(fewNd (h.node n hn)).cap;omega,r.cap n hn⟩,fun p hp=>⟨by have:=(fewPod (h.pod p hp)).need;omega,r.need p hp⟩⟩
theorem good_any(s:St)(r:RgS s):Gives cfg 15 [encSt s] (.bool (fewSt s&&ckSt s==0)):=by
 refine Gives.run (l15 _ _) ?_
 have h1:=fewSt_any s
 cases hf:fewSt s with
 |false=>
  rw[hf]at h1
  exact let ζ1:List AV:=[.sl .sh (s.nodes.map encN),.sl .sh (s.pods.map encPd),.sl .sh (s.buds.map encB)];gG 60 [] trivial (.callK ([.agg ζ1]) (.bool false) h1<|.ff<|.fin ((.ret (.bool false),{boxes:=[ζ1],toks:=[],loops:=[]:Heap})) rfl)
 |true=>
  rw[hf]at h1
  have fs:=fewS hf
  have h2:=ofSt_any s fs
  have h3:=ckSt_ref s (stIn fs r)
  rw[Bool.true_and]
  exact let ζ1:List AV:=[.sl .sh (s.nodes.map encN),.sl .sh (s.pods.map encPd),.sl .sh (s.buds.map encB)];gG 60 [] trivial (.callK ([.agg ζ1]) (.bool true) h1<|.tt<|.callK ([.agg ζ1]) (.agg ζ1) h2<|.callK ([.agg ζ1]) (.int .i64 (ckSt s)) h3<|.fin ((.ret (.bool (ckSt s==(0:Int))),{boxes:=[ζ1],toks:=[],loops:=[]:Heap})) rfl)
end Go.Aa.T
set_option linter.unusedVariables false
set_option linter.unusedSimpArgs false
set_option maxRecDepth 100000
namespace Go.Aa.T
open Go.Aa Go.Proofs
structure SmN(n:Node):Prop where
 cap:n.cap.length<9223372036854775807
 labels:n.labels.length<9223372036854775807
 taints:n.taints.length<9223372036854775807
structure SmP(p:Pod):Prop where
 need:p.need.length<9223372036854775807
 labels:p.labels.length<9223372036854775807
 sel:p.sel.length<9223372036854775807
 tols:p.tols.length<9223372036854775807
structure SmS(s:St):Prop where
 nodes:s.nodes.length<9223372036854775807
 pods:s.pods.length<9223372036854775807
 buds:s.buds.length<9223372036854775807
 node:∀x∈s.nodes,SmN x
 pod:∀x∈s.pods,SmP x
 bud:∀x∈s.buds,x.sel.length<9223372036854775807
end Go.Aa.T
set_option linter.unusedVariables false
set_option linter.unusedSimpArgs false
set_option maxRecDepth 100000
namespace Go.Aa.T
open Go.Aa Go.Proofs
theorem map_of2{α:Type}{f:α→AV}{Q:AV→Prop}{S:α→Prop}(h:∀y,Q y→∃x,y=f x∧S x):∀(l:List AV),(∀y∈l,Q y)→∃t:List α,l=t.map f∧∀x∈t,S x
 |[],_=>⟨[],rfl,by simp⟩
 |y::l,hl=>by
  obtain⟨x,rfl,hx⟩:=h y (hl y (by simp))
  obtain⟨t,rfl,ht⟩:=map_of2 h l (fun z hz=>hl z (by simp[hz]))
  exact⟨x::t,rfl,by simpa using⟨hx,ht⟩⟩
theorem i64_range{m:Int}(h:(Lit.int .i64 m).wf=true): -9223372036854775808≤m∧m≤9223372036854775807:=by
 have h':IntKind.i64.min≤m∧m≤IntKind.i64.max:=by simpa[Lit.wf,IntKind.has]using h
 have e1:IntKind.i64.min= -9223372036854775808:=rfl
 have e2:IntKind.i64.max=9223372036854775807:=rfl
 omega
theorem tys2{R:TypeId→List AV→Prop}{f1 f2:Field}{cs:List AV}(h:Tys R (#[f1,f2]:Array Field).toList cs):∃a1 a2,cs=a1++(a2)∧R f1.type a1∧R f2.type a2:=by
 obtain⟨a1,b1,rfl,h1,a2,b2,rfl,h2,e⟩:=(show Tys R [f1,f2] cs from h)
 cases e
 exact⟨a1,a2,by simp,h1,h2⟩
theorem tys3{R:TypeId→List AV→Prop}{f1 f2 f3:Field}{cs:List AV}(h:Tys R (#[f1,f2,f3]:Array Field).toList cs):∃a1 a2 a3,cs=a1++(a2++(a3))∧R f1.type a1∧R f2.type a2∧R f3.type a3:=by
 obtain⟨a1,b1,rfl,h1,a2,b2,rfl,h2,a3,b3,rfl,h3,e⟩:=(show Tys R [f1,f2,f3] cs from h)
 cases e
 exact⟨a1,a2,a3,by simp,h1,h2,h3⟩
theorem tys5{R:TypeId→List AV→Prop}{f1 f2 f3 f4 f5:Field}{cs:List AV}(h:Tys R (#[f1,f2,f3,f4,f5]:Array Field).toList cs):∃a1 a2 a3 a4 a5,cs=a1++(a2++(a3++(a4++(a5))))∧R f1.type a1∧R f2.type a2∧R f3.type a3∧R f4.type a4∧R f5.type a5:=by
 obtain⟨a1,b1,rfl,h1,a2,b2,rfl,h2,a3,b3,rfl,h3,a4,b4,rfl,h4,a5,b5,rfl,h5,e⟩:=(show Tys R [f1,f2,f3,f4,f5] cs from h)
 cases e
 exact⟨a1,a2,a3,a4,a5,by simp,h1,h2,h3,h4,h5⟩
theorem tys11{R:TypeId→List AV→Prop}{f1 f2 f3 f4 f5 f6 f7 f8 f9 f10 f11:Field}{cs:List AV}(h:Tys R (#[f1,f2,f3,f4,f5,f6,f7,f8,f9,f10,f11]:Array Field).toList cs):∃a1 a2 a3 a4 a5 a6 a7 a8 a9 a10 a11,cs=a1++(a2++(a3++(a4++(a5++(a6++(a7++(a8++(a9++(a10++(a11))))))))))∧R f1.type a1∧R f2.type a2∧R f3.type a3∧R f4.type a4∧R f5.type a5∧R f6.type a6∧R f7.type a7∧R f8.type a8∧R f9.type a9∧R f10.type a10∧R f11.type a11:=by
 obtain⟨a1,b1,rfl,h1,a2,b2,rfl,h2,a3,b3,rfl,h3,a4,b4,rfl,h4,a5,b5,rfl,h5,a6,b6,rfl,h6,a7,b7,rfl,h7,a8,b8,rfl,h8,a9,b9,rfl,h9,a10,b10,rfl,h10,a11,b11,rfl,h11,e⟩:=(show Tys R [f1,f2,f3,f4,f5,f6,f7,f8,f9,f10,f11] cs from h)
 cases e
 exact⟨a1,a2,a3,a4,a5,a6,a7,a8,a9,a10,a11,by simp,h1,h2,h3,h4,h5,h6,h7,h8,h9,h10,h11⟩
theorem ty163{k:Nat}{y:AV}(h:TyV Tryz.prog (k+2) 163 y):∃x:Amount,y=encA x∧(-9223372036854775808≤x.n∧x.n≤9223372036854775807):=by
 obtain⟨cs,rfl,hh⟩:=tyv_struct Tryz.underlying163 h
 obtain⟨a1,a2,rfl,h1,h2⟩:=tys2 hh
 obtain⟨s1,rfl,-⟩:=ty_string Tryz.underlying9 h1
 obtain⟨s2,rfl,w2⟩:=ty_int Tryz.underlying2 h2
 have r2:=i64_range w2
 exact⟨⟨s1,s2⟩,rfl,r2⟩
theorem ty48s{k:Nat}{y:List AV}(h:Ty Tryz.prog (k+3) 48 y):∃t:List Amount,y=[.sl .sh (t.map encA)]∧∀x∈t,-9223372036854775808≤x.n∧x.n≤9223372036854775807:=by
 obtain⟨l,rfl,-,hl⟩:=ty_slice Tryz.underlying48 h
 obtain⟨t,rfl,hs⟩:=map_of2 (S:=fun x:Amount=> -9223372036854775808≤x.n∧x.n≤9223372036854775807) (fun y hy=>ty163 hy) l hl
 exact⟨t,rfl,hs⟩
theorem ty99{k:Nat}{y:AV}(h:TyV Tryz.prog (k+2) 99 y):∃x:Pair,y=encP x∧(True):=by
 obtain⟨cs,rfl,hh⟩:=tyv_struct Tryz.underlying99 h
 obtain⟨a1,a2,rfl,h1,h2⟩:=tys2 hh
 obtain⟨s1,rfl,-⟩:=ty_string Tryz.underlying9 h1
 obtain⟨s2,rfl,-⟩:=ty_string Tryz.underlying9 h2
 exact⟨⟨s1,s2⟩,rfl,trivial⟩
theorem ty50s{k:Nat}{y:List AV}(h:Ty Tryz.prog (k+3) 50 y):∃t:List Pair,y=[.sl .sh (t.map encP)]∧∀x∈t,True:=by
 obtain⟨l,rfl,-,hl⟩:=ty_slice Tryz.underlying50 h
 obtain⟨t,rfl,hs⟩:=map_of2 (S:=fun x:Pair=>True) (fun y hy=>ty99 hy) l hl
 exact⟨t,rfl,hs⟩
theorem ty124{k:Nat}{y:AV}(h:TyV Tryz.prog (k+2) 124 y):∃x:Taint,y=encT x∧(True):=by
 obtain⟨cs,rfl,hh⟩:=tyv_struct Tryz.underlying124 h
 obtain⟨a1,a2,a3,rfl,h1,h2,h3⟩:=tys3 hh
 obtain⟨s1,rfl,-⟩:=ty_string Tryz.underlying9 h1
 obtain⟨s2,rfl,-⟩:=ty_string Tryz.underlying9 h2
 obtain⟨s3,rfl⟩:=ty_bool Tryz.underlying4 h3
 exact⟨⟨s1,s2,s3⟩,rfl,trivial⟩
theorem ty51s{k:Nat}{y:List AV}(h:Ty Tryz.prog (k+3) 51 y):∃t:List Taint,y=[.sl .sh (t.map encT)]∧∀x∈t,True:=by
 obtain⟨l,rfl,-,hl⟩:=ty_slice Tryz.underlying51 h
 obtain⟨t,rfl,hs⟩:=map_of2 (S:=fun x:Taint=>True) (fun y hy=>ty124 hy) l hl
 exact⟨t,rfl,hs⟩
theorem ty53{k:Nat}{y:AV}(h:TyV Tryz.prog (k+4) 53 y):∃x:Node,y=encN x∧(rgA x.cap):=by
 obtain⟨cs,rfl,hh⟩:=tyv_struct Tryz.underlying53 h
 obtain⟨a1,a2,a3,a4,a5,rfl,h1,h2,h3,h4,h5⟩:=tys5 hh
 obtain⟨s1,rfl,-⟩:=ty_string Tryz.underlying9 h1
 obtain⟨s2,rfl,w2⟩:=ty48s h2
 obtain⟨s3,rfl,w3⟩:=ty50s h3
 obtain⟨s4,rfl,w4⟩:=ty51s h4
 obtain⟨s5,rfl⟩:=ty_bool Tryz.underlying4 h5
 exact⟨⟨s1,s2,s3,s4,s5⟩,rfl,w2⟩
theorem ty22s{k:Nat}{y:List AV}(h:Ty Tryz.prog (k+5) 22 y):∃t:List Node,y=[.sl .sh (t.map encN)]∧∀x∈t,rgA x.cap:=by
 obtain⟨l,rfl,-,hl⟩:=ty_slice Tryz.underlying22 h
 obtain⟨t,rfl,hs⟩:=map_of2 (S:=fun x:Node=>rgA x.cap) (fun y hy=>ty53 hy) l hl
 exact⟨t,rfl,hs⟩
theorem ty93{k:Nat}{y:AV}(h:TyV Tryz.prog (k+2) 93 y):∃x:Term,y=encM x∧(True):=by
 obtain⟨cs,rfl,hh⟩:=tyv_struct Tryz.underlying93 h
 obtain⟨a1,a2,a3,rfl,h1,h2,h3⟩:=tys3 hh
 obtain⟨s1,rfl,w1⟩:=ty_int Tryz.underlying3 h1
 have r1:=i64_range w1
 obtain⟨s2,rfl,-⟩:=ty_string Tryz.underlying9 h2
 obtain⟨s3,rfl,-⟩:=ty_string Tryz.underlying9 h3
 exact⟨⟨s1,s2,s3⟩,rfl,trivial⟩
theorem ty78s{k:Nat}{y:List AV}(h:Ty Tryz.prog (k+3) 78 y):∃t:List Term,y=[.sl .sh (t.map encM)]∧∀x∈t,True:=by
 obtain⟨l,rfl,-,hl⟩:=ty_slice Tryz.underlying78 h
 obtain⟨t,rfl,hs⟩:=map_of2 (S:=fun x:Term=>True) (fun y hy=>ty93 hy) l hl
 exact⟨t,rfl,hs⟩
theorem ty239{k:Nat}{y:AV}(h:TyV Tryz.prog (k+2) 239 y):∃x:Tol,y=encL x∧(True):=by
 obtain⟨cs,rfl,hh⟩:=tyv_struct Tryz.underlying239 h
 obtain⟨a1,a2,a3,rfl,h1,h2,h3⟩:=tys3 hh
 obtain⟨s1,rfl,-⟩:=ty_string Tryz.underlying9 h1
 obtain⟨s2,rfl,-⟩:=ty_string Tryz.underlying9 h2
 obtain⟨s3,rfl⟩:=ty_bool Tryz.underlying4 h3
 exact⟨⟨s1,s2,s3⟩,rfl,trivial⟩
theorem ty79s{k:Nat}{y:List AV}(h:Ty Tryz.prog (k+3) 79 y):∃t:List Tol,y=[.sl .sh (t.map encL)]∧∀x∈t,True:=by
 obtain⟨l,rfl,-,hl⟩:=ty_slice Tryz.underlying79 h
 obtain⟨t,rfl,hs⟩:=map_of2 (S:=fun x:Tol=>True) (fun y hy=>ty239 hy) l hl
 exact⟨t,rfl,hs⟩
theorem ty81{k:Nat}{y:AV}(h:TyV Tryz.prog (k+4) 81 y):∃x:Pod,y=encPd x∧(rgA x.need∧inI x.prio∧inI x.most):=by
 obtain⟨cs,rfl,hh⟩:=tyv_struct Tryz.underlying81 h
 obtain⟨a1,a2,a3,a4,a5,a6,a7,a8,a9,a10,a11,rfl,h1,h2,h3,h4,h5,h6,h7,h8,h9,h10,h11⟩:=tys11 hh
 obtain⟨s1,rfl,-⟩:=ty_string Tryz.underlying9 h1
 obtain⟨s2,rfl,-⟩:=ty_string Tryz.underlying9 h2
 obtain⟨s3,rfl,w3⟩:=ty_int Tryz.underlying3 h3
 have r3:=i64_range w3
 obtain⟨s4,rfl,w4⟩:=ty48s h4
 obtain⟨s5,rfl,w5⟩:=ty50s h5
 obtain⟨s6,rfl,w6⟩:=ty78s h6
 obtain⟨s7,rfl,w7⟩:=ty79s h7
 obtain⟨s8,rfl,-⟩:=ty_string Tryz.underlying9 h8
 obtain⟨s9,rfl,w9⟩:=ty_int Tryz.underlying3 h9
 have r9:=i64_range w9
 obtain⟨s10,rfl,-⟩:=ty_string Tryz.underlying9 h10
 obtain⟨s11,rfl⟩:=ty_bool Tryz.underlying4 h11
 exact⟨⟨s1,s2,s3,s4,s5,s6,s7,s8,s9,s10,s11⟩,rfl,⟨w4,r3,r9⟩⟩
theorem ty23s{k:Nat}{y:List AV}(h:Ty Tryz.prog (k+5) 23 y):∃t:List Pod,y=[.sl .sh (t.map encPd)]∧∀x∈t,rgA x.need∧inI x.prio∧inI x.most:=by
 obtain⟨l,rfl,-,hl⟩:=ty_slice Tryz.underlying23 h
 obtain⟨t,rfl,hs⟩:=map_of2 (S:=fun x:Pod=>rgA x.need∧inI x.prio∧inI x.most) (fun y hy=>ty81 hy) l hl
 exact⟨t,rfl,hs⟩
theorem ty95{k:Nat}{y:AV}(h:TyV Tryz.prog (k+4) 95 y):∃x:Bud,y=encB x∧(inI x.floor):=by
 obtain⟨cs,rfl,hh⟩:=tyv_struct Tryz.underlying95 h
 obtain⟨a1,a2,a3,rfl,h1,h2,h3⟩:=tys3 hh
 obtain⟨s1,rfl,-⟩:=ty_string Tryz.underlying9 h1
 obtain⟨s2,rfl,w2⟩:=ty78s h2
 obtain⟨s3,rfl,w3⟩:=ty_int Tryz.underlying3 h3
 have r3:=i64_range w3
 exact⟨⟨s1,s2,s3⟩,rfl,r3⟩
theorem ty24s{k:Nat}{y:List AV}(h:Ty Tryz.prog (k+5) 24 y):∃t:List Bud,y=[.sl .sh (t.map encB)]∧∀x∈t,inI x.floor:=by
 obtain⟨l,rfl,-,hl⟩:=ty_slice Tryz.underlying24 h
 obtain⟨t,rfl,hs⟩:=map_of2 (S:=fun x:Bud=>inI x.floor) (fun y hy=>ty95 hy) l hl
 exact⟨t,rfl,hs⟩
theorem ty26{k:Nat}{y:AV}(h:TyV Tryz.prog (k+6) 26 y):∃x:St,y=encSt x∧(RgS x∧(∀p∈x.pods,inI p.prio∧inI p.most)∧∀b∈x.buds,inI b.floor):=by
 obtain⟨cs,rfl,hh⟩:=tyv_struct Tryz.underlying26 h
 obtain⟨a1,a2,a3,rfl,h1,h2,h3⟩:=tys3 hh
 obtain⟨s1,rfl,w1⟩:=ty22s h1
 obtain⟨s2,rfl,w2⟩:=ty23s h2
 obtain⟨s3,rfl,w3⟩:=ty24s h3
 exact⟨⟨s1,s2,s3⟩,rfl,⟨⟨w1,fun p hp=>(w2 p hp).1⟩,fun p hp=>(w2 p hp).2,w3⟩⟩
end Go.Aa.T
set_option linter.unusedVariables false
set_option linter.unusedSimpArgs false
set_option maxRecDepth 100000
namespace Go.Aa.T
open Go.Aa Go.Proofs
theorem tyU8{k:Nat}{x:AV}(hx:TyV Tryz.prog (k+1) 5 x):∃n:Nat,n<256∧x=.int .u8 (n:Int):=by
 obtain⟨m,rfl,hm⟩:=tyv_int Tryz.underlying5 hx
 have h':IntKind.u8.min≤m∧m≤IntKind.u8.max:=by simpa[Lit.wf,IntKind.has]using hm
 have e1:IntKind.u8.min=0:=rfl
 have e2:IntKind.u8.max=255:=rfl
 exact⟨m.toNat,by omega,by congr 1;omega⟩
end Go.Aa.T
set_option linter.unusedVariables false
set_option linter.unusedSimpArgs false
namespace Go.Aa
def pw(k:Nat):Nat:=2^k
theorem pw_eq(k:Nat):pw k=2^k:=rfl
abbrev F64:Ieee.Format:=FloatKind.f64.format
def cutE(n g:Nat):Nat:=n/g+(decide (g<2*(n%g))||(g==2*(n%g)&&n/g%2==1)).toNat
theorem cut_eq(neg:Bool)(n drop:Nat):Ieee.Toward.even.cut neg n drop=cutE n (2^(min drop (n.log2+2))):=by
 unfold Ieee.Toward.cut cutE
 simp only[Nat.shiftLeft_eq,Nat.one_mul]
theorem cutE_one(n:Nat):cutE n 1=n:=by
 unfold cutE
 simp[Nat.mod_one]
theorem cutE_ge{n g K:Nat}(hg:0<g)(h:K*g≤n):K≤cutE n g:=by
 unfold cutE
 have:=(Nat.le_div_iff_mul_le hg).2 h
 omega
theorem cutE_le{n g K:Nat}(hg:0<g)(h:n≤K*g):cutE n g≤K:=by
 unfold cutE
 have h1:n/g≤K:=by
  have:=Nat.div_le_div_right (c:=g) h
  rwa [Nat.mul_div_cancel _ hg]at this
 rcases Nat.lt_or_ge (n/g) K with h2|h2
 ·have:(decide (g<2*(n%g))||(g==2*(n%g)&&n/g%2==1)).toNat≤1:=Bool.toNat_le _
  omega
 ·have e:n/g=K:=by omega
  have h3:n%g=0:=by
   have:=Nat.div_add_mod n g
   rw[e,Nat.mul_comm]at this
   omega
  have e1:decide (g<2*(n%g))=false:=by rw[h3];simp
  have e2:(g==2*(n%g))=false:=by rw[h3];simp;omega
  rw[e1,e2,e]
  simp
theorem cutE_err{n g:Nat}(hg:0<g):2*(cutE n g*g)≤2*n+g∧2*n≤2*(cutE n g*g)+g:=by
 unfold cutE
 have h1:=Nat.div_add_mod n g
 have h2:=Nat.mod_lt n hg
 have hm:n/g*g=g*(n/g):=Nat.mul_comm _ _
 rcases Nat.lt_trichotomy g (2*(n%g))with h|h|h
 ·simp only[h,decide_true,Bool.true_or,Bool.toNat_true,Nat.add_mul,Nat.one_mul]
  omega
 ·have e1:decide (g<2*(n%g))=false:=by simp;omega
  rw[e1,Bool.false_or]
  generalize(g==2*(n%g)&&n/g%2==1)=b
  cases b
  ·simp only[Bool.toNat_false,Nat.add_zero];omega
  ·simp only[Bool.toNat_true,Nat.add_mul,Nat.one_mul];omega
 ·have e1:decide (g<2*(n%g))=false:=by simp;omega
  have e2:(g==2*(n%g))=false:=by simp;omega
  rw[e1,e2]
  simp only[Bool.false_and,Bool.or_self,Bool.toNat_false,Nat.add_zero]
  omega
def wrd(s:Bool)(r:Nat):Nat:=if s then 9223372036854775808+r else r
theorem wrd_rank{s:Bool}{r:Nat}(h:r<9223372036854775808):rank (wrd s r)=if s then-(r:Int)else r:=by
 unfold rank wrd
 cases s
 ·simp only[Bool.false_eq_true,if_false]
  rw[if_neg (by omega)]
  omega
 ·simp only[if_true]
  rw[if_pos (by omega)]
  omega
theorem wrd_nn{s:Bool}{r:Nat}(h:r≤9218868437227405312):NN (wrd s r)∧wrd s r<18446744073709551616:=by
 rw[NN_iff]
 unfold wrd
 split<;>omega
theorem wrd_sign{s:Bool}{r:Nat}(h:r<9223372036854775808):(wrd s r/9223372036854775808%2=1)↔s=true:=by
 unfold wrd
 cases s
 ·simp only[Bool.false_eq_true,if_false,iff_false];omega
 ·simp only[if_true,iff_true];omega
theorem wrd_mod{s:Bool}{r:Nat}(h:r<9223372036854775808):wrd s r%9223372036854775808=r:=by
 unfold wrd
 split<;>omega
def rung(m:Nat)(p:Int):Nat:=
 if m=0 then 0 else
 let last:=max (p+m.log2-52) (-1074)
 min ((last+1074).toNat*4503599627370496+cutE (m*2^(p-last).toNat) (2^(min (last-p).toNat ((m*2^(p-last).toNat).log2+2)))) 9218868437227405312
theorem nearest_rung(s:Bool)(m:Nat)(p:Int):F64.nearest s m p=wrd s (rung m p):=by
 have e1:F64.fractionBits=52:=rfl
 have e2:F64.binade=4503599627370496:=rfl
 have e3:F64.infRung=9218868437227405312:=rfl
 have e4:F64.leastPlace= -1074:=rfl
 unfold Ieee.Format.nearest rung
 by_cases h:m=0
 ·rw[if_pos h,if_pos h];rfl
 ·rw[if_neg h,if_neg h]
  simp only[e1,e2,e3,e4,cut_eq,Nat.shiftLeft_eq]
  rfl
theorem rung_le(m:Nat)(p:Int):rung m p≤9218868437227405312:=by
 unfold rung
 split
 ·omega
 ·exact Nat.min_le_right _ _
theorem log2_mul_pow{m:Nat}(h:m≠0)(k:Nat):(m*2^k).log2=m.log2+k:=by
 have h1:=Nat.log2_self_le h
 have h2:= @Nat.lt_log2_self m
 refine(Nat.log2_eq_iff (by have:=Nat.two_pow_pos k;exact Nat.mul_ne_zero h (by omega))).2 ⟨?_,?_⟩
 ·rw[Nat.pow_add];exact Nat.mul_le_mul_right _ h1
 ·rw[show m.log2+k+1=(m.log2+1)+k by omega,Nat.pow_add];exact Nat.mul_lt_mul_of_pos_right h2 (Nat.two_pow_pos k)
theorem min_l{a b:Nat}(h:a≤b):min a b=a:=Nat.min_eq_left h
theorem fits(L K:Nat)(h:L<2046)(hk:K≤9007199254740992):min (L*4503599627370496+K) 9218868437227405312=L*4503599627370496+K:=by
 have h2:L*4503599627370496+K≤9218868437227405312:=by omega
 exact min_l h2
theorem rung_normal{m:Nat}{p:Int}(h:m≠0){L:Nat}(hL:(L:Int)=p+m.log2-52+1074)(hL2:L<2046):
 ∃k,rung m p=L*4503599627370496+k∧4503599627370496≤k∧k≤9007199254740992∧
  (m.log2≤52→k=m*2^(52-m.log2))∧(52≤m.log2→k=cutE m (2^(m.log2-52))):=by
 have h1:=Nat.log2_self_le h
 have h2:= @Nat.lt_log2_self m
 unfold rung
 rw[if_neg h]
 have el:max (p+m.log2-52) (-1074)=p+m.log2-52:=by omega
 simp only[el]
 have eL:(p+m.log2-52+1074).toNat=L:=by omega
 rw[eL]
 rcases Nat.le_total m.log2 52 with hm|hm
 ·have e1:(p-(p+m.log2-52)).toNat=52-m.log2:=by omega
  have e2:(p+m.log2-52-p).toNat=0:=by omega
  simp only[e1,e2,Nat.zero_min,Nat.pow_zero,cutE_one]
  have a1:4503599627370496≤m*2^(52-m.log2):=by
   have:2^m.log2*2^(52-m.log2)=4503599627370496:=by rw[←Nat.pow_add,show m.log2+(52-m.log2)=52 by omega]
   have:=Nat.mul_le_mul_right (2^(52-m.log2)) h1
   omega
  have a2:m*2^(52-m.log2)<9007199254740992:=by
   have:2^(m.log2+1)*2^(52-m.log2)=9007199254740992:=by rw[←Nat.pow_add,show m.log2+1+(52-m.log2)=53 by omega]
   have:=Nat.mul_lt_mul_of_pos_right h2 (Nat.two_pow_pos (52-m.log2))
   omega
  refine⟨m*2^(52-m.log2),fits L _ hL2 (by omega),a1,Nat.le_of_lt a2,fun _=>rfl,fun hh=> ?_⟩
  have:m.log2=52:=by omega
  rw[this]
  simp[cutE_one]
 ·have e1:(p-(p+m.log2-52)).toNat=0:=by omega
  have e2:(p+m.log2-52-p).toNat=m.log2-52:=by omega
  simp only[e1,e2,Nat.pow_zero,Nat.mul_one,show min (m.log2-52) (m.log2+2)=m.log2-52 by omega]
  have hg:=Nat.two_pow_pos (m.log2-52)
  have a1:4503599627370496≤cutE m (2^(m.log2-52)):=cutE_ge hg (by
   have:2^m.log2=4503599627370496*2^(m.log2-52):=by
    rw[show(4503599627370496:Nat)=2^52 from rfl,←Nat.pow_add,show 52+(m.log2-52)=m.log2 by omega]
   omega)
  have a2:cutE m (2^(m.log2-52))≤9007199254740992:=cutE_le hg (by
   have:2^(m.log2+1)=9007199254740992*2^(m.log2-52):=by
    rw[show(9007199254740992:Nat)=2^53 from rfl,←Nat.pow_add,show 53+(m.log2-52)=m.log2+1 by omega]
   omega)
  refine⟨_,fits L _ hL2 a2,a1,a2,fun hh=> ?_,fun _=>rfl⟩
  have:m.log2=52:=by omega
  rw[this]
  simp[cutE_one]
theorem worth_normal{L k:Nat}(h1:4503599627370496≤k)(h2:k≤9007199254740992):worth (L*4503599627370496+k)=k*2^L:=by
 unfold worth
 rw[if_neg (by omega)]
 rcases Nat.lt_or_ge k 9007199254740992 with h|h
 ·rw[show(L*4503599627370496+k)/4503599627370496-1=L by omega,show 4503599627370496+(L*4503599627370496+k)%4503599627370496=k by omega]
 ·have:k=9007199254740992:=by omega
  subst this
  rw[show(L*4503599627370496+9007199254740992)/4503599627370496-1=L+1 by omega,show 4503599627370496+(L*4503599627370496+9007199254740992)%4503599627370496=4503599627370496 by omega,Nat.pow_succ]
  omega
theorem read_wrd{s:Bool}{r:Nat}(h:r<9218868437227405312):∃m k:Nat,F64.read (wrd s r)=.number s m (-1074+(k:Int))∧m*2^k=worth r:=by
 have h':r<9223372036854775808:=by omega
 rcases reads (wrd s r)with⟨m,k,e,hw,hlt⟩|⟨e,he⟩|⟨s',x,e,hgt⟩
 ·refine⟨m,k,?_,by rw[wrd_mod h']at hw;exact hw⟩
  rw[e]
  congr 1
  have:=wrd_sign (s:=s) h'
  cases s
  ·simp only[Bool.false_eq_true,iff_false]at this;simp[this]
  ·simp only[iff_true]at this;simp[this]
 ·rw[wrd_mod h']at he;omega
 ·rw[wrd_mod h']at hgt;omega
end Go.Aa
set_option linter.unusedVariables false
set_option linter.unusedSimpArgs false
namespace Go.Aa
theorem read_lt{b:Nat}{s:Bool}{m:Nat}{p:Int}(h:F64.read b=.number s m p):m<9007199254740992:=by
 have e1:F64.signWeight=9223372036854775808:=rfl
 have e2:F64.binade=4503599627370496:=rfl
 have e3:F64.infRung=9218868437227405312:=rfl
 unfold Ieee.Format.read at h
 simp only[e1,e2,e3]at h
 split at h
 ·injection h with h1 h2 h3;omega
 ·split at h
  ·injection h with h1 h2 h3;omega
  ·split at h<;>cases h
theorem fi_eq(n:Int):FloatKind.f64.nearest n=wrd (decide (n<0)) (rung n.natAbs 0):=nearest_rung _ _ _
theorem rung_log{n:Nat}(h:n≠0)(hl:n.log2<1000):rung n 0<9218868437227405312∧rung n 0≠0∧n.log2+1074≤(worth (rung n 0)).log2∧(worth (rung n 0)).log2≤n.log2+1075:=by
 obtain⟨q,e1,e2,e3,_⟩:=rung_normal (p:=0) h (L:=n.log2+1022) (by omega) (by omega)
 rw[e1]
 refine⟨by omega,by omega,?_⟩
 rw[worth_normal e2 e3,log2_mul_pow (by omega)]
 have h1:52≤q.log2:=(Nat.le_log2 (by omega)).2 (by omega)
 have h2:q.log2<54:=(Nat.log2_lt (by omega)).2 (by omega)
 omega
theorem ac1(K l n j t:Nat):K*l*(n*j)*t=K*n*(l*j*t):=by ac_rfl
theorem ac2(K n u v:Nat):K*n*(u*v)=K*u*n*v:=by ac_rfl
theorem ac3(m a b c:Nat):m*a*b*(c*2)=2*(m*c)*(a*b):=by ac_rfl
theorem worth_le{a b:Nat}(h:a≤b):worth a≤worth b:=by
 rcases Nat.lt_or_ge a b with h1|h1
 ·exact Nat.le_of_lt (worth_lt h1)
 ·rw[show a=b by omega];exact Nat.le_refl _
theorem worth_succ{L k:Nat}(h1:4503599627370496≤k)(h2:k≤9007199254740992):(k+1)*2^L≤worth (L*4503599627370496+(k+1)):=by
 rcases Nat.lt_or_ge k 9007199254740992 with h|h
 ·rw[worth_normal (by omega) (by omega)];exact Nat.le_refl _
 ·have:k=9007199254740992:=by omega
  subst this
  rw[show L*4503599627370496+(9007199254740992+1)=(L+1)*4503599627370496+4503599627370497 by omega,worth_normal (by omega) (by omega),Nat.pow_succ,Nat.mul_comm (2^L) 2,←Nat.mul_assoc]
  exact Nat.mul_le_mul_right _ (by omega)
theorem div_spec {s t : Bool} {r1 r2 : Nat} (h1 : r1 < 9218868437227405312) (h2 : r2 < 9218868437227405312) (n1 : worth r1 ≠ 0) (n2 : worth r2 ≠ 0)
    (hlo : (worth r2).log2 < (worth r1).log2 + 1000) (hhi : (worth r1).log2 < (worth r2).log2 + 1000) :
    ∃ R, F64.div (wrd s r1) (wrd t r2) = some (wrd (s ^^ t) R) ∧ 0 < R ∧ R < 9218868437227405312 ∧
      (∀ c, worth c * worth r2 ≤ worth r1 * pw 1074 → c ≤ R) ∧ (∀ c, worth r1 * pw 1074 ≤ worth c * worth r2 → R ≤ c) ∧
      worth R * worth r2 * 4503599627370496 ≤ worth r1 * pw 1074 * 4503599627370497 ∧ worth r1 * pw 1074 * 4503599627370495 ≤ worth R * worth r2 * 4503599627370496 := by
  obtain ⟨m, i, ea, wa⟩ := read_wrd (s := s) h1
  obtain ⟨n, j, eb, wb⟩ := read_wrd (s := t) h2
  have lm := read_lt ea
  have ln := read_lt eb
  have hm : m ≠ 0 := by rintro rfl; rw [Nat.zero_mul] at wa; exact n1 wa.symm
  have hn : n ≠ 0 := by rintro rfl; rw [Nat.zero_mul] at wb; exact n2 wb.symm
  rw [← wa, log2_mul_pow hm] at hlo hhi
  rw [← wb, log2_mul_pow hn] at hlo hhi
  have gm : m.log2 ≤ 52 := by have := (Nat.log2_lt hm (k := 53)).2 lm; omega
  have gn : n.log2 ≤ 52 := by have := (Nat.log2_lt hn (k := 53)).2 ln; omega
  have a1 := Nat.log2_self_le hm
  have a2 := @Nat.lt_log2_self m
  have b1 := Nat.log2_self_le hn
  have b2 := @Nat.lt_log2_self n
  have hd : F64.div (wrd s r1) (wrd t r2) = some (wrd (s ^^ t) (rung (2 * (m * 2 ^ (54 + n.log2 - m.log2) / n) + (m * 2 ^ (54 + n.log2 - m.log2) % n != 0).toNat) ((-1074 + (i : Int)) - (-1074 + (j : Int)) - ((54 + n.log2 - m.log2 : Nat) : Int) - 1))) := by
    unfold Ieee.Format.div
    rw [ea, eb]
    simp only [Ieee.Datum.quotient, if_neg hn, Option.map_some, Ieee.Format.write, Nat.shiftLeft_eq, nearest_rung]
    rfl
  generalize hmore : 54 + n.log2 - m.log2 = more at hd
  have hD1 : 2 ^ (54 + n.log2) ≤ m * 2 ^ more := by
    have := Nat.mul_le_mul_right (2 ^ more) a1
    rwa [← Nat.pow_add, show m.log2 + more = 54 + n.log2 by omega] at this
  have hD2 : m * 2 ^ more < 2 ^ (55 + n.log2) := by
    have := Nat.mul_lt_mul_of_pos_right a2 (Nat.two_pow_pos more)
    rwa [← Nat.pow_add, show m.log2 + 1 + more = 55 + n.log2 by omega] at this
  generalize hDD : m * 2 ^ more = D at hd hD1 hD2
  have hq1 : 9007199254740992 ≤ D / n := by
    refine (Nat.le_div_iff_mul_le (by omega)).2 ?_
    have : 9007199254740992 * n ≤ 9007199254740992 * 2 ^ (n.log2 + 1) := Nat.mul_le_mul_left _ (Nat.le_of_lt b2)
    have e : 9007199254740992 * 2 ^ (n.log2 + 1) = 2 ^ (54 + n.log2) := by
      rw [show (9007199254740992 : Nat) = 2 ^ 53 from rfl, ← Nat.pow_add]; congr 1; omega
    omega
  have hq2 : D / n < 36028797018963968 := by
    refine (Nat.div_lt_iff_lt_mul (by omega)).2 ?_
    have : 36028797018963968 * 2 ^ n.log2 ≤ 36028797018963968 * n := Nat.mul_le_mul_left _ b1
    have e : 36028797018963968 * 2 ^ n.log2 = 2 ^ (55 + n.log2) := by
      rw [show (36028797018963968 : Nat) = 2 ^ 55 from rfl, ← Nat.pow_add]
    omega
  have hqr := Nat.div_add_mod D n
  have hrl := Nat.mod_lt D (show n > 0 by omega)
  generalize hq : D / n = q at hd hq1 hq2 hqr
  generalize hr : D % n = rest at hd hqr hrl
  obtain ⟨sb, hsb, hsb0, hsb1⟩ : ∃ sb, (rest != 0).toNat = sb ∧ (rest = 0 → sb = 0) ∧ (rest ≠ 0 → sb = 1) := ⟨_, rfl, fun h => by rw [h]; rfl, fun h => by simp [h]⟩
  rw [hsb] at hd
  have hsb2 : sb ≤ 1 := by rw [← hsb]; exact Bool.toNat_le _
  have hmag : 2 * q + sb ≠ 0 := by omega
  have l1 : 54 ≤ (2 * q + sb).log2 := (Nat.le_log2 hmag).2 (by omega)
  have l2 : (2 * q + sb).log2 < 56 := (Nat.log2_lt hmag).2 (by omega)
  generalize hplace : ((-1074 + (i : Int)) - (-1074 + (j : Int)) - ((more : Nat) : Int) - 1) = place at hd
  obtain ⟨L, hL⟩ : ∃ L : Nat, (L : Int) = place + (2 * q + sb).log2 - 52 + 1074 := ⟨(place + (2 * q + sb).log2 - 52 + 1074).toNat, by omega⟩
  obtain ⟨k, e1, e2, e3, _, e5⟩ := rung_normal hmag hL (by omega)
  have e5 := e5 (by omega)
  have s1 := Nat.log2_self_le hmag
  obtain ⟨d, hdd⟩ : ∃ d, (2 * q + sb).log2 - 52 = d + 1 := ⟨(2 * q + sb).log2 - 53, by omega⟩
  rw [hdd] at e5
  rw [show (2 * q + sb).log2 = 52 + (d + 1) by omega, Nat.pow_add] at s1
  have hg : 0 < 2 ^ (d + 1) := Nat.two_pow_pos _
  have gd : 2 ^ (d + 1) = 2 * 2 ^ d := by rw [Nat.pow_succ, Nat.mul_comm]
  have gd0 : 0 < 2 ^ d := Nat.two_pow_pos _
  -- the exact quotient against whole numbers of units
  have lower : ∀ K, K * 2 ^ (d + 1) * n ≤ 2 * D → K ≤ k := fun K hK => by
    rw [e5]
    refine cutE_ge hg ?_
    have h3 : K * 2 ^ d * n ≤ D := by
      have : K * 2 ^ (d + 1) * n = 2 * (K * 2 ^ d * n) := by rw [gd, Nat.mul_left_comm K 2, Nat.mul_assoc]
      omega
    have h4 : K * 2 ^ d ≤ q := by rw [← hq]; exact (Nat.le_div_iff_mul_le (by omega)).2 h3
    have : K * 2 ^ (d + 1) = 2 * (K * 2 ^ d) := by rw [gd, Nat.mul_left_comm]
    omega
  have upper : ∀ K, 2 * D ≤ K * 2 ^ (d + 1) * n → k ≤ K := fun K hK => by
    rw [e5]
    refine cutE_le hg ?_
    have h3 : D ≤ K * 2 ^ d * n := by
      have : K * 2 ^ (d + 1) * n = 2 * (K * 2 ^ d * n) := by rw [gd, Nat.mul_left_comm K 2, Nat.mul_assoc]
      omega
    have e : K * 2 ^ (d + 1) = 2 * (K * 2 ^ d) := by rw [gd, Nat.mul_left_comm]
    generalize K * 2 ^ d = M at h3 e
    rw [e]
    have h4 : q ≤ M := by
      have := Nat.div_le_div_right (c := n) h3
      rwa [hq, Nat.mul_div_cancel _ (by omega)] at this
    rcases Nat.lt_or_ge q M with h5 | h5
    · omega
    · have : q = M := by omega
      subst this
      have : rest = 0 := by
        have := Nat.mul_comm n q
        omega
      have := hsb0 this
      omega
  -- worths and units
  have x1 : ∀ K, K * 2 ^ L * worth r2 * 2 ^ (more + 1) = K * 2 ^ (d + 1) * n * 2 ^ (i + 1074) := fun K => by
    rw [← wb]
    have : L + j + (more + 1) = (d + 1) + (i + 1074) := by omega
    rw [ac1, ← Nat.pow_add, ← Nat.pow_add, this, Nat.pow_add 2 (d + 1), ac2]
  have x2 : worth r1 * pw 1074 * 2 ^ (more + 1) = 2 * D * 2 ^ (i + 1074) := by
    rw [← wa, ← hDD, Nat.pow_add 2 i, ← pw_eq 1074, show 2 ^ (more + 1) = 2 ^ more * 2 from Nat.pow_succ 2 more, ac3]
  have p1 := Nat.two_pow_pos (more + 1)
  have p2 := Nat.two_pow_pos (i + 1074)
  have unit : ∀ K, K * 2 ^ L * worth r2 ≤ worth r1 * pw 1074 ↔ K * 2 ^ (d + 1) * n ≤ 2 * D := fun K => by
    constructor
    · intro h
      have := Nat.mul_le_mul_right (2 ^ (more + 1)) h
      rw [x1, x2] at this
      exact Nat.le_of_mul_le_mul_right this p2
    · intro h
      have := Nat.mul_le_mul_right (2 ^ (i + 1074)) h
      rw [← x1, ← x2] at this
      exact Nat.le_of_mul_le_mul_right this p1
  have unit' : ∀ K, worth r1 * pw 1074 ≤ K * 2 ^ L * worth r2 ↔ 2 * D ≤ K * 2 ^ (d + 1) * n := fun K => by
    constructor
    · intro h
      have := Nat.mul_le_mul_right (2 ^ (more + 1)) h
      rw [x1, x2] at this
      exact Nat.le_of_mul_le_mul_right this p2
    · intro h
      have := Nat.mul_le_mul_right (2 ^ (i + 1074)) h
      rw [← x1, ← x2] at this
      exact Nat.le_of_mul_le_mul_right this p1
  -- the least that it is
  have f0 : 4503599627370496 * 2 ^ d ≤ q := by
    have e : (2 : Nat) ^ 52 * 2 ^ (d + 1) = 2 * (4503599627370496 * 2 ^ d) := by
      rw [gd, show (2 : Nat) ^ 52 = 4503599627370496 from rfl]; omega
    rw [e] at s1
    omega
  have f5 : 4503599627370496 * (2 * (2 ^ d * n)) ≤ 2 * D := by
    have := Nat.mul_le_mul_right n f0
    have e : 4503599627370496 * 2 ^ d * n = 4503599627370496 * (2 ^ d * n) := Nat.mul_assoc _ _ _
    have e2 := Nat.mul_comm n q
    omega
  refine ⟨_, hd, ?_, ?_, ?_, ?_, ?_⟩
  · rw [e1]; omega
  · rw [e1]; omega
  · intro c hc
    rcases Nat.lt_or_ge (rung (2 * q + sb) place) c with h | h
    · exfalso
      have h3 : worth (rung (2 * q + sb) place + 1) ≤ worth c := worth_le h
      rw [e1, Nat.add_assoc] at h3
      have h4 := worth_succ (L := L) e2 e3
      have h5 : (k + 1) * 2 ^ L * worth r2 ≤ worth r1 * pw 1074 := Nat.le_trans (Nat.mul_le_mul_right _ (Nat.le_trans h4 h3)) hc
      have := lower _ ((unit _).1 h5)
      omega
    · exact h
  · intro c hc
    rcases Nat.lt_or_ge c (rung (2 * q + sb) place) with h | h
    · exfalso
      have h3 : worth c ≤ worth (L * 4503599627370496 + k - 1) := worth_le (by omega)
      rcases Nat.lt_or_ge 4503599627370496 k with h4 | h4
      · rw [show L * 4503599627370496 + k - 1 = L * 4503599627370496 + (k - 1) by omega, worth_normal (by omega) (by omega)] at h3
        have h5 := Nat.le_trans hc (Nat.mul_le_mul_right (worth r2) h3)
        have := upper _ ((unit' _).1 h5)
        omega
      · have hk : k = 4503599627370496 := by omega
        subst hk
        have h5 : 4503599627370496 * 2 ^ L * worth r2 ≤ worth r1 * pw 1074 := (unit _).2 (by rw [gd, Nat.mul_assoc, Nat.mul_assoc]; exact f5)
        rw [← worth_normal (L := L) (Nat.le_refl _) (by omega)] at h5
        have h6 : worth c < worth (L * 4503599627370496 + 4503599627370496) := worth_lt (by omega)
        have h7 := Nat.mul_lt_mul_of_pos_right h6 (show 0 < worth r2 by omega)
        omega
    · exact h
  · rw [e1, worth_normal e2 e3]
    have er := cutE_err (n := 2 * q + sb) hg
    rw [← e5] at er
    have hN := Nat.mul_le_mul_right n (show 1 ≤ 2 ^ d from gd0)
    have g1 : k * 2 ^ (d + 1) * n ≤ (2 * q + sb) * n + 2 ^ d * n := by
      rw [← Nat.add_mul]; exact Nat.mul_le_mul_right n (by omega)
    have g2 : (2 * q + sb) * n ≤ k * 2 ^ (d + 1) * n + 2 ^ d * n := by
      rw [← Nat.add_mul]; exact Nat.mul_le_mul_right n (by omega)
    have g3 : (2 * q + sb) * n = 2 * (n * q) + sb * n := by rw [Nat.add_mul, Nat.mul_assoc, Nat.mul_comm q n]
    have g4 : sb * n ≤ n ∧ 2 * rest ≤ sb * n + n := by
      by_cases h0 : rest = 0
      · have := hsb0 h0; subst this; omega
      · have := hsb1 h0; subst this; omega
    constructor
    · have : k * 2 ^ (d + 1) * n * 4503599627370496 ≤ 2 * D * 4503599627370497 := by
        rw [g3] at g1
        omega
      have := Nat.mul_le_mul_right (2 ^ (i + 1074)) this
      rw [Nat.mul_right_comm (k * 2 ^ (d + 1) * n), Nat.mul_right_comm (2 * D), ← x1, ← x2] at this
      refine Nat.le_of_mul_le_mul_right ?_ p1
      rw [Nat.mul_right_comm (k * 2 ^ L * worth r2), Nat.mul_right_comm (worth r1 * pw 1074)]
      exact this
    · have : 2 * D * 4503599627370495 ≤ k * 2 ^ (d + 1) * n * 4503599627370496 := by
        rw [g3] at g2
        omega
      have := Nat.mul_le_mul_right (2 ^ (i + 1074)) this
      rw [Nat.mul_right_comm (k * 2 ^ (d + 1) * n), Nat.mul_right_comm (2 * D), ← x1, ← x2] at this
      refine Nat.le_of_mul_le_mul_right ?_ p1
      rw [Nat.mul_right_comm (k * 2 ^ L * worth r2), Nat.mul_right_comm (worth r1 * pw 1074)]
      exact this
theorem write_fl{d:Ieee.Datum}(h:d.isNaN=false):NN (F64.write d)∧F64.write d<18446744073709551616:=by
 cases d with
 |number s m p=>
  have e:F64.write (.number s m p)=wrd s (rung m p):=nearest_rung s m p
  rw[e];exact wrd_nn (rung_le m p)
 |infinity s=>exact wrd_nn (s:=s) (r:=9218868437227405312) (Nat.le_refl _)
 |nan s x=>cases h
theorem div_fl{x y z:Nat}(h:F64.div x y=some z):NN z∧z<18446744073709551616:=by
 unfold Ieee.Format.div at h
 cases hq:(F64.read x).quotient (F64.fractionBits+2) (F64.read y)with
 |none=>rw[hq]at h;cases h
 |some d=>
  rw[hq]at h
  simp only[Option.map_some,Option.some.injEq]at h
  subst h
  refine write_fl ?_
  revert hq
  cases F64.read x<;>cases F64.read y<;>simp only[Ieee.Datum.quotient]<;>intro hq
  all_goals first
   |(cases hq;done)
   |(injection hq with hq;subst hq;rfl)
   |(split at hq
     ·split at hq
      ·cases hq
      ·injection hq with hq;subst hq;rfl
     ·injection hq with hq;subst hq;rfl)
theorem div_int{a b:Int}(ha:a≠0)(hb:b≠0)(la:a.natAbs≤9223372036854775808)(lb:b.natAbs≤9223372036854775808):
 ∃R,F64.div (FloatKind.f64.nearest a) (FloatKind.f64.nearest b)=some (wrd (decide (a<0)^^decide (b<0)) R)∧0<R∧R<9218868437227405312:=by
 have na:a.natAbs≠0:=by omega
 have nb:b.natAbs≠0:=by omega
 have ga:a.natAbs.log2<64:=(Nat.log2_lt na).2 (by omega)
 have gb:b.natAbs.log2<64:=(Nat.log2_lt nb).2 (by omega)
 obtain⟨a1,a2,a3,a4⟩:=rung_log na (by omega)
 obtain⟨b1,b2,b3,b4⟩:=rung_log nb (by omega)
 have w0:∀r,r≠0→worth r≠0:=fun r hr=>by
  have:=worth_lt (show 0<r by omega)
  omega
 rw[fi_eq,fi_eq]
 obtain⟨R,h,h1,h2,_⟩:=div_spec (s:=decide (a<0)) (t:=decide (b<0)) a1 b1 (w0 _ a2) (w0 _ b2) (by omega) (by omega)
 exact⟨R,h,h1,h2⟩
theorem read_int{a:Int}(ha:a≠0)(la:a.natAbs≤9223372036854775808):∃(m:Nat)(p:Int),F64.read (FloatKind.f64.nearest a)=.number (decide (a<0)) m p∧m≠0:=by
 have na:a.natAbs≠0:=by omega
 have ga:a.natAbs.log2<64:=(Nat.log2_lt na).2 (by omega)
 obtain⟨a1,a2,_⟩:=rung_log na (by omega)
 rw[fi_eq]
 obtain⟨m,k,e,hw⟩:=read_wrd (s:=decide (a<0)) a1
 refine⟨m,_,e,?_⟩
 rintro rfl
 rw[Nat.zero_mul]at hw
 have:=worth_lt (show 0<rung a.natAbs 0 by omega)
 omega
theorem div_by0{a:Int}(ha:a≠0)(la:a.natAbs≤9223372036854775808):F64.div (FloatKind.f64.nearest a) 0=some (wrd (decide (a<0)) 9218868437227405312):=by
 obtain⟨m,p,e,hm⟩:=read_int ha la
 unfold Ieee.Format.div
 rw[e,show F64.read 0=.number false 0 (-1074)from rfl]
 simp only[Ieee.Datum.quotient,if_pos,if_neg hm,Option.map_some,Bool.xor_false]
 rfl
theorem div_of0{b:Int}(hb:b≠0)(lb:b.natAbs≤9223372036854775808):F64.div 0 (FloatKind.f64.nearest b)=some (wrd (decide (b<0)) 0):=by
 obtain⟨m,p,e,hm⟩:=read_int hb lb
 unfold Ieee.Format.div
 rw[e,show F64.read 0=.number false 0 (-1074)from rfl]
 simp only[Ieee.Datum.quotient,if_neg hm,Option.map_some,Bool.false_xor,Nat.shiftLeft_eq,Nat.zero_mul,Nat.zero_div,Nat.zero_mod,Ieee.Format.write,nearest_rung]
 simp[rung]
theorem div_00:F64.div 0 0=none:=rfl
end Go.Aa
set_option linter.unusedVariables false
set_option linter.unusedSimpArgs false
set_option maxRecDepth 100000
namespace Go.Aa.T
open Go.Aa Go.Proofs
variable{H:Heap}{b c:Nat}
inductive Fl:AV→Prop
 |nan:Fl .nan
 |flt(b:Nat)(h:NN b)(hb:b<18446744073709551616):Fl (.flt b)
def top:Int:=9218868437227405312
def clsB(b:Nat):Int:=if rank b=top then 5 else if 0<rank b then 4 else if rank b= -top then 0 else if rank b<0 then 1 else if b/9223372036854775808%2=1 then 2 else 3
def cls:AV→Int
 |.flt b=>clsB b
 |_=>6
def sgn(x y:Int):Int:=if x<y then-1 else if y<x then 1 else 0
def rk:AV→Int
 |.flt b=>rank b
 |_=>0
def cmp(x y:AV):Int:=if cls x≠cls y then sgn (cls x) (cls y)else if cls x=1∨cls x=4 then sgn (rk x) (rk y)else 0
theorem rank_top(h:NN b): -top≤rank b∧rank b≤top:=by
 rw[NN_iff]at h
 unfold rank top
 split<;>omega
theorem r0:rank 0=0:=rfl
theorem rmax:rank 9218868437227405311=9218868437227405311:=rfl
theorem nn0:NN 0:=rfl
theorem nnmax:NN 9218868437227405311:=rfl
theorem Fl.data{x:AV}(h:Fl x):isData x=true:=by cases h<;>rfl
theorem Fl.shut{x:AV}(h:Fl x):shutA x=x:=by cases h<;>rfl
theorem sgn_self(x:Int):sgn x x=0:=by unfold sgn;simp
theorem cls_same(hb:NN b)(hc:NN c)(h:clsB b=clsB c)(h1:¬(clsB b=1∨clsB b=4)):rank b=rank c:=by
 have t1:=rank_top hb
 have t2:=rank_top hc
 unfold clsB at h h1
 unfold top at*
 (repeat' split at h)<;>(repeat' split at h1)<;>omega
theorem cls_lt6(b:Nat):clsB b<6:=by unfold clsB;(repeat' split)<;>omega
def isn:AV→Bool
 |.nan=>true
 |_=>false
theorem Fl.dat{x:AV}(h:Fl x):Dat x:=⟨by cases h<;>exact⟨rfl,rfl⟩⟩
def fltR(x:Option Nat):AV:=match x with
 |some z=>.flt z
 |none=>.nan
theorem fltR_fl{x:Option Nat}(h:∀z,x=some z→NN z∧z<18446744073709551616):Fl (fltR x):=by
 cases x with
 |none=>exact .nan
 |some z=>exact .flt z (h z rfl).1 (h z rfl).2
theorem divB(x y:Nat):binA .quo (.flt x) (.flt y)=some (fltR (F64.div x y)):=by
 simp only[binA,fltBin,fltAr,fltR]
 cases F64.div x y<;>rfl
def ofA(a b:Int):AV:=fltR (F64.div (FloatKind.f64.nearest a) (FloatKind.f64.nearest b))
theorem ofA_fl(a b:Int):Fl (ofA a b):=fltR_fl fun z h=>div_fl h
theorem cls_wrd{s:Bool}{r:Nat}(h:r≤9218868437227405312):cls (.flt (wrd s r))=if r=0 then(if s then 2 else 3)else if r=9218868437227405312 then(if s then 0 else 5)else if s then 1 else 4:=by
 simp only[cls,clsB]
 rw[wrd_rank (by omega)]
 have hs:=wrd_sign (s:=s) (r:=r) (by omega)
 unfold top
 cases s
 ·simp only[Bool.false_eq_true,if_false,iff_false]at hs⊢
  rw[if_neg hs]
  (repeat' split)<;>omega
 ·simp only[if_true,iff_true]at hs⊢
  rw[if_pos hs]
  (repeat' split)<;>omega
theorem ofA_cls {a b : Int} (la : a.natAbs ≤ 9223372036854775808) (lb : b.natAbs ≤ 9223372036854775808) : cls (ofA a b) =
 if b = 0 then (if a = 0 then 6 else if 0 < a then 5 else 0) else if a = 0 then (if b < 0 then 2 else 3) else if (decide (a < 0) ^^ decide (b < 0)) then 1 else 4 := by
 unfold ofA
 have z : FloatKind.f64.nearest 0 = 0 := rfl
 by_cases hb : b = 0
 · subst hb
   rw [z]
   by_cases ha : a = 0
   · subst ha
     rw [z, div_00]; rfl
   · rw [div_by0 ha la]
     simp only [fltR, cls_wrd (Nat.le_refl _)]
     by_cases h : a < 0
     · have : ¬ 0 < a := by omega
       simp [ha, h, this]
     · have : 0 < a := by omega
       simp [ha, h, this]
 · by_cases ha : a = 0
   · subst ha
     rw [z, div_of0 hb lb]
     simp only [fltR, cls_wrd (Nat.zero_le _)]
     simp [hb]
   · obtain ⟨R, h, h1, h2⟩ := div_int ha hb la lb
     rw [h]
     simp only [fltR, cls_wrd (Nat.le_of_lt h2)]
     have : R ≠ 0 := by omega
     have : R ≠ 9218868437227405312 := by omega
     simp [ha, hb, *]
def FlL(l:List AV):Prop:=∀x∈l,Fl x
theorem Fl.cell{x:AV}(h:Fl x):cellsN 1 x=true:=by cases h<;>rfl
theorem Fl.cells{x:AV}(h:Fl x):x.cells=[x]:=by cases h<;>rfl
theorem Fl.data0{x:AV}(h:Fl x):dataOk [x]=true:=by cases h<;>rfl
theorem Fl.shut2{x:AV}(h:Fl x):[x].map shut2=[x]:=by cases h<;>rfl
end Go.Aa.T
set_option linter.unusedVariables false
set_option linter.unusedSimpArgs false
set_option maxRecDepth 100000
namespace Go.Aa.T
open Go.Aa Go.Proofs
variable{H:Heap}{b c:Nat}
theorem o_lt(hb:NN b)(hc:NN c):(fltOrd (some b) (some c)==some .lt)=decide (rank b<rank c):=by
 rw[ord_rank hb hc,Option.some_beq_some,cmp_lt]
theorem o_gt(hb:NN b)(hc:NN c):(fltOrd (some b) (some c)==some .gt)=decide (rank c<rank b):=by
 rw[ord_rank hb hc,Option.some_beq_some,cmp_gt]
theorem o_eq(hb:NN b)(hc:NN c):(fltOrd (some b) (some c)==some .eq)=decide (rank b=rank c):=by
 rw[ord_rank hb hc,Option.some_beq_some,cmp_eq]
theorem o_ns(hb:NN b):(fltOrd (some b) (some b) !=some .eq)=false:=by
 rw[bne,o_eq hb hb];simp
theorem ret_b{x y:Bool}{H:Heap}(h:x=y):IsRet (.bool y) (.ret (.bool x),H):=by subst h;rfl
theorem isNaN_nan:Gives cfg 64 [.nan] (.bool true):=by
 refine Gives.run (l64 _ _) ?_
 exact gG 30 [] trivial (.fin ((.ret (.bool (fltOrd none none !=some Ordering.eq)),{boxes:=[],toks:=[],loops:=[]:Heap})) rfl)
theorem isNaN_flt(h:NN b):Gives cfg 64 [.flt b] (.bool false):=by
 refine Gives.run (l64 _ _) ?_
 have e:=o_ns h
 exact gG 30 [] trivial (.fin ((.ret (.bool (fltOrd (some b) (some b) !=some Ordering.eq)),{boxes:=[],toks:=[],loops:=[]:Heap})) (by exact ret_b e))
theorem isNaN_f(h:NN b):Gives cfg 133 [.flt b] (.bool false):=by
 refine Gives.run (l133 _ _) ?_
 have e:=o_ns h
 exact gG 30 [] trivial (.fin ((.ret (.bool (fltOrd (some b) (some b) !=some Ordering.eq)),{boxes:=[],toks:=[],loops:=[]:Heap})) (by exact ret_b e))
theorem isInf1(h:NN b):Gives cfg 113 [.flt b,.int .i64 1] (.bool (decide (rank b=top))):=by
 refine Gives.run (l113 _ _) ?_
 have e:=o_gt h nnmax
 have t:=rank_top h
 have e':decide (rank 9218868437227405311<rank b)=decide (rank b=top):=by
  rw[rmax];unfold top at*;exact decide_eq_decide.2 (by omega)
 rw[e']at e
 generalize decide (rank b=top)=d at e⊢
 exact gG 30 [] trivial (.ff<|.ff<|.fin ((.ret (.bool (fltOrd (some b) (some 9218868437227405311)==some Ordering.gt)),{boxes:=[],toks:=[],loops:=[]:Heap})) (by exact ret_b e))
theorem isInf2(h:NN b):Gives cfg 113 [.flt b,.int .i64 (-1)] (.bool (decide (rank b= -top))):=by
 refine Gives.run (l113 _ _) ?_
 have e:=o_gt (nn_neg h) nnmax
 have t:=rank_top h
 have e':decide (rank 9218868437227405311<rank (Op.negFloat .f64 b))=decide (rank b= -top):=by
  rw[rmax,rank_neg];unfold top at*;exact decide_eq_decide.2 (by omega)
 rw[e']at e
 generalize decide (rank b= -top)=d at e⊢
 exact gG 30 [] trivial (.ff<|.tt<|.fin ((.ret (.bool (fltOrd (some (Op.negFloat FloatKind.f64 b)) (some 9218868437227405311)==some Ordering.gt)),{boxes:=[],toks:=[],loops:=[]:Heap})) (by exact ret_b e))
theorem bits_any(b:Nat):Gives cfg 201 [.flt b] (.int .u64 b):=.of (H':=Heap.nil) (by rw[lim_ext rfl (g:=bitsE) rfl];rfl)
theorem sign_flt(hb:b<18446744073709551616):Gives cfg 114 [.flt b] (.bool (decide (b/9223372036854775808%2=1))):=by
 refine Gives.run (l114 _ _) ?_
 have h1:=bits_any b
 have h2:convA (.int .i64) (.int .u64 (b:Int))=some (.int .i64 (IntKind.i64.wrap (b:Int))):=rfl
 have h3:decide (IntKind.i64.wrap (b:Int)<0)=decide (b/9223372036854775808%2=1):=decide_eq_decide.2 (sign_rank hb)
 generalize IntKind.i64.wrap (b:Int)=z at h2 h3
 rw[←h3]
 exact gG 30 [] trivial (.callK ([AV.flt b]) (.int .u64 ↑b) h1<|.conv (show convA (CV.int IntKind.i64) (.int .u64 ↑b)=some (.int .i64 z)from h2)<|.fin ((.ret (.bool (decide (z<(0:Int)))),{boxes:=[],toks:=[],loops:=[]:Heap})) rfl)
theorem isNaN_int(x:Int):Gives cfg 132 [.int .i64 x] (.bool false):=by
 refine Gives.run (l132 _ _) ?_
 exact gG 30 [] trivial (.fin ((.ret (.bool (x !=x)),{boxes:=[],toks:=[],loops:=[]:Heap})) (by exact ret_b (by simp)))
theorem cmpInt(x y:Int):Gives cfg 63 [.int .i64 x,.int .i64 y] (.int .i64 (sgn x y)):=by
 refine Gives.run (l63 _ _) ?_
 have h1:=isNaN_int
 unfold sgn
 by_cases a:x<y
 ·rw[if_pos a]
  exact gG 60 [] trivial (.callK ([.int .i64 x]) (.bool false) (show Gives cfg 132 [.int .i64 x] (.bool false)from h1 _)<|.callK ([.int .i64 y]) (.bool false) (show Gives cfg 132 [.int .i64 y] (.bool false)from h1 _)<|.ff<|.ff<|.yes (dT (x<y) (by exact a))<|.fin ((.ret (.int .i64 (-1:Int)),{boxes:=[],toks:=[],loops:=[]:Heap})) rfl)
 ·rw[if_neg a]
  by_cases b:y<x
  ·rw[if_pos b]
   exact gG 60 [] trivial (.callK ([.int .i64 x]) (.bool false) (show Gives cfg 132 [.int .i64 x] (.bool false)from h1 _)<|.callK ([.int .i64 y]) (.bool false) (show Gives cfg 132 [.int .i64 y] (.bool false)from h1 _)<|.ff<|.ff<|.no (dF (x<y) (by exact a))<|.yes (dT (y<x) (by exact b))<|.fin ((.ret (.int .i64 1),{boxes:=[],toks:=[],loops:=[]:Heap})) rfl)
  ·rw[if_neg b]
   exact gG 60 [] trivial (.callK ([.int .i64 x]) (.bool false) (show Gives cfg 132 [.int .i64 x] (.bool false)from h1 _)<|.callK ([.int .i64 y]) (.bool false) (show Gives cfg 132 [.int .i64 y] (.bool false)from h1 _)<|.ff<|.ff<|.no (dF (x<y) (by exact a))<|.no (dF (y<x) (by exact b))<|.fin ((.ret (.int .i64 0),{boxes:=[],toks:=[],loops:=[]:Heap})) rfl)
theorem cmpFlt(hb:NN b)(hc:NN c):Gives cfg 65 [.flt b,.flt c] (.int .i64 (sgn (rank b) (rank c))):=by
 refine Gives.run (l65 _ _) ?_
 have h1:=isNaN_f hb
 have h2:=isNaN_f hc
 have e1:=o_lt hb hc
 have e2:=o_gt hb hc
 unfold sgn
 by_cases a:rank b<rank c
 ·rw[if_pos a]
  rw[decide_eq_true a]at e1
  exact gG 60 [] trivial (.callK ([AV.flt b]) (.bool false) h1<|.callK ([AV.flt c]) (.bool false) h2<|.ff<|.ff<|.yes (show(fltOrd (some b) (some c)==some Ordering.lt)=true from(by simp[e1]))<|.fin ((.ret (.int .i64 (-1:Int)),{boxes:=[],toks:=[],loops:=[]:Heap})) rfl)
 ·rw[if_neg a]
  rw[decide_eq_false a]at e1
  by_cases d:rank c<rank b
  ·rw[if_pos d]
   rw[decide_eq_true d]at e2
   exact gG 60 [] trivial (.callK ([AV.flt b]) (.bool false) h1<|.callK ([AV.flt c]) (.bool false) h2<|.ff<|.ff<|.no (show(fltOrd (some b) (some c)==some Ordering.lt)=false from Bool.eq_false_iff.2 (by simp[e1]))<|.yes (show(fltOrd (some b) (some c)==some Ordering.gt)=true from(by simp[e2]))<|.fin ((.ret (.int .i64 1),{boxes:=[],toks:=[],loops:=[]:Heap})) rfl)
  ·rw[if_neg d]
   rw[decide_eq_false d]at e2
   exact gG 60 [] trivial (.callK ([AV.flt b]) (.bool false) h1<|.callK ([AV.flt c]) (.bool false) h2<|.ff<|.ff<|.no (show(fltOrd (some b) (some c)==some Ordering.lt)=false from Bool.eq_false_iff.2 (by simp[e1]))<|.no (show(fltOrd (some b) (some c)==some Ordering.gt)=false from Bool.eq_false_iff.2 (by simp[e2]))<|.fin ((.ret (.int .i64 0),{boxes:=[],toks:=[],loops:=[]:Heap})) rfl)
theorem class_nan:Gives cfg 50 [.nan] (.int .i64 6):=by
 refine Gives.run (l50 _ _) ?_
 have h:=isNaN_nan
 exact gG 60 [] trivial (.callK ([AV.nan]) (.bool true) h<|.tt<|.fin ((.ret (.int .i64 6),{boxes:=[],toks:=[],loops:=[]:Heap})) rfl)
theorem class_flt(h:NN b)(hb:b<18446744073709551616):Gives cfg 50 [.flt b] (.int .i64 (clsB b)):=by
 refine Gives.run (l50 _ _) ?_
 have n:=isNaN_flt h
 have i1:=isInf1 h
 have i2:=isInf2 h
 have s:=sign_flt hb
 have g:=o_gt h nn0
 have l:=o_lt h nn0
 rw[r0]at g l
 unfold clsB
 by_cases h1:rank b=top
 ·rw[if_pos h1]
  rw[decide_eq_true h1]at i1
  exact gG 60 [] trivial (.callK ([AV.flt b]) (.bool false) n<|.ff<|.callK ([AV.flt b,.int .i64 1]) (.bool true) i1<|.tt<|.fin ((.ret (.int .i64 5),{boxes:=[],toks:=[],loops:=[]:Heap})) rfl)
 ·rw[if_neg h1]
  rw[decide_eq_false h1]at i1
  by_cases h2:0<rank b
  ·rw[if_pos h2]
   rw[decide_eq_true h2]at g
   exact gG 60 [] trivial (.callK ([AV.flt b]) (.bool false) n<|.ff<|.callK ([AV.flt b,.int .i64 1]) (.bool false) i1<|.ff<|.yes (show(fltOrd (some b) (some 0)==some Ordering.gt)=true from(by simp[g]))<|.fin ((.ret (.int .i64 4),{boxes:=[],toks:=[],loops:=[]:Heap})) rfl)
  ·rw[if_neg h2]
   rw[decide_eq_false h2]at g
   by_cases h3:rank b= -top
   ·rw[if_pos h3]
    rw[decide_eq_true h3]at i2
    exact gG 60 [] trivial (.callK ([AV.flt b]) (.bool false) n<|.ff<|.callK ([AV.flt b,.int .i64 1]) (.bool false) i1<|.ff<|.no (show(fltOrd (some b) (some 0)==some Ordering.gt)=false from Bool.eq_false_iff.2 (by simp[g]))<|.callK ([AV.flt b,.int .i64 (-1:Int)]) (.bool true) i2<|.tt<|.fin ((.ret (.int .i64 0),{boxes:=[],toks:=[],loops:=[]:Heap})) rfl)
   ·rw[if_neg h3]
    rw[decide_eq_false h3]at i2
    by_cases h4:rank b<0
    ·rw[if_pos h4]
     rw[decide_eq_true h4]at l
     exact gG 60 [] trivial (.callK ([AV.flt b]) (.bool false) n<|.ff<|.callK ([AV.flt b,.int .i64 1]) (.bool false) i1<|.ff<|.no (show(fltOrd (some b) (some 0)==some Ordering.gt)=false from Bool.eq_false_iff.2 (by simp[g]))<|.callK ([AV.flt b,.int .i64 (-1:Int)]) (.bool false) i2<|.ff<|.yes (show(fltOrd (some b) (some 0)==some Ordering.lt)=true from(by simp[l]))<|.fin ((.ret (.int .i64 1),{boxes:=[],toks:=[],loops:=[]:Heap})) rfl)
    ·rw[if_neg h4]
     rw[decide_eq_false h4]at l
     by_cases h5:b/9223372036854775808%2=1
     ·rw[if_pos h5]
      rw[decide_eq_true h5]at s
      exact gG 60 [] trivial (.callK ([AV.flt b]) (.bool false) n<|.ff<|.callK ([AV.flt b,.int .i64 1]) (.bool false) i1<|.ff<|.no (show(fltOrd (some b) (some 0)==some Ordering.gt)=false from Bool.eq_false_iff.2 (by simp[g]))<|.callK ([AV.flt b,.int .i64 (-1:Int)]) (.bool false) i2<|.ff<|.no (show(fltOrd (some b) (some 0)==some Ordering.lt)=false from Bool.eq_false_iff.2 (by simp[l]))<|.callK ([AV.flt b]) (.bool true) s<|.tt<|.fin ((.ret (.int .i64 2),{boxes:=[],toks:=[],loops:=[]:Heap})) rfl)
     ·rw[if_neg h5]
      rw[decide_eq_false h5]at s
      exact gG 60 [] trivial (.callK ([AV.flt b]) (.bool false) n<|.ff<|.callK ([AV.flt b,.int .i64 1]) (.bool false) i1<|.ff<|.no (show(fltOrd (some b) (some 0)==some Ordering.gt)=false from Bool.eq_false_iff.2 (by simp[g]))<|.callK ([AV.flt b,.int .i64 (-1:Int)]) (.bool false) i2<|.ff<|.no (show(fltOrd (some b) (some 0)==some Ordering.lt)=false from Bool.eq_false_iff.2 (by simp[l]))<|.callK ([AV.flt b]) (.bool false) s<|.ff<|.fin ((.ret (.int .i64 3),{boxes:=[],toks:=[],loops:=[]:Heap})) rfl)
theorem class_any{x:AV}(hx:Fl x):Gives cfg 50 [x] (.int .i64 (cls x)):=by
 cases hx with
 |nan=>exact class_nan
 |flt b h hb=>exact class_flt h hb
theorem isNaN_any{x:AV}(hx:Fl x):Gives cfg 64 [x] (.bool (isn x)):=by
 cases hx with
 |nan=>exact isNaN_nan
 |flt b h hb=>exact isNaN_flt h
theorem cmp_nan(y:AV)(hy:Fl y)(h:cls .nan=cls y):y=.nan:=by
 cases hy with
 |nan=>rfl
 |flt b _ _=>have:=cls_lt6 b;simp only[cls]at h;omega
theorem sgn_ne{x y:Int}(h:x≠y):sgn x y≠0:=by unfold sgn;(repeat' split)<;>omega
theorem compare_any{x y:AV}(hx:Fl x)(hy:Fl y):Gives cfg 24 [x,y] (.int .i64 (cmp x y)):=by
 refine Gives.run (l24 _ _) ?_
 haveI:=hx.dat
 haveI:=hy.dat
 have c1:=class_any hx
 have c2:=class_any hy
 have c3:=cmpInt (cls x) (cls y)
 have ny:=isNaN_any hx
 by_cases h:cls x=cls y
 ·have c0:cmp x y=if cls x=1∨cls x=4 then sgn (rk x) (rk y)else 0:=by unfold cmp;rw[if_neg (by simpa using h)]
  rw[h,sgn_self]at c3
  cases hx with
  |nan=>
   have:=cmp_nan y hy h
   subst this
   rw[c0,show cls .nan=6 from rfl,if_neg (by omega)]
   have ny:Gives cfg 64 [.nan] (.bool true):=isNaN_nan
   have c1:Gives cfg 50 [.nan] (.int .i64 6):=class_nan
   have c3:=cmpInt 6 6
   rw[sgn_self]at c3
   exact gG 60 [] trivial (.callK ([AV.nan]) (.int .i64 6) c1<|.callK ([AV.nan]) (.int .i64 6) c1<|.callK ([.int .i64 6,.int .i64 6]) (.int .i64 0) c3<|.ff<|.callK ([AV.nan]) (.bool true) ny<|.tt<|.fin ((.ret (.int .i64 0),{boxes:=[],toks:=[],loops:=[]:Heap})) rfl)
  |flt b hb hb'=>
   cases hy with
   |nan=>exfalso;have:=cls_lt6 b;simp only[cls]at h;omega
   |flt c hc hc'=>
    have h':clsB b=clsB c:=h
    have e:cmp (.flt b) (.flt c)=sgn (rank b) (rank c):=by
     rw[c0]
     show(if clsB b=1∨clsB b=4 then sgn (rank b) (rank c)else 0)=_
     split
     ·rfl
     ·rename_i hn;rw[cls_same hb hc h' hn,sgn_self]
    rw[e]
    have ny:=isNaN_flt hb
    have cf:=cmpFlt hb hc
    have c1:=class_flt hb hb'
    have c2:=class_flt hc hc'
    rw[←h']at c2
    have c3:=cmpInt (clsB b) (clsB b)
    rw[sgn_self]at c3
    generalize sgn (rank b) (rank c)=q at cf⊢
    exact let ζ1:List AV:=[.int .i64 (clsB b),.int .i64 (clsB b)];gG 60 [] trivial (.callK ([AV.flt b]) (.int .i64 (clsB b)) c1<|.callK ([AV.flt c]) (.int .i64 (clsB b)) c2<|.callK (ζ1) (.int .i64 0) c3<|.ff<|.callK ([AV.flt b]) (.bool false) ny<|.ff<|.callK ([AV.flt b,AV.flt c]) (.int .i64 q) cf<|.fin ((.ret (.int .i64 q),{boxes:=[],toks:=[],loops:=[]:Heap})) rfl)
 ·have c0:cmp x y=sgn (cls x) (cls y):=by unfold cmp;rw[if_pos h]
  rw[c0]
  have hs:=sgn_ne h
  generalize sgn (cls x) (cls y)=q at c3 hs⊢
  exact let ζ1:List AV:=[.int .i64 (cls x),.int .i64 (cls y)];gG 60 [] trivial (.callG ([x]) (.int .i64 (cls x)) c1 Shuts.p ⟨rfl,rfl⟩<|.callG ([y]) (.int .i64 (cls y)) c2 Shuts.p ⟨rfl,rfl⟩<|.callK (ζ1) (.int .i64 q) c3<|.yes (show(q !=(0:Int))=true from(by simpa using hs))<|.tt<|.fin ((.ret (.int .i64 q),{boxes:=[],toks:=[],loops:=[]:Heap})) rfl)
theorem of_any(a b:Int):Gives cfg 49 [.int .i64 a,.int .i64 b] (ofA a b):=by
 refine Gives.run (l49 _ _) ?_
 have q:binA .quo (.flt (FloatKind.f64.nearest a)) (.flt (FloatKind.f64.nearest b))=some (ofA a b):=divB _ _
 haveI:=(ofA_fl a b).dat
 generalize ofA a b=z at*
 exact gG 60 [] trivial (.conv (rfl:convA CV.flt (.int .i64 a)=some (AV.flt (FloatKind.f64.nearest a)))<|.conv (rfl:convA CV.flt (.int .i64 b)=some (AV.flt (FloatKind.f64.nearest b)))<|.bin q<|.fin ((.ret z,{boxes:=[],toks:=[],loops:=[]:Heap})) rfl)
theorem frombits_nan:Gives cfg 258 [.int .u64 9221120237041090561] .nan:=.of (H':=Heap.nil) (by rw[lim_ext rfl (g:=frombitsE) rfl];rfl)
theorem nan_any:Gives cfg 213 [] .nan:=by
 refine Gives.run (l213 _ _) ?_
 have h:=frombits_nan
 exact gG 60 [] trivial (.callK ([.int .u64 9221120237041090561]) (AV.nan) h<|.fin ((.ret AV.nan,{boxes:=[],toks:=[],loops:=[]:Heap})) rfl)
end Go.Aa.T
set_option linter.unusedVariables false
set_option linter.unusedSimpArgs false
set_option maxRecDepth 100000
namespace Go.Aa.T
open Go.Aa Go.Proofs
class FlC(x:AV):Prop where
 p:Fl x
instance(x:AV) [h:FlC x]:Dat x:=h.p.dat
theorem Fl.sh1{x:AV}(h:Fl x):Go.Aa.shut1 x=x:=by cases h<;>rfl
theorem Fl.d0{x:AV}(h:Fl x):Go.Aa.data0 x=true:=by cases h<;>rfl
instance(x y:AV) [hx:FlC x] [hy:FlC y]:Dat (.agg [x,y]):=⟨by
 refine⟨?_,?_⟩
 ·show AV.agg [shut1 x,shut1 y]=_
  rw[hx.p.sh1,hy.p.sh1]
 ·show(data0 x&&(data0 y&&true))=true
  rw[hx.p.d0,hy.p.d0];rfl⟩
theorem idxF{l post:List AV}{x:AV}{i:Nat}{k:SK}{q:IntKind}(h:l.drop i=x::post)(hx:Fl x):idxA 1 (.sl k l) (.int q (i:Int))=some (.ref [x]):=by
 have e:=idx_at (es:=1) (k:=k) (q:=q) (drop_at h) hx.cell
 rwa [hx.cells]at e
theorem fll_mem{l post:List AV}{x:AV}{i:Nat}(h:FlL l)(hd:l.drop i=x::post):Fl x:=h x (drop_mem hd)
section
variable{H:Heap}{g:FuncId}{k:Nat}{p:AV→Bool}
theorem idxFl_loop(hd:∀y,Fl y→Does cfg (.call (.c (.func g [.ptr k 0])) [.c y]) H (.bool (p y)) H)(l:List AV)(hl:FlL l)(hn:l.length<9223372036854775807):∀(post:List AV)(i:Nat)(hdr:l.drop i=post)(T:Env)
 (hT:Has T [(0,.sl .sh l),(1,.func g [.ptr k 0]),(7,.int .i64 l.length),(8,.int .i64 i)]),
 Goes cfg a127 k127_0 T H (fun r=>r=(.ret (.int .i64 (fidxB p post i)),H)):=by
 intro post
 induction post with
 |nil=>
  intro i hdr T hT
  have hge:=drop_ge hdr
  exact gG 60 _ hT (.no (dF ((↑i:Int)<(↑l.length:Int)))<|.fin ((.ret (.int .i64 (-1:Int)),H)) rfl)
 |cons x post ih=>
  intro i hdr T hT
  have hlt:=drop_lt hdr
  have hnx:=drop_next hdr
  have fx:=fll_mem hl hdr
  have hdx:=hd x fx
  have hxi:idxA 1 (.sl .sh l) (.int .i64 (i:Int))=some (.ref [x]):=idxF hdr fx
  cases hp:p x with
  |true=>
   rw[hp]at hdx
   have e:fidxB p (x::post) i=i:=by simp[fidxB,hp]
   rw[e]
   exact gG 60 _ hT (.yes (dT ((↑i:Int)<(↑l.length:Int)))<|.idx hxi<|.load (rfl:loadA false 1 H (.ref [x])=some (x))<|.effY hdx<|.tt<|.fin ((.ret (.int .i64 ↑i),H)) rfl)
  |false=>
   rw[hp]at hdx
   have e:fidxB p (x::post) i=fidxB p post (i+1):=by simp[fidxB,hp]
   rw[e]
   exact gG 60 _ hT (.yes (dT ((↑i:Int)<(↑l.length:Int)))<|.idx hxi<|.load (rfl:loadA false 1 H (.ref [x])=some (x))<|.effY hdx<|.ff<|.bin (iI i)<|.cutQ k127_0 [(0,.sl .sh l),(1,.func g [.ptr k 0]),(7,.int .i64 (↑l.length)),(8,.int .i64 (↑(i+1)))] (H) (fun T hT=>(ih (i+1) hnx T hT)))
theorem idxFl(hd:∀y,Fl y→Does cfg (.call (.c (.func g [.ptr k 0])) [.c y]) H (.bool (p y)) H)(l:List AV)(hl:FlL l)(hn:l.length<9223372036854775807):
 lim cfg (.fn 127) [.sl .sh l,.func g [.ptr k 0]] H=some (.ret (.int .i64 (fidxB p l 0)),H):=by
 rw[l127]
 have h:=idxFl_loop hd l hl hn l 0 rfl
 have key:Goes cfg a127 [.c c127] (initEnv [.sl .sh l,.func g [.ptr k 0]]) H (fun r=>r=(.ret (.int .i64 (fidxB p l 0)),H)):=by
  exact gG 60 [] trivial (.len (show lenA false (.sl .sh l)=some (.int .i64 (↑l.length))from len_sl _ _)<|.cutQ k127_0 [(0,.sl .sh l),(1,.func g [.ptr k 0]),(7,.int .i64 (↑l.length)),(8,.int .i64 0)] (H) (fun T hT=>(h T hT)))
 obtain⟨r,h,rfl⟩:=key
 exact h
theorem anyFl(hd:∀y,Fl y→Does cfg (.call (.c (.func g [.ptr k 0])) [.c y]) H (.bool (p y)) H)(l:List AV)(hl:FlL l)(hn:l.length<9223372036854775807):
 Does cfg (.call (.c (.func 56 [])) [.c (.sl .sh l),.c (.func g [.ptr k 0])]) H (.bool (l.any p)) H:=by
 have h0:=does_callE (xs:=[.sl .sh l,.func g [.ptr k 0]]) (caps:=[]) (idxFl hd l hl hn) rfl rfl
 rw[show shutA (.int .i64 (fidxB p l 0))=.int .i64 (fidxB p l 0)from rfl,trunc_self]at h0
 have hf:decide (0≤fidxB p l 0)=l.any p:=fidxB_ge p l 0
 have key:Goes cfg a56 [.c c56] (initEnv [.sl .sh l,.func g [.ptr k 0]]) H (fun r=>r=(.ret (.bool (l.any p)),H)):=by
  rw[←hf]
  generalize fidxB p l 0=c at h0
  exact gG 60 [] trivial (.effY h0<|.fin ((.ret (.bool (decide ((0:Int)≤c))),H)) rfl)
 obtain⟨r,h,rfl⟩:=key
 have h2:lim cfg (.fn 56) ([.sl .sh l,.func g [.ptr k 0]]++[]) H=some (.ret (.bool (l.any p)),H):=by
  rw[l56];exact h
 have h3:=does_callE (xs:=[.sl .sh l,.func g [.ptr k 0]]) (caps:=[]) h2 rfl rfl
 rwa [show shutA (.bool (l.any p))=.bool (l.any p)from rfl,trunc_self]at h3
end
theorem Fl.C{x:AV}(h:Fl x):FlC x:=⟨h⟩
end Go.Aa.T
set_option linter.unusedVariables false
set_option linter.unusedSimpArgs false
set_option maxRecDepth 100000
namespace Go.Aa.T
open Go.Aa Go.Proofs
end Go.Aa.T
set_option linter.unusedVariables false
set_option linter.unusedSimpArgs false
set_option maxRecDepth 100000
namespace Go.Aa.T
open Go.Aa Go.Proofs
structure POk(v:List Amount):Prop where
 name:∀x∈v,isName x.name=true
 pos:∀x∈v,0<x.n
 rise:Rise (nms v)
theorem VOk.p{v:List Amount}(h:VOk v):POk v:=⟨h.name,h.pos,h.rise⟩
theorem POk.v{v:List Amount}(h:POk v)(hl:v.length≤8):VOk v:=⟨hl,h.name,h.pos,h.rise⟩
theorem rise_len{l m:List (List UInt8)}(hl:Rise l)(hm:Rise m)(h:∀x∈l,x∈m):l.length≤m.length:=by
 have e:l=m.filter fun x=>decide (x∈l):=rise_ext hl (hm.filter _) fun x=>by
  simp only[List.mem_filter,decide_eq_true_eq]
  exact⟨fun hx=>⟨h x hx,hx⟩,fun hx=>hx.2⟩
 rw[e];exact List.length_filter_le _ _
theorem names_sub{l m:List (List UInt8)}(h:∀x∈l,x∈m):(namesOf l).length≤(namesOf m).length:=
 rise_len (namesOf_rise l) (namesOf_rise m) fun x hx=>namesOf_mem.2 (h x (namesOf_mem.1 hx))
theorem pok_pos{v:List Amount}(h:POk v){s:List UInt8}:s∈nms v↔0<getQ v s:=by
 constructor
 ·intro hs
  obtain⟨x,hx,-,e⟩:=getQ_some hs
  rw[e];exact h.pos x hx
 ·intro hs
  by_cases hm:s∈nms v
  ·exact hm
  ·rw[getQ_none hm]at hs;omega
theorem pok_nn{v:List Amount}(h:POk v)(s:List UInt8):0≤getQ v s:=by
 by_cases hm:s∈nms v
 ·have:=(pok_pos h).1 hm;omega
 ·rw[getQ_none hm];omega
def mk1(g:OfQ)(l:List (List UInt8)):List Amount:=(l.filter fun s=>decide (0<(g s).1)).map fun s=>⟨s,(g s).1⟩
theorem madeF_ok{g:OfQ}:∀{l:List (List UInt8)}(acc:List Amount),(∀s∈l,(g s).2=0)→madeF g l acc=(acc++mk1 g l,0)
 |[],acc,_=>by simp[madeF,mk1]
 |s::l,acc,h=>by
  unfold madeF
  rw[if_pos (h s (by simp)),madeF_ok _ fun t ht=>h t (by simp[ht])]
  by_cases hp:0<(g s).1<;>simp[mk1,hp]
theorem madeF_zero{g:OfQ}:∀{l:List (List UInt8)}{acc:List Amount},(madeF g l acc).2=0→∀s∈l,(g s).2=0
 |[],acc,_,s,hs=>by cases hs
 |t::l,acc,h,s,hs=>by
  unfold madeF at h
  split at h
  ·rename_i h0
   rcases List.mem_cons.1 hs with rfl|hs
   ·exact h0
   ·exact madeF_zero h s hs
  ·rename_i h0;exact absurd h h0
theorem nms_mk1(g:OfQ)(l:List (List UInt8)):nms (mk1 g l)=l.filter fun s=>decide (0<(g s).1):=by
 simp only[nms,mk1,List.map_map]
 conv=>rhs;rw[←List.map_id (l.filter _)]
 rfl
theorem made_two{g:OfQ}{a b:List Amount}(oa:VOk a)(ob:VOk b):madeV g [a,b]=finV (madeF g (namesOf (nms a++nms b)) []):=by
 have e:allNames [a,b]=nms a++nms b:=by simp[allNames]
 unfold madeV
 rw[if_pos (by simp[firstE,ckV_of oa,ckV_of ob]),e]
theorem addQ_nn{a b:Int}(ha:0≤a)(hb:0≤b):addQ a b=toldQ (a+b):=by
 unfold addQ bothE;rw[if_neg (show¬a<0 by omega),if_neg (show¬b<0 by omega),if_neg (by simp)]
theorem told_ok{n:Int}(h:n≤9223372036854775807):toldQ n=(n,0):=by unfold toldQ;rw[if_neg (by omega)]
theorem told_zero{n:Int}(h:(toldQ n).2=0):n≤9223372036854775807:=by
 unfold toldQ at h;split at h
 ·cases h
 ·omega
theorem add_nms{a b:List Amount}(oa:VOk a)(ob:VOk b)(hs:∀s,getQ a s+getQ b s≤9223372036854775807):
 (namesOf (nms a++nms b)).filter (fun s=>decide (0<(addQ (getQ a s) (getQ b s)).1))=namesOf (nms a++nms b):=by
 refine List.filter_eq_self.2 fun s hx=> ?_
 have pa:=pok_nn oa.p s
 have pb:=pok_nn ob.p s
 rw[addQ_nn pa pb,told_ok (hs s)]
 have:0<getQ a s+getQ b s:=by
  rcases List.mem_append.1 (namesOf_mem.1 hx)with h|h
  ·have:=(pok_pos oa.p).1 h;omega
  ·have:=(pok_pos ob.p).1 h;omega
 simpa using this
theorem add_zero{a b:List Amount}(oa:VOk a)(ob:VOk b)(h:(addV a b).2=0):(∀s,getQ a s+getQ b s≤9223372036854775807)∧(namesOf (nms a++nms b)).length≤8:=by
 have pa:=pok_nn oa.p
 have pb:=pok_nn ob.p
 unfold addV at h
 rw[made_two oa ob]at h
 have h0:(madeF (fun s=>addQ (getQ a s) (getQ b s)) (namesOf (nms a++nms b)) []).2=0:=by
  unfold finV at h;split at h
  ·rename_i h0;exact h0
  ·exact h
 have h1:=madeF_zero h0
 have hs:∀s,getQ a s+getQ b s≤9223372036854775807:=fun s=>by
  by_cases hm:s∈nms a++nms b
  ·have:=h1 s (namesOf_mem.2 hm)
   simp only[addQ_nn (pa s) (pb s)]at this
   exact told_zero this
  ·rw[getQ_none fun h=>hm (List.mem_append.2 (.inl h)),getQ_none fun h=>hm (List.mem_append.2 (.inr h))];omega
 refine⟨hs,?_⟩
 rw[madeF_ok _ h1,List.nil_append]at h
 have e2:=nms_mk1 (fun s=>addQ (getQ a s) (getQ b s)) (namesOf (nms a++nms b))
 rw[add_nms oa ob hs]at e2
 rw[←e2,List.length_map]
 unfold finV at h
 rw[if_pos rfl]at h
 split at h
 ·cases h
 ·rename_i h3;exact Nat.le_of_not_lt h3
def totQ:List (List Amount)→List UInt8→Int
 |[],_=>0
 |v::vs,s=>getQ v s+totQ vs s
theorem totQ_nn{vs:List (List Amount)}(h:∀v∈vs,VOk v)(s:List UInt8):0≤totQ vs s:=by
 induction vs with
 |nil=>simp[totQ]
 |cons v vs ih=>
  have:=pok_nn (h v (by simp)).p s
  have:=ih fun w hw=>h w (by simp[hw])
  simp only[totQ];omega
structure SumOk(acc:List Amount)(vs:List (List Amount)):Prop where
 le:∀s,getQ acc s+totQ vs s≤9223372036854775807
 few:(namesOf (nms acc++allNames vs)).length≤8
theorem SumOk.head{acc v:List Amount}{vs:List (List Amount)}(h:SumOk acc (v::vs))(hv:∀v∈vs,VOk v):(∀s,getQ acc s+getQ v s≤9223372036854775807)∧(namesOf (nms acc++nms v)).length≤8:=by
 refine⟨fun s=> ?_,?_⟩
 ·have:=h.le s
  have:=totQ_nn hv s
  simp only[totQ]at*;omega
 ·refine Nat.le_trans (names_sub fun x hx=> ?_) h.few
  rw[allNames_cons]
  simp only[List.mem_append]at hx⊢
  rcases hx with h|h
  ·exact .inl h
  ·exact .inr (.inl h)
end Go.Aa.T
set_option linter.unusedVariables false
set_option linter.unusedSimpArgs false
set_option maxRecDepth 100000
namespace Go.Aa.T
open Go.Aa Go.Proofs
theorem in2_d0{x:AV}{nb nt:Nat}(h:data0 x=true):in2 nb nt x=true:=in2_data0 h
def Tame(B:List (List AV)):Prop:=∀nb,B.length≤nb→B.all (·.all (in2 nb 0))=true
theorem tame_set{B:List (List AV)}{k:Nat}{cs:List AV}(h:Tame B)(hc:cs.all data0=true):Tame (B.set k cs):=fun nb hn=>by
 refine List.all_eq_true.2 fun b hb=> ?_
 rcases List.mem_or_eq_of_mem_set hb with hb|rfl
 ·exact List.all_eq_true.1 (h nb (by simpa using hn)) b hb
 ·exact List.all_eq_true.2 fun x hx=>in2_d0 (List.all_eq_true.1 hc x hx)
abbrev pcs(l:List Pod):List AV:=rowCells (l.map encPd)
theorem pcs_data(l:List Pod):(pcs l).all data0=true:=by
 refine List.all_eq_true.2 fun x hx=> ?_
 simp only[pcs,rowCells,List.mem_flatMap,List.mem_map]at hx
 obtain⟨a,⟨p,-,rfl⟩,hx⟩:=hx
 simp only[encPd,AV.cells,List.mem_cons,List.not_mem_nil,or_false]at hx
 rcases hx with rfl|rfl|rfl|rfl|rfl|rfl|rfl|rfl|rfl|rfl|rfl<;>rfl
end Go.Aa.T
set_option linter.unusedVariables false
set_option linter.unusedSimpArgs false
set_option maxRecDepth 100000
namespace Go.Aa.T
open Go.Aa Go.Proofs
def offP(nm:List UInt8)(l:List Pod):List Pod:=l.filter fun p=> !(p.name==nm)
section
variable(B0:List (List AV))(kk jj n:Nat)(nm:List UInt8)
structure DH(C:List Pod)(B:List (List AV)):Prop where
 row:B[kk]?=some (pcs C)
 nme:B[jj]?=some [.str nm]
 tame:Tame B
 from0:∃ex,B=B0.set kk (pcs C)++ex
variable{B0 kk jj n nm}
theorem DH.put{C:List Pod}{B:List (List AV)}(h:DH B0 kk jj nm C B)(hkj:kk≠jj)(hk:kk<B0.length)(C':List Pod):DH B0 kk jj nm C' (B.set kk (pcs C')):=by
 obtain⟨ex,e⟩:=h.from0
 have h1:=(List.getElem?_eq_some_iff.1 h.row).1
 refine⟨List.getElem?_set_self h1,by rw[List.getElem?_set_ne hkj];exact h.nme,tame_set h.tame (pcs_data C'),ex,?_⟩
 rw[e,List.set_append_left _ _ (by simpa using hk),List.set_set]
end
end Go.Aa.T
set_option linter.unusedVariables false
set_option linter.unusedSimpArgs false
set_option maxRecDepth 100000
namespace Go.Aa.T
open Go.Aa Go.Proofs
end Go.Aa.T
set_option linter.unusedVariables false
set_option linter.unusedSimpArgs false
set_option maxRecDepth 100000
namespace Go.Aa.T
open Go.Aa Go.Proofs
theorem does_callN{xs:List AV}{g:FuncId}{v0 v:AV}{H H0 H2:Heap}(h0:lim cfg (.fn g) xs Heap.nil=some (.ret v0,H0))(hn:isData (shutA v0)=false)(h:lim cfg (.fn g) xs H=some (.ret v,H2))(hx:xs.map shutA=xs)(hd:xs.all isData=true):
 Does cfg (.callM (.c (.func g [])) (xs.map .c)) H (shutA v) (trunc H.boxes.length H.toks.length (shutA v) H2):=fun T=>by
 have e:(xs.map Opd.c).map (fun x=>shutA (ev T x))=xs:=by rw[List.map_map];exact hx
 simp only[opStep,e]
 rw[show ev T (.c (.func g []))=.func g []from rfl]
 simp only[callW,hd,List.all_nil,Bool.and_self,if_true,List.append_nil,h0,hn,Bool.false_eq_true,if_false,callE,h]
inductive PR(kk:Nat)(n:Nat)(l:List Pod):AV→List (List AV)→Prop
 |some(Z:List AV)(hZ:Z.all data0=true)(hn:0<n)(hl:(pcs l++Z).length=n*11):PR kk n l (.msl kk 0 l.length 11) [pcs l++Z]
 |none(h0:n=0)(hl:l=[]):PR kk n l (.sl .nil []) []
theorem encSt_d(s:St):(encSt s).cells.all data0=true:=rfl
def dropS(s:St)(nm:List UInt8):St:={s with pods:=offP nm s.pods}
end Go.Aa.T
set_option linter.unusedVariables false
set_option linter.unusedSimpArgs false
set_option maxRecDepth 100000
namespace Go.Aa.T
open Go.Aa Go.Proofs
def before(nm:List UInt8)(p:Pod):Bool:=Op.bytesLess p.name nm
end Go.Aa.T
set_option linter.unusedVariables false
set_option linter.unusedSimpArgs false
set_option maxRecDepth 100000
namespace Go.Aa.T
open Go.Aa Go.Proofs
def srtP(l:List Pod):Prop:=l.Pairwise fun a b=>Op.bytesLess a.name b.name=true
end Go.Aa.T
set_option linter.unusedVariables false
set_option linter.unusedSimpArgs false
set_option maxRecDepth 100000
namespace Go.Aa.T
open Go.Aa Go.Proofs
theorem less_lt{x y:List UInt8}:Op.bytesLess x y=true↔x<y:=by rw[bl_eq,decide_eq_true_eq]
theorem ord_of_not{x y:List UInt8}(h:¬(Op.bytesLess x y||x==y)=true):Op.bytesLess y x=true:=bl_not (by simpa only[Bool.not_eq_true]using h)
theorem ckAl_ordX{X:Type}{ck:X→Int}{nm:X→List UInt8}{s:List X}:∀{post:List X}{i:Nat},ckAl ck nm s i post=0→s.drop i=post→∀(j:Nat)(x p:X),i≤j+1→s[j+1]?=some x→s[j]?=some p→Op.bytesLess (nm p) (nm x)=true
 |[],i,_,hd,j,x,p,hi,hx,hp=>by
  have:=drop_ge hd
  have h2:j+1<s.length:=(List.getElem?_eq_some_iff.1 hx).1
  omega
 |y::post,i,h,hd,j,x,p,hi,hx,hp=>by
  unfold ckAl at h
  split at h
  ·split at h
   ·cases h
   ·rename_i ho
    rcases Nat.lt_or_ge i (j+1)with hlt|hge
    ·exact ckAl_ordX h (drop_next hd) j x p (by omega) hx hp
    ·have e:i=j+1:=by omega
     subst e
     have ey:y=x:=by
      have:=drop_at hd
      rw[hx]at this
      exact(Option.some.inj this).symm
     subst ey
     simp only[ordG,hp,Bool.not_eq_true]at ho
     exact ord_of_not (by rw[ho];decide)
  ·rename_i hx0;exact absurd h hx0
theorem names_ltX{X:Type}{most:Nat}{ck:X→Int}{nm:X→List UInt8}{s:List X}(h:ckAll most ck nm s=0):∀(d i:Nat)(x y:X),s[i]?=some x→s[i+d+1]?=some y→Op.bytesLess (nm x) (nm y)=true:=by
 have h0:ckAl ck nm s 0 s=0:=by
  unfold ckAll at h
  split at h
  ·exact h
  ·cases h
 intro d
 induction d with
 |zero=>intro i x y hx hy;exact ckAl_ordX h0 rfl i y x (by omega) hy hx
 |succ d ih=>
  intro i x y hx hy
  obtain⟨z,hz⟩:∃z,s[i+d+1]?=some z:=⟨s[i+d+1]'(by have:=(List.getElem?_eq_some_iff.1 hy).1;omega),List.getElem?_eq_getElem _⟩
  have a:=less_lt.1 (ih i x z hx hz)
  have b:=less_lt.1 (ckAl_ordX h0 rfl (i+d+1) y z (by omega) hy hz)
  exact less_lt.2 (List.lt_trans a b)
theorem ck_srt{s:St}(h:ckSt s=0):srtP s.pods:=by
 have h1:ckAll 128 ckPd Pod.name s.pods=0:=firstE_zero h _ (by simp)
 refine List.pairwise_iff_getElem.2 fun i j hi hj hij=> ?_
 exact names_ltX h1 (j-i-1) i _ _ (List.getElem?_eq_getElem hi) (by rw[show i+(j-i-1)+1=j by omega];exact List.getElem?_eq_getElem hj)
end Go.Aa.T
set_option linter.unusedVariables false
set_option linter.unusedSimpArgs false
set_option maxRecDepth 100000
namespace Go.Aa.T
open Go.Aa Go.Proofs
end Go.Aa.T
set_option linter.unusedVariables false
set_option linter.unusedSimpArgs false
set_option maxRecDepth 100000
namespace Go.Aa.T
open Go.Aa Go.Proofs
end Go.Aa.T
set_option linter.unusedVariables false
set_option linter.unusedSimpArgs false
set_option maxRecDepth 100000
namespace Go.Aa.T
open Go.Aa Go.Proofs
end Go.Aa.T
set_option linter.unusedVariables false
set_option linter.unusedSimpArgs false
set_option maxRecDepth 100000
namespace Go.Aa.T
open Go.Aa Go.Proofs
structure GdS(s:St):Prop where
 cap:∀n∈s.nodes,VOk n.cap
 need:∀p∈s.pods,VOk p.need
 name:∀n∈s.nodes,n.name≠[]
 find:∀n∈s.nodes,findG Node.name s.nodes n.name=some n
 pods:srtP s.pods
 room:∀n∈s.nodes,(usedS s n.name).2=0∧fitsV (usedS s n.name).1 n.cap=true
 total:(totalS s).2=0
def ndS(s:St)(nd:List UInt8):List (List Amount):=(onS s nd).map (·.need)
theorem GdS.nd{s:St}(g:GdS s)(nd:List UInt8):∀v∈ndS s nd,VOk v:=fun v hv=>by
 obtain⟨p,hp,rfl⟩:=List.mem_map.1 hv
 exact g.need p (List.mem_filter.1 hp).1
end Go.Aa.T
set_option linter.unusedVariables false
set_option linter.unusedSimpArgs false
set_option maxRecDepth 100000
namespace Go.Aa.T
open Go.Aa Go.Proofs
def usF(s:St)(nm what:List UInt8):AV:=match findG Node.name s.nodes nm with
 |none=>.nan
 |some n=>ofA (getQ (usedS s nm).1 what) (getQ n.cap what)
theorem usF_fl(s:St)(nm what:List UInt8):Fl (usF s nm what):=by
 unfold usF
 split
 ·exact .nan
 ·exact ofA_fl _ _
theorem find_in{s:St}{nm:List UInt8}{n:Node}(h:findG Node.name s.nodes nm=some n):n∈s.nodes:=List.mem_of_find?_eq_some h
theorem us_any(s:St)(hs:StIn s)(nm what:List UInt8):Gives cfg 126 [encSt s,.str nm,.str what] (usF s nm what):=by
 refine Gives.run (l126 _ _) ?_
 have h1:=findN_any s.nodes nm hs.nodes
 cases hf:findG Node.name s.nodes nm with
 |none=>
  rw[hf]at h1
  have e:usF s nm what=.nan:=by unfold usF;rw[hf]
  rw[e]
  have h2:=nan_any
  exact let ζ1:List AV:=[.str [],.sl .sh [],.sl .sh [],.sl .sh [],.bool false];let ζ2:List AV:=[.sl .sh (s.nodes.map encN),.str nm];gG 60 [] trivial (.callK (ζ2) (.tuple [.agg ζ1,.bool false]) h1<|.tt<|.callK ([]) (AV.nan) h2<|.fin ((.ret AV.nan,{boxes:=[[.sl .sh (s.nodes.map encN),.sl .sh (s.pods.map encPd),.sl .sh (s.buds.map encB)],ζ1],toks:=[],loops:=[]:Heap})) rfl)
 |some n=>
  rw[hf]at h1
  have e:usF s nm what=ofA (getQ (usedS s nm).1 what) (getQ n.cap what):=by unfold usF;rw[hf]
  rw[e]
  obtain⟨c,h2⟩:=used_any s nm hs
  have hin:=usedS_in s nm
  have hx:=hs.cap n (find_in hf)
  have h3:=getQ_any (usedS s nm).1 what (by omega)
  have h4:=getQ_any n.cap what hx.len
  have h5:=of_any (getQ (usedS s nm).1 what) (getQ n.cap what)
  haveI:=(ofA_fl (getQ (usedS s nm).1 what) (getQ n.cap what)).C
  generalize ofA (getQ (usedS s nm).1 what) (getQ n.cap what)=u at*
  generalize getQ (usedS s nm).1 what=a at*
  generalize usedS s nm=z at*
  obtain⟨w,er⟩:=z
  exact let ζ1:List AV:=[.str n.name,.sl .sh (n.cap.map encA),.sl .sh (n.labels.map encP),.sl .sh (n.taints.map encT),.bool n.cordon];let ζ2:List AV:=[.sl .sh (s.nodes.map encN),.sl .sh (s.pods.map encPd),.sl .sh (s.buds.map encB)];let ζ3:List AV:=[.sl .sh (List.map encA (w,er).fst),.str what];let ζ4:List AV:=[.sl .sh (s.nodes.map encN),.str nm];let ζ5:List AV:=[.sl .sh (n.cap.map encA),.str what];let ζ6:List AV:=[.int .i64 a,.int .i64 (getQ n.cap what)];gG 90 [] trivial (.callK (ζ4) (.tuple [.agg ζ1,.bool true]) h1<|.ff<|.callG ([.agg ζ2,.str nm]) (.tuple [.sl .sh (List.map encA (w,er).fst),.int .i64 (w,er).snd]) h2 ⟨rfl,rfl⟩ Res.p<|.callK (ζ3) (.int .i64 a) h3<|.callK (ζ5) (.int .i64 (getQ n.cap what)) h4<|.callG (ζ6) (u) h5 ⟨rfl,rfl⟩ Res.p<|.fin ((.ret u,{boxes:=[ζ2,ζ1],toks:=[],loops:=[]:Heap})) rfl)
def usM(s:St)(nm:List UInt8)(l:List Amount):List AV:=l.map fun x=>usF s nm x.name
def usL(s:St)(nm:List UInt8):List AV:=match findG Node.name s.nodes nm with
 |none=>[]
 |some n=>usM s nm n.cap
theorem usM_fl(s:St)(nm:List UInt8)(l:List Amount):FlL (usM s nm l):=fun x hx=>by
 obtain⟨y,-,rfl⟩:=List.mem_map.1 hx
 exact usF_fl _ _ _
theorem usL_fl(s:St)(nm:List UInt8):FlL (usL s nm):=by
 unfold usL
 split
 ·intro x hx;cases hx
 ·exact usM_fl _ _ _
theorem usL_len{s:St}(hs:StIn s)(nm:List UInt8):(usL s nm).length<9223372036854775807:=by
 unfold usL
 split
 ·simp
 ·rename_i n h
  simp only[usM,List.length_map]
  exact(hs.cap n (find_in h)).len
theorem bslF{x:AV}(h:Fl x)(H:Heap):Does cfg (.bslice 1 [.c x]) H (.sl .full [x]) H:=fun T=>by
 cases h<;>rfl
theorem ap_F{acc:List AV}{x:AV}(hl:FlL acc)(hx:Fl x)(hn:acc.length≤100000)(bs:List (List AV))(ls:List LRec):
 appendA 1 8 ⟨bs,tkR id acc,ls⟩ (rowF id acc) (.sl .full [x])=some (rowF id (acc++[x]),⟨bs,tkR id (acc++[x]),ls⟩):=
 row_append_T id (x:=x) (by simp only[List.map_id];omega) (by rw[List.map_id];exact List.all_eq_true.2 fun y hy=>(hl y hy).cell) hx.cell hx.data0
theorem fll_snoc{acc:List AV}{x:AV}(hl:FlL acc)(hx:Fl x):FlL (acc++[x]):=fun y hy=>by
 rcases List.mem_append.1 hy with h|h
 ·exact hl y h
 ·rw[List.mem_singleton.1 h];exact hx
theorem usL_loop(s:St)(hs:StIn s)(nm:List UInt8)(n:Node)(hn:n.cap.length≤1000):∀(post:List Amount)(i:Nat)(hd:n.cap.drop i=post)(acc:List AV)(ha:acc.length≤i)(hl:FlL acc)(ex:List (List AV))(T:Env)
 (hT:Has T [(1,.str nm),(2,.ptr 0 0),(7,rowF id acc),(18,.sl .sh (n.cap.map encA)),(19,.int .i64 n.cap.length),(20,.int .i64 i)]),
 Goes cfg a55 k55_0 T ⟨(encSt s).cells::(encN n).cells::ex,tkR id acc,[]⟩ (IsRet (rowF id (acc++usM s nm post))):=by
 intro post
 induction post with
 |nil=>
  intro i hd acc ha hl ex T hT
  have hge:=drop_ge hd
  rw[show acc++usM s nm []=acc by simp[usM]]
  exact gG 60 _ hT (.no (dF ((↑i:Int)<(↑n.cap.length:Int)))<|.fin ((.ret (.sl (skF acc) (acc.map id)),{boxes:=[.sl .sh (s.nodes.map encN),.sl .sh (s.pods.map encPd),.sl .sh (s.buds.map encB)]::[.str n.name,.sl .sh (n.cap.map encA),.sl .sh (n.labels.map encP),.sl .sh (n.taints.map encT),.bool n.cordon]::ex,toks:=tkR id acc,loops:=[]:Heap})) rfl)
 |cons x post ih=>
  intro i hd acc ha hl ex T hT
  have hlt:=drop_lt hd
  have hnx:=drop_next hd
  have hf:=us_any s hs nm x.name
  have fl:=usF_fl s nm x.name
  have e:acc++usM s nm (x::post)=(acc++[usF s nm x.name])++usM s nm post:=by simp[usM]
  rw[e]
  generalize usF s nm x.name=u at hf fl⊢
  haveI:=fl.C
  have ih':=ih (i+1) hnx (acc++[u]) (by simp;omega) (fll_snoc hl fl) (ex++[(encA x).cells])
  have bs:=bslF fl
  have ap:=ap_F hl fl (by omega)
  exact let ζ2:List AV:=[.sl .sh (s.nodes.map encN),.sl .sh (s.pods.map encPd),.sl .sh (s.buds.map encB)];let ζ3:List AV:=[.str n.name,.sl .sh (n.cap.map encA),.sl .sh (n.labels.map encP),.sl .sh (n.taints.map encT),.bool n.cordon];let ζ1:Heap:={boxes:=ζ2::ζ3::(ex++[[AV.str x.name,.int .i64 x.n]]),toks:=tkR id acc,loops:=[]:Heap};let ζ4:Heap:={boxes:=ζ2::ζ3::(ex++[[AV.str x.name,.int .i64 x.n]]),toks:=tkR id (acc++[u]),loops:=[]:Heap};gG 120 _ hT (.yes (dT ((↑i:Int)<(↑n.cap.length:Int)))<|.idx (iR 2 encA hd)<|.load (rfl:loadA true 2 {boxes:=ζ2::ζ3::ex,toks:=tkR id acc,loops:=[]:Heap} (.ref [.str x.name,.int .i64 x.n])=some (.agg [.str x.name,.int .i64 x.n]))<|.store (show storeA 2 {boxes:=ζ2::ζ3::(ex++[[AV.str [],.int .i64 0]]),toks:=tkR id acc,loops:=[]:Heap} (.ptr (ζ2::ζ3::ex).length 0) (.agg [.str x.name,.int .i64 x.n])=some (ζ1)from store_box2 (cs:=[.str [],.int .i64 0]) (cs':=[.str x.name,.int .i64 x.n]) (by simp+zetaDelta) rfl (by simp+zetaDelta [List.set_append]))<|.load (lB true 3 ζ1 0 0 (.agg ζ2) ζ2)<|.load (show loadA false 1 ζ1 (.ptr (ζ2::ζ3::ex).length 0)=some (.str x.name)from load_box (cs:=[.str x.name,.int .i64 x.n]) (by simp+zetaDelta) rfl)<|.callG ([.agg ζ2,.str nm,.str x.name]) (u) hf ⟨rfl,rfl⟩ Res.p<|.effY (show Does cfg (.bslice 1 [.c u]) ζ1 (.sl .full [u]) ζ1 from bs _)<|.append (show appendA 1 8 ζ1 (.sl (skF acc) (acc.map id)) (.sl .full [u])=some ((rowF id (acc++[u]),ζ4))from ap _ _)<|.bin (iI i)<|.cutQ k55_0 [(1,.str nm),(2,.ptr 0 0),(7,.sl (skF (acc++[u])) (List.map id (acc++[u]))),(18,.sl .sh (n.cap.map encA)),(19,.int .i64 (↑n.cap.length)),(20,.int .i64 (↑(i+1)))] (ζ4) (fun T hT=>(ih' T hT)))
theorem usL_any(s:St)(hs:StIn s)(hc:∀n∈s.nodes,n.cap.length≤1000)(nm:List UInt8):Gives cfg 55 [encSt s,.str nm] (rowF id (usL s nm)):=by
 refine Gives.run (l55 _ _) ?_
 have h1:=findN_any s.nodes nm hs.nodes
 have e0:rowF id ([]:List AV)=.sl .full []:=rfl
 cases hf:findG Node.name s.nodes nm with
 |none=>
  rw[hf]at h1
  have e:usL s nm=[]:=by unfold usL;rw[hf]
  rw[e]
  have h:=usL_loop s hs nm noN (by simp[noN]) [] 0 rfl [] (by simp) (fun x hx=>by cases hx) []
  rw[e0,tk_nil]at h
  rw[e0]
  exact let ζ1:List AV:=[.str [],.sl .sh [],.sl .sh [],.sl .sh [],.bool false];let ζ2:List AV:=[.sl .sh (s.nodes.map encN),.str nm];gG 60 [] trivial (.callK (ζ2) (.tuple [.agg ζ1,.bool false]) h1<|.len (show lenA false (.sl .sh [])=some (.int .i64 (↑[].length:Int))from len_sl _ _)<|.cutQ k55_0 [(1,.str nm),(2,.ptr 0 0),(7,.sl .full []),(18,.sl .sh []),(19,.int .i64 (↑[].length:Int)),(20,.int .i64 0)] ({boxes:=[[.sl .sh (s.nodes.map encN),.sl .sh (s.pods.map encPd),.sl .sh (s.buds.map encB)],ζ1],toks:=[],loops:=[]:Heap}) (fun T hT=>(h T hT)))
 |some n=>
  rw[hf]at h1
  have e:usL s nm=usM s nm n.cap:=by unfold usL;rw[hf]
  rw[e]
  have h:=usL_loop s hs nm n (hc n (find_in hf)) n.cap 0 rfl [] (by simp) (fun x hx=>by cases hx) []
  rw[e0,tk_nil,List.nil_append]at h
  exact let ζ1:List AV:=[.str n.name,.sl .sh (n.cap.map encA),.sl .sh (n.labels.map encP),.sl .sh (n.taints.map encT),.bool n.cordon];let ζ2:List AV:=[.sl .sh (s.nodes.map encN),.str nm];gG 60 [] trivial (.callK (ζ2) (.tuple [.agg ζ1,.bool true]) h1<|.len (lM .sh encA n.cap)<|.cutQ k55_0 [(1,.str nm),(2,.ptr 0 0),(7,.sl .full []),(18,.sl .sh (n.cap.map encA)),(19,.int .i64 (↑n.cap.length)),(20,.int .i64 0)] ({boxes:=[[.sl .sh (s.nodes.map encN),.sl .sh (s.pods.map encPd),.sl .sh (s.buds.map encB)],ζ1],toks:=[],loops:=[]:Heap}) (fun T hT=>(h T hT)))
end Go.Aa.T
