/-
  WHAT THE LAW LEANS ON, part 10 of 10: a machine of values and its soundness; the functions of the law upon it; what they come to.
-/
import Derived.Test.YtjoblbpgpmknmaaGreatDoorXroomi
import Derived.Shelf.Sort.Plain
import Derived.Shelf.Slices.In.SortNone
import Derived.Shelf.Slices.In.SortAlone
import Derived.Shelf.Small.Strs
import Derived.Shelf.Spec.SlicesInsertGrow
import Derived.JoinedOf
set_option linter.unusedVariables false
set_option linter.unusedSimpArgs false
set_option maxRecDepth 100000
namespace Go.Aa.T
open Go.Aa Go.Proofs
def fewSt(s:St):Bool:=decide (s.nodes.length≤34)&&(decide (s.pods.length≤130)&&(fewBs s.buds&&(s.nodes.all fewN&&s.pods.all fewPd)))
structure FewS(s:St):Prop where
 nodes:s.nodes.length≤34
 pods:s.pods.length≤130
 buds:fewBs s.buds=true
 node:∀n∈s.nodes,fewN n=true
 pod:∀p∈s.pods,fewPd p=true
theorem fewS{s:St}(h:fewSt s=true):FewS s:=by
 simp only[fewSt,Bool.and_eq_true,decide_eq_true_eq,List.all_eq_true]at h
 exact⟨h.1,h.2.1,h.2.2.1,h.2.2.2.1,h.2.2.2.2⟩
theorem fewSt_pods(s:St)(hs:s.pods.length≤130):∀(post:List Pod)(i:Nat)(hd:s.pods.drop i=post)(T:Env)(hT:Has T [(1,.ptr 0 0),(4,.int .i64 i)]),
 Goes cfg a30 k30_1 T ⟨[(encSt s).cells],[],[]⟩ (IsRet (.bool (post.all fewPd))):=by
 intro post
 induction post with
 |nil=>
  intro i hd T hT
  have hge:=drop_ge hd
  exact goG 60 _ hT (.len (show lenA false (.sl .sh (s.pods.map encPd))=some (.int .i64 (↑s.pods.length))from len_map _)<|.no (decide_eq_false (p:=(↑i:Int)<(↑s.pods.length:Int)) (by omega))<|.fin ((.ret (.bool true),{boxes:=[[.sl .sh (s.nodes.map encN),.sl .sh (s.pods.map encPd),.sl .sh (s.buds.map encB)]],toks:=[],loops:=[]:Heap})) rfl) (by kernel_rfl)
 |cons x post ih=>
  intro i hd T hT
  have hlt:=drop_lt hd
  have hnx:=drop_next hd
  have hx:=fewPd_any x
  have hxi:idxA 11 (.sl .sh (s.pods.map encPd)) (.int .i64 (i:Nat))=some (.ref (encPd x).cells):=idx_row (f:=encPd) hd rfl
  rw[List.all_cons]
  cases hb:fewPd x with
  |true=>
   rw[hb]at hx
   exact goG 60 _ hT (.len (show lenA false (.sl .sh (s.pods.map encPd))=some (.int .i64 (↑s.pods.length))from len_map _)<|.yes (decide_eq_true (p:=(↑i:Int)<(↑s.pods.length:Int)) (by omega))<|.idx (show idxA 11 (.sl .sh (s.pods.map encPd)) (.int .i64 ↑i)=some (.ref (encPd x).cells)from hxi)<|.callI hx<|.ff<|.bin (show binA .add (.int .i64 ↑i) (.int .i64 1)=some (.int .i64 (↑(i+1)))from inc_i (by omega))<|.cutQ k30_1 [(1,.ptr 0 0),(4,.int .i64 (↑(i+1)))] ({boxes:=[[.sl .sh (s.nodes.map encN),.sl .sh (s.pods.map encPd),.sl .sh (s.buds.map encB)]],toks:=[],loops:=[]:Heap}) (fun T hT=>(ih (i+(1:Nat)) hnx T hT))) (by kernel_rfl)
  |false=>
   rw[hb]at hx
   exact goG 60 _ hT (.len (show lenA false (.sl .sh (s.pods.map encPd))=some (.int .i64 (↑s.pods.length))from len_map _)<|.yes (decide_eq_true (p:=(↑i:Int)<(↑s.pods.length:Int)) (by omega))<|.idx (show idxA 11 (.sl .sh (s.pods.map encPd)) (.int .i64 ↑i)=some (.ref (encPd x).cells)from hxi)<|.callI hx<|.tt<|.fin ((.ret (.bool false),{boxes:=[[.sl .sh (s.nodes.map encN),.sl .sh (s.pods.map encPd),.sl .sh (s.buds.map encB)]],toks:=[],loops:=[]:Heap})) rfl) (by kernel_rfl)
theorem fewSt_nodes(s:St)(hs:s.nodes.length≤34)(hp:s.pods.length≤130):∀(post:List Node)(i:Nat)(hd:s.nodes.drop i=post)(T:Env)(hT:Has T [(1,.ptr 0 0),(3,.int .i64 i)]),
 Goes cfg a30 k30_0 T ⟨[(encSt s).cells],[],[]⟩ (IsRet (.bool (post.all fewN&&s.pods.all fewPd))):=by
 intro post
 induction post with
 |nil=>
  intro i hd T hT
  have hge:=drop_ge hd
  have h2:=fewSt_pods s hp s.pods 0 rfl
  rw[show(([]:List Node).all fewN&&s.pods.all fewPd)=s.pods.all fewPd from rfl]
  exact goG 60 _ hT (.len (show lenA false (.sl .sh (s.nodes.map encN))=some (.int .i64 (↑s.nodes.length))from len_map _)<|.no (decide_eq_false (p:=(↑i:Int)<(↑s.nodes.length:Int)) (by omega))<|.cutQ k30_1 [(1,.ptr 0 0),(4,.int .i64 0)] ({boxes:=[[.sl .sh (s.nodes.map encN),.sl .sh (s.pods.map encPd),.sl .sh (s.buds.map encB)]],toks:=[],loops:=[]:Heap}) (fun T hT=>(h2 T hT))) (by kernel_rfl)
 |cons x post ih=>
  intro i hd T hT
  have hlt:=drop_lt hd
  have hnx:=drop_next hd
  have hx:=fewN_any x
  have hxi:idxA 5 (.sl .sh (s.nodes.map encN)) (.int .i64 (i:Nat))=some (.ref (encN x).cells):=idx_row (f:=encN) hd rfl
  rw[List.all_cons]
  cases hb:fewN x with
  |true=>
   rw[hb]at hx
   rw[Bool.true_and]
   exact goG 60 _ hT (.len (show lenA false (.sl .sh (s.nodes.map encN))=some (.int .i64 (↑s.nodes.length))from len_map _)<|.yes (decide_eq_true (p:=(↑i:Int)<(↑s.nodes.length:Int)) (by omega))<|.idx (show idxA 5 (.sl .sh (s.nodes.map encN)) (.int .i64 ↑i)=some (.ref (encN x).cells)from hxi)<|.callI hx<|.ff<|.bin (show binA .add (.int .i64 ↑i) (.int .i64 1)=some (.int .i64 (↑(i+1)))from inc_i (by omega))<|.cutQ k30_0 [(1,.ptr 0 0),(3,.int .i64 (↑(i+1)))] ({boxes:=[[.sl .sh (s.nodes.map encN),.sl .sh (s.pods.map encPd),.sl .sh (s.buds.map encB)]],toks:=[],loops:=[]:Heap}) (fun T hT=>(ih (i+(1:Nat)) hnx T hT))) (by kernel_rfl)
  |false=>
   rw[hb]at hx
   exact goG 60 _ hT (.len (show lenA false (.sl .sh (s.nodes.map encN))=some (.int .i64 (↑s.nodes.length))from len_map _)<|.yes (decide_eq_true (p:=(↑i:Int)<(↑s.nodes.length:Int)) (by omega))<|.idx (show idxA 5 (.sl .sh (s.nodes.map encN)) (.int .i64 ↑i)=some (.ref (encN x).cells)from hxi)<|.callI hx<|.tt<|.fin ((.ret (.bool false),{boxes:=[[.sl .sh (s.nodes.map encN),.sl .sh (s.pods.map encPd),.sl .sh (s.buds.map encB)]],toks:=[],loops:=[]:Heap})) rfl) (by kernel_rfl)
theorem fewSt_any(s:St):Gives cfg 30 [encSt s] (.bool (fewSt s)):=by
 refine Gives.run (l30 _ _) ?_
 have hb:=fewBs_any s.buds
 unfold fewSt
 by_cases h1:s.nodes.length≤34
 ·by_cases h2:s.pods.length≤130
  ·have h3:=fewSt_nodes s h1 h2 s.nodes 0 rfl
   rw[decide_eq_true h1,decide_eq_true h2,Bool.true_and,Bool.true_and]
   cases hq:fewBs s.buds with
   |true=>
    rw[hq]at hb
    rw[Bool.true_and]
    exact goG 90 [] trivial (.len (show lenA false (.sl .sh (s.nodes.map encN))=some (.int .i64 (↑s.nodes.length))from len_map _)<|.no (decide_eq_false (p:=(34:Int)<(↑s.nodes.length:Int)) (by omega))<|.len (show lenA false (.sl .sh (s.pods.map encPd))=some (.int .i64 (↑s.pods.length))from len_map _)<|.no (decide_eq_false (p:=(130:Int)<(↑s.pods.length:Int)) (by omega))<|.callI hb<|.ff<|.cutQ k30_0 [(1,.ptr 0 0),(3,.int .i64 0)] ({boxes:=[[.sl .sh (s.nodes.map encN),.sl .sh (s.pods.map encPd),.sl .sh (s.buds.map encB)]],toks:=[],loops:=[]:Heap}) (fun T hT=>(h3 T hT))) (by kernel_rfl)
   |false=>
    rw[hq]at hb
    exact goG 90 [] trivial (.len (show lenA false (.sl .sh (s.nodes.map encN))=some (.int .i64 (↑s.nodes.length))from len_map _)<|.no (decide_eq_false (p:=(34:Int)<(↑s.nodes.length:Int)) (by omega))<|.len (show lenA false (.sl .sh (s.pods.map encPd))=some (.int .i64 (↑s.pods.length))from len_map _)<|.no (decide_eq_false (p:=(130:Int)<(↑s.pods.length:Int)) (by omega))<|.callI hb<|.tt<|.fin ((.ret (.bool false),{boxes:=[[.sl .sh (s.nodes.map encN),.sl .sh (s.pods.map encPd),.sl .sh (s.buds.map encB)]],toks:=[],loops:=[]:Heap})) rfl) (by kernel_rfl)
  ·rw[decide_eq_false h2,Bool.false_and,Bool.and_false]
   exact goG 90 [] trivial (.len (show lenA false (.sl .sh (s.nodes.map encN))=some (.int .i64 (↑s.nodes.length))from len_map _)<|.no (decide_eq_false (p:=(34:Int)<(↑s.nodes.length:Int)) (by omega))<|.len (show lenA false (.sl .sh (s.pods.map encPd))=some (.int .i64 (↑s.pods.length))from len_map _)<|.yes (decide_eq_true (p:=(130:Int)<(↑s.pods.length:Int)) (by omega))<|.tt<|.fin ((.ret (.bool false),{boxes:=[[.sl .sh (s.nodes.map encN),.sl .sh (s.pods.map encPd),.sl .sh (s.buds.map encB)]],toks:=[],loops:=[]:Heap})) rfl) (by kernel_rfl)
 ·rw[decide_eq_false h1,Bool.false_and]
  exact goG 90 [] trivial (.len (show lenA false (.sl .sh (s.nodes.map encN))=some (.int .i64 (↑s.nodes.length))from len_map _)<|.yes (decide_eq_true (p:=(34:Int)<(↑s.nodes.length:Int)) (by omega))<|.tt<|.tt<|.fin ((.ret (.bool false),{boxes:=[[.sl .sh (s.nodes.map encN),.sl .sh (s.pods.map encPd),.sl .sh (s.buds.map encB)]],toks:=[],loops:=[]:Heap})) rfl) (by kernel_rfl)
theorem ofSt_any(s:St)(h:FewS s):Gives cfg 20 [encSt s] (encSt s):=by
 refine Gives.run (l20 _ _) ?_
 have h1:=ofNs_any s.nodes (by have:=h.nodes;omega) h.node
 have h2:=ofPds_any s.pods (by have:=h.pods;omega) h.pod
 have h3:=ofBs_any s.buds (fewBs_len h.buds) (fewBs_all h.buds)
 exact let ζ1:List AV:=[.sl .sh (s.nodes.map encN),.sl .sh (s.pods.map encPd),.sl .sh (s.buds.map encB)];goG 90 [] trivial (.callG ([.sl .sh (s.nodes.map encN)]) (.sl .sh (s.nodes.map encN)) (show Gives cfg (74:FuncId) [.sl .sh (s.nodes.map encN)] (rowS Heap.nil (s.nodes.map encN))from h1) ⟨rfl,rfl⟩ Res.p<|.callG ([.sl .sh (s.pods.map encPd)]) (.sl .sh (s.pods.map encPd)) (show Gives cfg (75:FuncId) [.sl .sh (s.pods.map encPd)] (rowS Heap.nil (s.pods.map encPd))from h2) ⟨rfl,rfl⟩ Res.p<|.callG ([.sl .sh (s.buds.map encB)]) (.sl .sh (s.buds.map encB)) (show Gives cfg (76:FuncId) [.sl .sh (s.buds.map encB)] (rowS Heap.nil (s.buds.map encB))from h3) ⟨rfl,rfl⟩ Res.p<|.fin ((.ret (.agg ζ1),{boxes:=[ζ1,ζ1],toks:=[],loops:=[]:Heap})) rfl) (by kernel_rfl)
def podsE(s:St):List Pod→Int
 |[]=>0
 |p::r=>if p.node≠[]∧findG Node.name s.nodes p.node=none then 3 else podsE s r
def roomE(s:St):List Node→Int
 |[]=>0
 |n::r=>if(usedS s n.name).2=0 then(if fitsV (usedS s n.name).1 n.cap=true then roomE s r else 7)else(usedS s n.name).2
def ckSt(s:St):Int:=firstE [ckAll 32 ckN Node.name s.nodes,ckAll 128 ckPd Pod.name s.pods,ckAll 8 ckB Bud.name s.buds,podsE s s.pods,roomE s s.nodes,(totalS s).2]
theorem firstE_cons(a:Int)(l:List Int):firstE (a::l)=if a=0 then firstE l else a:=rfl
def roomR(s:St):List Node→Int
 |[]=>0
 |n::r=>if(usedR s n.name).2=0 then(if fitsV (usedR s n.name).1 n.cap=true then roomR s r else 7)else(usedR s n.name).2
def ckStR(s:St):Int:=firstE [ckAll 32 ckN Node.name s.nodes,ckAll 128 ckPd Pod.name s.pods,ckAll 8 ckB Bud.name s.buds,podsE s s.pods,roomR s s.nodes,(totalS s).2]
theorem room_same(s:St):∀l:List Node,(∀n∈l,n.name≠[])→roomR s l=roomE s l
 |[],_=>rfl
 |n::l,h=>by
  unfold roomR roomE
  rw[used_same s (h n (by simp)),room_same s l fun m hm=>h m (by simp[hm])]
theorem ckR_room(s:St)(hs:StIn s):∀(post:List Node)(i:Nat)(hd:s.nodes.drop i=post)(ex:List (List AV))(T:Env)
 (hT:Has T [(1,.ptr 0 0),(7,.int .i64 i)]),
 Goes cfg a31 k31_1 T ⟨(encSt s).cells::ex,[],[]⟩ (IsRet (.int .i64 (firstE [roomR s post,(totalS s).2]))):=by
 intro post
 induction post with
 |nil=>
  intro i hd ex T hT
  have hge:=drop_ge hd
  have hn:=hs.nodes
  obtain⟨c,h1⟩:=total_ref s hs
  have e:firstE [roomR s [],(totalS s).2]=(totalS s).2:=by
   simp only[roomR,firstE,if_true];split<;>simp_all
  rw[e]
  generalize totalS s=z at h1⊢
  exact let ζ1:List AV:=[.sl .sh (s.nodes.map encN),.sl .sh (s.pods.map encPd),.sl .sh (s.buds.map encB)];let ζ2:Heap:={boxes:=ζ1::ex,toks:=[],loops:=[]:Heap};goG 90 _ hT (.load (show loadA false 1 ζ2 (.ptr 0 0)=some (.sl .sh (s.nodes.map encN))from load_box (cs:=ζ1) (by simp+zetaDelta) rfl)<|.len (show lenA false (.sl .sh (s.nodes.map encN))=some (.int .i64 (↑s.nodes.length))from len_map _)<|.no (decide_eq_false (p:=(↑i:Int)<(↑s.nodes.length:Int)) (by omega))<|.load (show loadA true 3 ζ2 (.ptr 0 0)=some (.agg ζ1)from load_box (cs:=ζ1) (by simp+zetaDelta) rfl)<|.callG ([.agg ζ1]) (.tuple [.sl .sh (z.fst.map encA),.int .i64 z.snd]) (show Gives cfg (40:FuncId) [encSt s] (resV c z)from h1) ⟨rfl,rfl⟩ Res.p<|.fin ((.ret (.int .i64 z.snd),ζ2)) rfl) (by kernel_rfl)
 |cons x post ih=>
  intro i hd ex T hT
  have hlt:=drop_lt hd
  have hnx:=drop_next hd
  have hn:=hs.nodes
  have hxi:idxA 5 (.sl .sh (s.nodes.map encN)) (.int .i64 (i:Nat))=some (.ref (encN x).cells):=idx_row (f:=encN) hd rfl
  obtain⟨c,h1⟩:=used_ref s x.name hs
  have hin:=usedR_in s x.name
  have hx:=hs.cap x (drop_mem hd)
  have e:roomR s (x::post)=if(usedR s x.name).2=0 then(if fitsV (usedR s x.name).1 x.cap=true then roomR s post else 7)else(usedR s x.name).2:=rfl
  rw[firstE_cons]
  have h3:=fits_ref (usedR s x.name).1 x.cap (by omega) hx.len
  by_cases h0:(usedR s x.name).2=0
  ·rw[if_pos h0]at e
   cases hb:fitsV (usedR s x.name).1 x.cap with
   |true=>
    rw[hb]at h3 e
    rw[if_pos rfl]at e
    rw[e]
    generalize usedR s x.name=z at h1 h3 h0
    obtain⟨w,er⟩:=z
    simp only at h0 h3
    subst h0
    have ih':=ih (i+1) hnx ex
    rw[firstE_cons]at ih'
    exact let ζ1:List AV:=[.sl .sh (s.nodes.map encN),.sl .sh (s.pods.map encPd),.sl .sh (s.buds.map encB)];let ζ2:Heap:={boxes:=ζ1::ex,toks:=[],loops:=[]:Heap};goG 120 _ hT (.load (show loadA false 1 ζ2 (.ptr 0 0)=some (.sl .sh (s.nodes.map encN))from load_box (cs:=ζ1) (by simp+zetaDelta) rfl)<|.len (show lenA false (.sl .sh (s.nodes.map encN))=some (.int .i64 (↑s.nodes.length))from len_map _)<|.yes (decide_eq_true (p:=(↑i:Int)<(↑s.nodes.length:Int)) (by omega))<|.load (show loadA true 3 ζ2 (.ptr 0 0)=some (.agg ζ1)from load_box (cs:=ζ1) (by simp+zetaDelta) rfl)<|.load (show loadA false 1 ζ2 (.ptr 0 0)=some (.sl .sh (s.nodes.map encN))from load_box (cs:=ζ1) (by simp+zetaDelta) rfl)<|.idx (show idxA 5 (.sl .sh (s.nodes.map encN)) (.int .i64 ↑i)=some (.ref (encN x).cells)from hxi)<|.load (rfl:loadA false 1 ζ2 (.ref [.str x.name])=some (.str x.name))<|.callG ([.agg ζ1,.str x.name]) (.tuple [.sl .sh (List.map encA (w,(0:Int)).fst),.int .i64 (w,(0:Int)).snd]) (show Gives cfg (34:FuncId) [encSt s,.str x.name] (resV c (w,(0:Int)))from h1) ⟨rfl,rfl⟩ Res.p<|.ff<|.load (show loadA false 1 ζ2 (.ptr 0 0)=some (.sl .sh (s.nodes.map encN))from load_box (cs:=ζ1) (by simp+zetaDelta) rfl)<|.idx (show idxA 5 (.sl .sh (s.nodes.map encN)) (.int .i64 ↑i)=some (.ref (encN x).cells)from hxi)<|.load (rfl:loadA false 1 ζ2 (.ref [.sl .sh (x.cap.map encA)])=some (.sl .sh (x.cap.map encA)))<|.callI h3<|.ff<|.bin (show binA .add (.int .i64 ↑i) (.int .i64 1)=some (.int .i64 (↑(i+1)))from inc_i (by omega))<|.cutQ k31_1 [(1,.ptr 0 0),(7,.int .i64 (↑(i+1)))] (ζ2) (fun T hT=>(ih' T hT))) (by kernel_rfl)
   |false=>
    rw[hb]at h3 e
    rw[if_neg (by decide)]at e
    rw[e,if_neg (by decide)]
    generalize usedR s x.name=z at h1 h3 h0
    obtain⟨w,er⟩:=z
    simp only at h0 h3
    subst h0
    exact let ζ1:List AV:=[.sl .sh (s.nodes.map encN),.sl .sh (s.pods.map encPd),.sl .sh (s.buds.map encB)];let ζ2:Heap:={boxes:=ζ1::ex,toks:=[],loops:=[]:Heap};goG 120 _ hT (.load (show loadA false 1 ζ2 (.ptr 0 0)=some (.sl .sh (s.nodes.map encN))from load_box (cs:=ζ1) (by simp+zetaDelta) rfl)<|.len (show lenA false (.sl .sh (s.nodes.map encN))=some (.int .i64 (↑s.nodes.length))from len_map _)<|.yes (decide_eq_true (p:=(↑i:Int)<(↑s.nodes.length:Int)) (by omega))<|.load (show loadA true 3 ζ2 (.ptr 0 0)=some (.agg ζ1)from load_box (cs:=ζ1) (by simp+zetaDelta) rfl)<|.load (show loadA false 1 ζ2 (.ptr 0 0)=some (.sl .sh (s.nodes.map encN))from load_box (cs:=ζ1) (by simp+zetaDelta) rfl)<|.idx (show idxA 5 (.sl .sh (s.nodes.map encN)) (.int .i64 ↑i)=some (.ref (encN x).cells)from hxi)<|.load (rfl:loadA false 1 ζ2 (.ref [.str x.name])=some (.str x.name))<|.callG ([.agg ζ1,.str x.name]) (.tuple [.sl .sh (List.map encA (w,(0:Int)).fst),.int .i64 (w,(0:Int)).snd]) (show Gives cfg (34:FuncId) [encSt s,.str x.name] (resV c (w,(0:Int)))from h1) ⟨rfl,rfl⟩ Res.p<|.ff<|.load (show loadA false 1 ζ2 (.ptr 0 0)=some (.sl .sh (s.nodes.map encN))from load_box (cs:=ζ1) (by simp+zetaDelta) rfl)<|.idx (show idxA 5 (.sl .sh (s.nodes.map encN)) (.int .i64 ↑i)=some (.ref (encN x).cells)from hxi)<|.load (rfl:loadA false 1 ζ2 (.ref [.sl .sh (x.cap.map encA)])=some (.sl .sh (x.cap.map encA)))<|.callI h3<|.tt<|.fin ((.ret (.int .i64 7),ζ2)) rfl) (by kernel_rfl)
  ·rw[if_neg h0]at e
   rw[e,if_neg h0]
   generalize usedR s x.name=z at h1 h3 h0⊢
   obtain⟨w,er⟩:=z
   simp only at h0 h3⊢
   exact let ζ1:List AV:=[.sl .sh (s.nodes.map encN),.sl .sh (s.pods.map encPd),.sl .sh (s.buds.map encB)];let ζ2:Heap:={boxes:=ζ1::ex,toks:=[],loops:=[]:Heap};goG 120 _ hT (.load (show loadA false 1 ζ2 (.ptr 0 0)=some (.sl .sh (s.nodes.map encN))from load_box (cs:=ζ1) (by simp+zetaDelta) rfl)<|.len (show lenA false (.sl .sh (s.nodes.map encN))=some (.int .i64 (↑s.nodes.length))from len_map _)<|.yes (decide_eq_true (p:=(↑i:Int)<(↑s.nodes.length:Int)) (by omega))<|.load (show loadA true 3 ζ2 (.ptr 0 0)=some (.agg ζ1)from load_box (cs:=ζ1) (by simp+zetaDelta) rfl)<|.load (show loadA false 1 ζ2 (.ptr 0 0)=some (.sl .sh (s.nodes.map encN))from load_box (cs:=ζ1) (by simp+zetaDelta) rfl)<|.idx (show idxA 5 (.sl .sh (s.nodes.map encN)) (.int .i64 ↑i)=some (.ref (encN x).cells)from hxi)<|.load (rfl:loadA false 1 ζ2 (.ref [.str x.name])=some (.str x.name))<|.callG ([.agg ζ1,.str x.name]) (.tuple [.sl .sh (List.map encA (w,er).fst),.int .i64 (w,er).snd]) (show Gives cfg (34:FuncId) [encSt s,.str x.name] (resV c (w,er))from h1) ⟨rfl,rfl⟩ Res.p<|.yes (show((w,er).snd !=(0:Int))=true from(by simpa using h0))<|.fin ((.ret (.int .i64 (w,er).snd),ζ2)) rfl) (by kernel_rfl)
theorem ckR_pods(s:St)(hs:StIn s):∀(post:List Pod)(i:Nat)(hd:s.pods.drop i=post)(ex:List (List AV))(T:Env)
 (hT:Has T [(1,.ptr 0 0),(4,.int .i64 i)]),
 Goes cfg a31 k31_0 T ⟨(encSt s).cells::ex,[],[]⟩ (IsRet (.int .i64 (firstE [podsE s post,roomR s s.nodes,(totalS s).2]))):=by
 intro post
 induction post with
 |nil=>
  intro i hd ex T hT
  have hge:=drop_ge hd
  have hp:=hs.pods
  have h1:=ckR_room s hs s.nodes 0 rfl ex
  have e:firstE [podsE s [],roomR s s.nodes,(totalS s).2]=firstE [roomR s s.nodes,(totalS s).2]:=rfl
  rw[e]
  exact let ζ1:List AV:=[.sl .sh (s.nodes.map encN),.sl .sh (s.pods.map encPd),.sl .sh (s.buds.map encB)];let ζ2:Heap:={boxes:=ζ1::ex,toks:=[],loops:=[]:Heap};goG 90 _ hT (.load (show loadA false 1 ζ2 (.ptr 0 1)=some (.sl .sh (s.pods.map encPd))from load_box (cs:=ζ1) (by simp+zetaDelta) rfl)<|.len (show lenA false (.sl .sh (s.pods.map encPd))=some (.int .i64 (↑s.pods.length))from len_map _)<|.no (decide_eq_false (p:=(↑i:Int)<(↑s.pods.length:Int)) (by omega))<|.cutQ k31_1 [(1,.ptr 0 0),(7,.int .i64 0)] (ζ2) (fun T hT=>(h1 T hT))) (by kernel_rfl)
 |cons x post ih=>
  intro i hd ex T hT
  have hlt:=drop_lt hd
  have hnx:=drop_next hd
  have hp:=hs.pods
  have hxi:idxA 11 (.sl .sh (s.pods.map encPd)) (.int .i64 (i:Nat))=some (.ref (encPd x).cells):=idx_row (f:=encPd) hd rfl
  have h1:=findN_ref s.nodes x.node hs.nodes
  have e:podsE s (x::post)=if x.node≠[]∧findG Node.name s.nodes x.node=none then 3 else podsE s post:=rfl
  rw[firstE_cons]
  by_cases hn:x.node=[]
  ·have e':podsE s (x::post)=podsE s post:=by rw[e,if_neg (by simp[hn])]
   rw[e']
   have ih':=ih (i+1) hnx ex
   rw[firstE_cons]at ih'
   exact let ζ1:List AV:=[.sl .sh (s.nodes.map encN),.sl .sh (s.pods.map encPd),.sl .sh (s.buds.map encB)];let ζ2:Heap:={boxes:=ζ1::ex,toks:=[],loops:=[]:Heap};goG 120 _ hT (.load (show loadA false 1 ζ2 (.ptr 0 1)=some (.sl .sh (s.pods.map encPd))from load_box (cs:=ζ1) (by simp+zetaDelta) rfl)<|.len (show lenA false (.sl .sh (s.pods.map encPd))=some (.int .i64 (↑s.pods.length))from len_map _)<|.yes (decide_eq_true (p:=(↑i:Int)<(↑s.pods.length:Int)) (by omega))<|.load (show loadA false 1 ζ2 (.ptr 0 1)=some (.sl .sh (s.pods.map encPd))from load_box (cs:=ζ1) (by simp+zetaDelta) rfl)<|.idx (show idxA 11 (.sl .sh (s.pods.map encPd)) (.int .i64 ↑i)=some (.ref (encPd x).cells)from hxi)<|.load (rfl:loadA false 1 ζ2 (.ref [.str x.node])=some (.str x.node))<|.yes (show(x.node==[])=true from(by simpa using hn))<|.bin (show binA .add (.int .i64 ↑i) (.int .i64 1)=some (.int .i64 (↑(i+1)))from inc_i (by omega))<|.cutQ k31_0 [(1,.ptr 0 0),(4,.int .i64 (↑(i+1)))] (ζ2) (fun T hT=>(ih' T hT))) (by kernel_rfl)
  ·cases hf:findG Node.name s.nodes x.node with
   |none=>
    rw[hf]at h1
    have e':podsE s (x::post)=3:=by rw[e,if_pos ⟨hn,hf⟩]
    rw[e',if_neg (by decide)]
    exact let ζ1:List AV:=[.sl .sh (s.nodes.map encN),.sl .sh (s.pods.map encPd),.sl .sh (s.buds.map encB)];let ζ2:Heap:={boxes:=ζ1::(ex++[[AV.str [],.sl .full [],.sl .full [],.sl .full [],.bool false]]),toks:=[],loops:=[]:Heap};let ζ3:List AV:=[.str [],.sl .sh [],.sl .sh [],.sl .sh [],.bool false];let ζ4:Heap:={boxes:=ζ1::ex,toks:=[],loops:=[]:Heap};let ζ5:Heap:={boxes:=ζ1::(ex++[ζ3]),toks:=[],loops:=[]:Heap};let ζ6:List AV:=[.sl .sh (s.nodes.map encN),.str x.node];goG 120 _ hT (.load (show loadA false 1 ζ4 (.ptr 0 1)=some (.sl .sh (s.pods.map encPd))from load_box (cs:=ζ1) (by simp+zetaDelta) rfl)<|.len (show lenA false (.sl .sh (s.pods.map encPd))=some (.int .i64 (↑s.pods.length))from len_map _)<|.yes (decide_eq_true (p:=(↑i:Int)<(↑s.pods.length:Int)) (by omega))<|.load (show loadA false 1 ζ4 (.ptr 0 1)=some (.sl .sh (s.pods.map encPd))from load_box (cs:=ζ1) (by simp+zetaDelta) rfl)<|.idx (show idxA 11 (.sl .sh (s.pods.map encPd)) (.int .i64 ↑i)=some (.ref (encPd x).cells)from hxi)<|.load (rfl:loadA false 1 ζ4 (.ref [.str x.node])=some (.str x.node))<|.no (show(x.node==[])=false from Bool.eq_false_iff.2 (by simpa using hn))<|.load (show loadA false 1 ζ2 (.ptr 0 0)=some (.sl .sh (s.nodes.map encN))from load_box (cs:=ζ1) (by simp+zetaDelta) rfl)<|.load (show loadA false 1 ζ2 (.ptr 0 1)=some (.sl .sh (s.pods.map encPd))from load_box (cs:=ζ1) (by simp+zetaDelta) rfl)<|.idx (show idxA 11 (.sl .sh (s.pods.map encPd)) (.int .i64 ↑i)=some (.ref (encPd x).cells)from hxi)<|.load (rfl:loadA false 1 ζ2 (.ref [.str x.node])=some (.str x.node))<|.callK (ζ6) (.tuple [.agg ζ3,.bool false]) (show Gives cfg (84:FuncId) ζ6 (findNV none)from h1)<|.store (show storeA 5 ζ2 (.ptr (ζ1::ex).length (0:Nat)) (.agg ζ3)=some (ζ5)from store_box2 (cs:=[.str [],.sl .full [],.sl .full [],.sl .full [],.bool false]) (cs':=ζ3) (by simp+zetaDelta) rfl (by simp+zetaDelta [List.set_append]))<|.tt<|.fin ((.ret (.int .i64 3),ζ5)) rfl) (by kernel_rfl)
   |some n=>
    rw[hf]at h1
    have e':podsE s (x::post)=podsE s post:=by rw[e,if_neg (by simp[hf])]
    rw[e']
    have ih':=ih (i+1) hnx (ex++[(encN n).cells])
    rw[firstE_cons]at ih'
    exact let ζ1:List AV:=[.sl .sh (s.nodes.map encN),.sl .sh (s.pods.map encPd),.sl .sh (s.buds.map encB)];let ζ2:List AV:=[.str n.name,.sl .sh (n.cap.map encA),.sl .sh (n.labels.map encP),.sl .sh (n.taints.map encT),.bool n.cordon];let ζ3:Heap:={boxes:=ζ1::(ex++[[AV.str [],.sl .full [],.sl .full [],.sl .full [],.bool false]]),toks:=[],loops:=[]:Heap};let ζ4:Heap:={boxes:=ζ1::ex,toks:=[],loops:=[]:Heap};let ζ5:Heap:={boxes:=ζ1::(ex++[ζ2]),toks:=[],loops:=[]:Heap};let ζ6:List AV:=[.sl .sh (s.nodes.map encN),.str x.node];goG 120 _ hT (.load (show loadA false 1 ζ4 (.ptr 0 1)=some (.sl .sh (s.pods.map encPd))from load_box (cs:=ζ1) (by simp+zetaDelta) rfl)<|.len (show lenA false (.sl .sh (s.pods.map encPd))=some (.int .i64 (↑s.pods.length))from len_map _)<|.yes (decide_eq_true (p:=(↑i:Int)<(↑s.pods.length:Int)) (by omega))<|.load (show loadA false 1 ζ4 (.ptr 0 1)=some (.sl .sh (s.pods.map encPd))from load_box (cs:=ζ1) (by simp+zetaDelta) rfl)<|.idx (show idxA 11 (.sl .sh (s.pods.map encPd)) (.int .i64 ↑i)=some (.ref (encPd x).cells)from hxi)<|.load (rfl:loadA false 1 ζ4 (.ref [.str x.node])=some (.str x.node))<|.no (show(x.node==[])=false from Bool.eq_false_iff.2 (by simpa using hn))<|.load (show loadA false 1 ζ3 (.ptr 0 0)=some (.sl .sh (s.nodes.map encN))from load_box (cs:=ζ1) (by simp+zetaDelta) rfl)<|.load (show loadA false 1 ζ3 (.ptr 0 1)=some (.sl .sh (s.pods.map encPd))from load_box (cs:=ζ1) (by simp+zetaDelta) rfl)<|.idx (show idxA 11 (.sl .sh (s.pods.map encPd)) (.int .i64 ↑i)=some (.ref (encPd x).cells)from hxi)<|.load (rfl:loadA false 1 ζ3 (.ref [.str x.node])=some (.str x.node))<|.callK (ζ6) (.tuple [.agg ζ2,.bool true]) (show Gives cfg (84:FuncId) ζ6 (findNV (some n))from h1)<|.store (show storeA 5 ζ3 (.ptr (ζ1::ex).length (0:Nat)) (.agg ζ2)=some (ζ5)from store_box2 (cs:=[.str [],.sl .full [],.sl .full [],.sl .full [],.bool false]) (cs':=ζ2) (by simp+zetaDelta) rfl (by simp+zetaDelta [List.set_append]))<|.ff<|.bin (show binA .add (.int .i64 ↑i) (.int .i64 1)=some (.int .i64 (↑(i+1)))from inc_i (by omega))<|.cutQ k31_0 [(1,.ptr 0 0),(4,.int .i64 (↑(i+1)))] (ζ5) (fun T hT=>(ih' T hT))) (by kernel_rfl)
theorem ckStR_ref(s:St)(hs:StIn s):Gives cfg 31 [encSt s] (.int .i64 (ckStR s)):=by
 refine Gives.run (l31 _ _) ?_
 have c1:=ckNs_ref s.nodes
 have c2:=ckPds_ref s.pods
 have c3:=ckBs_ref s.buds
 have h:=ckR_pods s hs s.pods 0 rfl []
 unfold ckStR
 generalize ckAll 32 ckN Node.name s.nodes=e1 at c1⊢
 generalize ckAll 128 ckPd Pod.name s.pods=e2 at c2⊢
 generalize ckAll 8 ckB Bud.name s.buds=e3 at c3⊢
 rw[firstE_cons]
 by_cases h1:e1=0
 ·subst h1
  rw[if_pos rfl,firstE_cons]
  by_cases h2:e2=0
  ·subst h2
   rw[if_pos rfl,firstE_cons]
   by_cases h3:e3=0
   ·subst h3
    rw[if_pos rfl]
    exact goG 90 [] trivial (.callI c1<|.ff<|.callI c2<|.ff<|.callI c3<|.ff<|.cutQ k31_0 [(1,.ptr 0 0),(4,.int .i64 0)] ({boxes:=[[.sl .sh (s.nodes.map encN),.sl .sh (s.pods.map encPd),.sl .sh (s.buds.map encB)]],toks:=[],loops:=[]:Heap}) (fun T hT=>(h T hT))) (by kernel_rfl)
   ·rw[if_neg h3]
    exact goG 90 [] trivial (.callI c1<|.ff<|.callI c2<|.ff<|.callI c3<|.yes (show(e3 !=(0:Int))=true from(by simpa using h3))<|.fin ((.ret (.int .i64 e3),{boxes:=[[.sl .sh (s.nodes.map encN),.sl .sh (s.pods.map encPd),.sl .sh (s.buds.map encB)]],toks:=[],loops:=[]:Heap})) rfl) (by kernel_rfl)
  ·rw[if_neg h2]
   exact goG 90 [] trivial (.callI c1<|.ff<|.callI c2<|.yes (show(e2 !=(0:Int))=true from(by simpa using h2))<|.fin ((.ret (.int .i64 e2),{boxes:=[[.sl .sh (s.nodes.map encN),.sl .sh (s.pods.map encPd),.sl .sh (s.buds.map encB)]],toks:=[],loops:=[]:Heap})) rfl) (by kernel_rfl)
 ·rw[if_neg h1]
  exact goG 90 [] trivial (.callI c1<|.yes (show(e1 !=(0:Int))=true from(by simpa using h1))<|.fin ((.ret (.int .i64 e1),{boxes:=[[.sl .sh (s.nodes.map encN),.sl .sh (s.pods.map encPd),.sl .sh (s.buds.map encB)]],toks:=[],loops:=[]:Heap})) rfl) (by kernel_rfl)
theorem ckAll_mem{X:Type}{most:Nat}{ck:X→Int}{nm:X→List UInt8}{s:List X}(h:ckAll most ck nm s=0):s.length≤most∧∀x∈s,ck x=0:=by
 unfold ckAll at h
 split at h
 ·rename_i hl
  refine⟨hl,?_⟩
  have key:∀(post:List X)(i:Nat),ckAl ck nm s i post=0→∀x∈post,ck x=0:=by
   intro post
   induction post with
   |nil=>intro i _ x hx;cases hx
   |cons y post ih=>
    intro i h x hx
    unfold ckAl at h
    split at h
    ·rename_i h0
     split at h
     ·cases h
     ·rcases List.mem_cons.1 hx with rfl|hx
      ·exact h0
      ·exact ih _ h x hx
    ·rename_i h0;exact absurd h h0
  exact key s 0 h
 ·cases h
theorem ckN_name{n:Node}(h:ckN n=0):n.name≠[]:=by
 intro e
 have:=firstE_zero h (if isName n.name then 0 else 3) (by simp)
 rw[e]at this
 simp[isName]at this
theorem ck_same(s:St):ckStR s=ckSt s:=by
 unfold ckStR ckSt
 by_cases h:ckAll 32 ckN Node.name s.nodes=0
 ·rw[room_same s s.nodes fun n hn=>ckN_name ((ckAll_mem h).2 n hn)]
 ·simp[firstE,h]
theorem ckSt_ref(s:St)(hs:StIn s):Gives cfg 31 [encSt s] (.int .i64 (ckSt s)):=by
 have:=ckStR_ref s hs
 rwa [ck_same]at this
structure RgS(s:St):Prop where
 cap:∀n∈s.nodes,rgA n.cap
 need:∀p∈s.pods,rgA p.need
theorem stIn{s:St}(h:FewS s)(r:RgS s):StIn s:=
 ⟨by have:=h.nodes;omega,by have:=h.pods;omega,fun n hn=>⟨by have:=(fewNd (h.node n hn)).cap;omega,r.cap n hn⟩,fun p hp=>⟨by have:=(fewPod (h.pod p hp)).need;omega,r.need p hp⟩⟩
theorem good_any(s:St)(r:RgS s):Gives cfg 16 [encSt s] (.bool (fewSt s&&ckSt s==0)):=by
 refine Gives.run (l16 _ _) ?_
 have h1:=fewSt_any s
 cases hf:fewSt s with
 |false=>
  rw[hf]at h1
  exact let ζ1:List AV:=[.sl .sh (s.nodes.map encN),.sl .sh (s.pods.map encPd),.sl .sh (s.buds.map encB)];goG 60 [] trivial (.callI h1<|.ff<|.fin ((.ret (.bool false),{boxes:=[ζ1],toks:=[],loops:=[]:Heap})) rfl) (by kernel_rfl)
 |true=>
  rw[hf]at h1
  have fs:=fewS hf
  have h2:=ofSt_any s fs
  have h3:=ckSt_ref s (stIn fs r)
  rw[Bool.true_and]
  exact let ζ1:List AV:=[.sl .sh (s.nodes.map encN),.sl .sh (s.pods.map encPd),.sl .sh (s.buds.map encB)];goG 60 [] trivial (.callI h1<|.tt<|.callI h2<|.callI h3<|.fin ((.ret (.bool (ckSt s==(0:Int))),{boxes:=[ζ1],toks:=[],loops:=[]:Heap})) rfl) (by kernel_rfl)
end Go.Aa.T
set_option linter.unusedVariables false
set_option linter.unusedSimpArgs false
set_option maxRecDepth 100000
namespace Go.Aa.T
open Go.Aa Go.Proofs
structure SmN(n:Node):Prop where
 cap:n.cap.length<9223372036854775807
 labels:n.labels.length<9223372036854775807
 taints:n.taints.length<9223372036854775807
structure SmP(p:Pod):Prop where
 need:p.need.length<9223372036854775807
 labels:p.labels.length<9223372036854775807
 sel:p.sel.length<9223372036854775807
 tols:p.tols.length<9223372036854775807
structure SmS(s:St):Prop where
 nodes:s.nodes.length<9223372036854775807
 pods:s.pods.length<9223372036854775807
 buds:s.buds.length<9223372036854775807
 node:∀x∈s.nodes,SmN x
 pod:∀x∈s.pods,SmP x
 bud:∀x∈s.buds,x.sel.length<9223372036854775807
theorem known29':Gives cfg 29 [] (.bool true):=by
 obtain⟨H,h⟩:=known_ret29
 exact Gives.of h
end Go.Aa.T
set_option linter.unusedVariables false
set_option linter.unusedSimpArgs false
set_option maxRecDepth 100000
namespace Go.Aa.T
open Go.Aa Go.Proofs
theorem map_of2{α:Type}{f:α→AV}{Q:AV→Prop}{S:α→Prop}(h:∀y,Q y→∃x,y=f x∧S x):∀(l:List AV),(∀y∈l,Q y)→∃t:List α,l=t.map f∧∀x∈t,S x
 |[],_=>⟨[],rfl,by simp⟩
 |y::l,hl=>by
  obtain⟨x,rfl,hx⟩:=h y (hl y (by simp))
  obtain⟨t,rfl,ht⟩:=map_of2 h l (fun z hz=>hl z (by simp[hz]))
  exact⟨x::t,rfl,by simpa using⟨hx,ht⟩⟩
theorem i64_range{m:Int}(h:(Lit.int .i64 m).wf=true): -9223372036854775808≤m∧m≤9223372036854775807:=by
 have h':IntKind.i64.min≤m∧m≤IntKind.i64.max:=by simpa[Lit.wf,IntKind.has]using h
 have e1:IntKind.i64.min= -9223372036854775808:=rfl
 have e2:IntKind.i64.max=9223372036854775807:=rfl
 omega
theorem tys2{R:TypeId→List AV→Prop}{f1 f2:Field}{cs:List AV}(h:Tys R (#[f1,f2]:Array Field).toList cs):∃a1 a2,cs=a1++(a2)∧R f1.type a1∧R f2.type a2:=by
 obtain⟨a1,b1,rfl,h1,a2,b2,rfl,h2,e⟩:=(show Tys R [f1,f2] cs from h)
 cases e
 exact⟨a1,a2,by simp,h1,h2⟩
theorem tys3{R:TypeId→List AV→Prop}{f1 f2 f3:Field}{cs:List AV}(h:Tys R (#[f1,f2,f3]:Array Field).toList cs):∃a1 a2 a3,cs=a1++(a2++(a3))∧R f1.type a1∧R f2.type a2∧R f3.type a3:=by
 obtain⟨a1,b1,rfl,h1,a2,b2,rfl,h2,a3,b3,rfl,h3,e⟩:=(show Tys R [f1,f2,f3] cs from h)
 cases e
 exact⟨a1,a2,a3,by simp,h1,h2,h3⟩
theorem tys5{R:TypeId→List AV→Prop}{f1 f2 f3 f4 f5:Field}{cs:List AV}(h:Tys R (#[f1,f2,f3,f4,f5]:Array Field).toList cs):∃a1 a2 a3 a4 a5,cs=a1++(a2++(a3++(a4++(a5))))∧R f1.type a1∧R f2.type a2∧R f3.type a3∧R f4.type a4∧R f5.type a5:=by
 obtain⟨a1,b1,rfl,h1,a2,b2,rfl,h2,a3,b3,rfl,h3,a4,b4,rfl,h4,a5,b5,rfl,h5,e⟩:=(show Tys R [f1,f2,f3,f4,f5] cs from h)
 cases e
 exact⟨a1,a2,a3,a4,a5,by simp,h1,h2,h3,h4,h5⟩
theorem tys11{R:TypeId→List AV→Prop}{f1 f2 f3 f4 f5 f6 f7 f8 f9 f10 f11:Field}{cs:List AV}(h:Tys R (#[f1,f2,f3,f4,f5,f6,f7,f8,f9,f10,f11]:Array Field).toList cs):∃a1 a2 a3 a4 a5 a6 a7 a8 a9 a10 a11,cs=a1++(a2++(a3++(a4++(a5++(a6++(a7++(a8++(a9++(a10++(a11))))))))))∧R f1.type a1∧R f2.type a2∧R f3.type a3∧R f4.type a4∧R f5.type a5∧R f6.type a6∧R f7.type a7∧R f8.type a8∧R f9.type a9∧R f10.type a10∧R f11.type a11:=by
 obtain⟨a1,b1,rfl,h1,a2,b2,rfl,h2,a3,b3,rfl,h3,a4,b4,rfl,h4,a5,b5,rfl,h5,a6,b6,rfl,h6,a7,b7,rfl,h7,a8,b8,rfl,h8,a9,b9,rfl,h9,a10,b10,rfl,h10,a11,b11,rfl,h11,e⟩:=(show Tys R [f1,f2,f3,f4,f5,f6,f7,f8,f9,f10,f11] cs from h)
 cases e
 exact⟨a1,a2,a3,a4,a5,a6,a7,a8,a9,a10,a11,by simp,h1,h2,h3,h4,h5,h6,h7,h8,h9,h10,h11⟩
theorem ty100{k:Nat}{y:AV}(h:TyV Tryz.prog (k+2) 100 y):∃x:Amount,y=encA x∧(-9223372036854775808≤x.n∧x.n≤9223372036854775807):=by
 obtain⟨cs,rfl,hh⟩:=tyv_struct Tryz.underlying100 h
 obtain⟨a1,a2,rfl,h1,h2⟩:=tys2 hh
 obtain⟨s1,rfl,-⟩:=ty_string Tryz.underlying9 h1
 obtain⟨s2,rfl,w2⟩:=ty_int Tryz.underlying2 h2
 have r2:=i64_range w2
 exact⟨⟨s1,s2⟩,rfl,r2⟩
theorem ty28s{k:Nat}{y:List AV}(h:Ty Tryz.prog (k+3) 28 y):∃t:List Amount,y=[.sl .sh (t.map encA)]∧∀x∈t,-9223372036854775808≤x.n∧x.n≤9223372036854775807:=by
 obtain⟨l,rfl,-,hl⟩:=ty_slice Tryz.underlying28 h
 obtain⟨t,rfl,hs⟩:=map_of2 (S:=fun x:Amount=> -9223372036854775808≤x.n∧x.n≤9223372036854775807) (fun y hy=>ty100 hy) l hl
 exact⟨t,rfl,hs⟩
theorem ty201{k:Nat}{y:AV}(h:TyV Tryz.prog (k+2) 201 y):∃x:Pair,y=encP x∧(True):=by
 obtain⟨cs,rfl,hh⟩:=tyv_struct Tryz.underlying201 h
 obtain⟨a1,a2,rfl,h1,h2⟩:=tys2 hh
 obtain⟨s1,rfl,-⟩:=ty_string Tryz.underlying9 h1
 obtain⟨s2,rfl,-⟩:=ty_string Tryz.underlying9 h2
 exact⟨⟨s1,s2⟩,rfl,trivial⟩
theorem ty30s{k:Nat}{y:List AV}(h:Ty Tryz.prog (k+3) 30 y):∃t:List Pair,y=[.sl .sh (t.map encP)]∧∀x∈t,True:=by
 obtain⟨l,rfl,-,hl⟩:=ty_slice Tryz.underlying30 h
 obtain⟨t,rfl,hs⟩:=map_of2 (S:=fun x:Pair=>True) (fun y hy=>ty201 hy) l hl
 exact⟨t,rfl,hs⟩
theorem ty110{k:Nat}{y:AV}(h:TyV Tryz.prog (k+2) 110 y):∃x:Taint,y=encT x∧(True):=by
 obtain⟨cs,rfl,hh⟩:=tyv_struct Tryz.underlying110 h
 obtain⟨a1,a2,a3,rfl,h1,h2,h3⟩:=tys3 hh
 obtain⟨s1,rfl,-⟩:=ty_string Tryz.underlying9 h1
 obtain⟨s2,rfl,-⟩:=ty_string Tryz.underlying9 h2
 obtain⟨s3,rfl⟩:=ty_bool Tryz.underlying4 h3
 exact⟨⟨s1,s2,s3⟩,rfl,trivial⟩
theorem ty62s{k:Nat}{y:List AV}(h:Ty Tryz.prog (k+3) 62 y):∃t:List Taint,y=[.sl .sh (t.map encT)]∧∀x∈t,True:=by
 obtain⟨l,rfl,-,hl⟩:=ty_slice Tryz.underlying62 h
 obtain⟨t,rfl,hs⟩:=map_of2 (S:=fun x:Taint=>True) (fun y hy=>ty110 hy) l hl
 exact⟨t,rfl,hs⟩
theorem ty64{k:Nat}{y:AV}(h:TyV Tryz.prog (k+4) 64 y):∃x:Node,y=encN x∧(rgA x.cap):=by
 obtain⟨cs,rfl,hh⟩:=tyv_struct Tryz.underlying64 h
 obtain⟨a1,a2,a3,a4,a5,rfl,h1,h2,h3,h4,h5⟩:=tys5 hh
 obtain⟨s1,rfl,-⟩:=ty_string Tryz.underlying9 h1
 obtain⟨s2,rfl,w2⟩:=ty28s h2
 obtain⟨s3,rfl,w3⟩:=ty30s h3
 obtain⟨s4,rfl,w4⟩:=ty62s h4
 obtain⟨s5,rfl⟩:=ty_bool Tryz.underlying4 h5
 exact⟨⟨s1,s2,s3,s4,s5⟩,rfl,w2⟩
theorem ty22s{k:Nat}{y:List AV}(h:Ty Tryz.prog (k+5) 22 y):∃t:List Node,y=[.sl .sh (t.map encN)]∧∀x∈t,rgA x.cap:=by
 obtain⟨l,rfl,-,hl⟩:=ty_slice Tryz.underlying22 h
 obtain⟨t,rfl,hs⟩:=map_of2 (S:=fun x:Node=>rgA x.cap) (fun y hy=>ty64 hy) l hl
 exact⟨t,rfl,hs⟩
theorem ty112{k:Nat}{y:AV}(h:TyV Tryz.prog (k+2) 112 y):∃x:Term,y=encM x∧(True):=by
 obtain⟨cs,rfl,hh⟩:=tyv_struct Tryz.underlying112 h
 obtain⟨a1,a2,a3,rfl,h1,h2,h3⟩:=tys3 hh
 obtain⟨s1,rfl,w1⟩:=ty_int Tryz.underlying3 h1
 have r1:=i64_range w1
 obtain⟨s2,rfl,-⟩:=ty_string Tryz.underlying9 h2
 obtain⟨s3,rfl,-⟩:=ty_string Tryz.underlying9 h3
 exact⟨⟨s1,s2,s3⟩,rfl,trivial⟩
theorem ty32s{k:Nat}{y:List AV}(h:Ty Tryz.prog (k+3) 32 y):∃t:List Term,y=[.sl .sh (t.map encM)]∧∀x∈t,True:=by
 obtain⟨l,rfl,-,hl⟩:=ty_slice Tryz.underlying32 h
 obtain⟨t,rfl,hs⟩:=map_of2 (S:=fun x:Term=>True) (fun y hy=>ty112 hy) l hl
 exact⟨t,rfl,hs⟩
theorem ty205{k:Nat}{y:AV}(h:TyV Tryz.prog (k+2) 205 y):∃x:Tol,y=encL x∧(True):=by
 obtain⟨cs,rfl,hh⟩:=tyv_struct Tryz.underlying205 h
 obtain⟨a1,a2,a3,rfl,h1,h2,h3⟩:=tys3 hh
 obtain⟨s1,rfl,-⟩:=ty_string Tryz.underlying9 h1
 obtain⟨s2,rfl,-⟩:=ty_string Tryz.underlying9 h2
 obtain⟨s3,rfl⟩:=ty_bool Tryz.underlying4 h3
 exact⟨⟨s1,s2,s3⟩,rfl,trivial⟩
theorem ty33s{k:Nat}{y:List AV}(h:Ty Tryz.prog (k+3) 33 y):∃t:List Tol,y=[.sl .sh (t.map encL)]∧∀x∈t,True:=by
 obtain⟨l,rfl,-,hl⟩:=ty_slice Tryz.underlying33 h
 obtain⟨t,rfl,hs⟩:=map_of2 (S:=fun x:Tol=>True) (fun y hy=>ty205 hy) l hl
 exact⟨t,rfl,hs⟩
theorem ty35{k:Nat}{y:AV}(h:TyV Tryz.prog (k+4) 35 y):∃x:Pod,y=encPd x∧(rgA x.need∧inI x.prio∧inI x.most):=by
 obtain⟨cs,rfl,hh⟩:=tyv_struct Tryz.underlying35 h
 obtain⟨a1,a2,a3,a4,a5,a6,a7,a8,a9,a10,a11,rfl,h1,h2,h3,h4,h5,h6,h7,h8,h9,h10,h11⟩:=tys11 hh
 obtain⟨s1,rfl,-⟩:=ty_string Tryz.underlying9 h1
 obtain⟨s2,rfl,-⟩:=ty_string Tryz.underlying9 h2
 obtain⟨s3,rfl,w3⟩:=ty_int Tryz.underlying3 h3
 have r3:=i64_range w3
 obtain⟨s4,rfl,w4⟩:=ty28s h4
 obtain⟨s5,rfl,w5⟩:=ty30s h5
 obtain⟨s6,rfl,w6⟩:=ty32s h6
 obtain⟨s7,rfl,w7⟩:=ty33s h7
 obtain⟨s8,rfl,-⟩:=ty_string Tryz.underlying9 h8
 obtain⟨s9,rfl,w9⟩:=ty_int Tryz.underlying3 h9
 have r9:=i64_range w9
 obtain⟨s10,rfl,-⟩:=ty_string Tryz.underlying9 h10
 obtain⟨s11,rfl⟩:=ty_bool Tryz.underlying4 h11
 exact⟨⟨s1,s2,s3,s4,s5,s6,s7,s8,s9,s10,s11⟩,rfl,⟨w4,r3,r9⟩⟩
theorem ty23s{k:Nat}{y:List AV}(h:Ty Tryz.prog (k+5) 23 y):∃t:List Pod,y=[.sl .sh (t.map encPd)]∧∀x∈t,rgA x.need∧inI x.prio∧inI x.most:=by
 obtain⟨l,rfl,-,hl⟩:=ty_slice Tryz.underlying23 h
 obtain⟨t,rfl,hs⟩:=map_of2 (S:=fun x:Pod=>rgA x.need∧inI x.prio∧inI x.most) (fun y hy=>ty35 hy) l hl
 exact⟨t,rfl,hs⟩
theorem ty181{k:Nat}{y:AV}(h:TyV Tryz.prog (k+4) 181 y):∃x:Bud,y=encB x∧(inI x.floor):=by
 obtain⟨cs,rfl,hh⟩:=tyv_struct Tryz.underlying181 h
 obtain⟨a1,a2,a3,rfl,h1,h2,h3⟩:=tys3 hh
 obtain⟨s1,rfl,-⟩:=ty_string Tryz.underlying9 h1
 obtain⟨s2,rfl,w2⟩:=ty32s h2
 obtain⟨s3,rfl,w3⟩:=ty_int Tryz.underlying3 h3
 have r3:=i64_range w3
 exact⟨⟨s1,s2,s3⟩,rfl,r3⟩
theorem ty24s{k:Nat}{y:List AV}(h:Ty Tryz.prog (k+5) 24 y):∃t:List Bud,y=[.sl .sh (t.map encB)]∧∀x∈t,inI x.floor:=by
 obtain⟨l,rfl,-,hl⟩:=ty_slice Tryz.underlying24 h
 obtain⟨t,rfl,hs⟩:=map_of2 (S:=fun x:Bud=>inI x.floor) (fun y hy=>ty181 hy) l hl
 exact⟨t,rfl,hs⟩
theorem ty26{k:Nat}{y:AV}(h:TyV Tryz.prog (k+6) 26 y):∃x:St,y=encSt x∧(RgS x∧(∀p∈x.pods,inI p.prio∧inI p.most)∧∀b∈x.buds,inI b.floor):=by
 obtain⟨cs,rfl,hh⟩:=tyv_struct Tryz.underlying26 h
 obtain⟨a1,a2,a3,rfl,h1,h2,h3⟩:=tys3 hh
 obtain⟨s1,rfl,w1⟩:=ty22s h1
 obtain⟨s2,rfl,w2⟩:=ty23s h2
 obtain⟨s3,rfl,w3⟩:=ty24s h3
 exact⟨⟨s1,s2,s3⟩,rfl,⟨⟨w1,fun p hp=>(w2 p hp).1⟩,fun p hp=>(w2 p hp).2,w3⟩⟩
end Go.Aa.T
set_option linter.unusedVariables false
set_option linter.unusedSimpArgs false
set_option maxRecDepth 100000
namespace Go.Aa.T
open Go.Aa Go.Proofs
theorem tyU8{k:Nat}{x:AV}(hx:TyV Tryz.prog (k+1) 5 x):∃n:Nat,n<256∧x=.int .u8 (n:Int):=by
 obtain⟨m,rfl,hm⟩:=tyv_int Tryz.underlying5 hx
 have h':IntKind.u8.min≤m∧m≤IntKind.u8.max:=by simpa[Lit.wf,IntKind.has]using hm
 have e1:IntKind.u8.min=0:=rfl
 have e2:IntKind.u8.max=255:=rfl
 exact⟨m.toNat,by omega,by congr 1;omega⟩
end Go.Aa.T
set_option linter.unusedVariables false
set_option linter.unusedSimpArgs false
set_option maxRecDepth 100000
namespace Go.Aa.T
open Go.Aa Go.Proofs
end Go.Aa.T
set_option linter.unusedVariables false
set_option linter.unusedSimpArgs false
set_option maxRecDepth 100000
namespace Go.Aa.T
open Go.Aa Go.Proofs
theorem in2_d0{x:AV}{nb nt:Nat}(h:data0 x=true):in2 nb nt x=true:=in2_data0 h
def Tame(B:List (List AV)):Prop:=∀nb,B.length≤nb→B.all (·.all (in2 nb 0))=true
theorem tame_data{B:List (List AV)}(h:B.all (·.all data0)=true):Tame B:=fun nb _=>List.all_eq_true.2 fun b hb=>List.all_eq_true.2 fun x hx=>in2_d0 (List.all_eq_true.1 (List.all_eq_true.1 h b hb) x hx)
theorem tame_set{B:List (List AV)}{k:Nat}{cs:List AV}(h:Tame B)(hc:cs.all data0=true):Tame (B.set k cs):=fun nb hn=>by
 refine List.all_eq_true.2 fun b hb=> ?_
 rcases List.mem_or_eq_of_mem_set hb with hb|rfl
 ·exact List.all_eq_true.1 (h nb (by simpa using hn)) b hb
 ·exact List.all_eq_true.2 fun x hx=>in2_d0 (List.all_eq_true.1 hc x hx)
theorem trunc_tame{B ex:List (List AV)}{v:AV}(hB:Tame B)(hv:within B.length 0 v=true):trunc B.length 0 v ⟨B++ex,[],[]⟩=⟨B,[],[]⟩:=by
 have h1:=hB B.length (Nat.le_refl _)
 unfold trunc
 simp only[List.take_left,List.length_nil,List.all_nil,Bool.true_and,hv,h1,Bool.and_self,if_true,List.take_zero,ite_self]
abbrev pcs(l:List Pod):List AV:=rowCells (l.map encPd)
theorem encPd_el(l:List Pod):(l.map encPd).all (elOk 11)=true:=List.all_eq_true.2 fun x hx=>by
 obtain⟨j,_,rfl⟩:=List.mem_map.1 hx
 rfl
theorem pcs_len(l:List Pod):(pcs l).length=l.length*11:=by
 have:=rowCells_len (es:=11) (l:=l.map encPd) lenPd
 simpa using this
theorem pcs_data(l:List Pod):(pcs l).all data0=true:=by
 refine List.all_eq_true.2 fun x hx=> ?_
 simp only[pcs,rowCells,List.mem_flatMap,List.mem_map]at hx
 obtain⟨a,⟨p,-,rfl⟩,hx⟩:=hx
 simp only[encPd,AV.cells,List.mem_cons,List.not_mem_nil,or_false]at hx
 rcases hx with rfl|rfl|rfl|rfl|rfl|rfl|rfl|rfl|rfl|rfl|rfl<;>rfl
theorem loadP{B:List (List AV)}{kk:Nat}{C:List Pod}{Z:List AV}{i:Nat}{p:Pod}(hk:B[kk]?=some (pcs C++Z))(hp:C[i]?=some p):Does cfg (.load true 11 (.c (.ptr kk (0+i*11)))) ⟨B,[],[]⟩ (encPd p) ⟨B,[],[]⟩:=fun T=>by
 obtain⟨h1,h2⟩:=cells_at (es:=11) (i:=i) (encPd_el C) (x:=encPd p) (by simp[hp])
 change((pcs C).drop (i*11)).take 11=_ at h1
 change _≤(pcs C).length at h2
 have:loadA true 11 ⟨B,[],[]⟩ (.ptr kk (0+i*11))=some (encPd p):=by
  simp only[loadA,hk,Nat.zero_add]
  rw[if_pos (by rw[List.length_append];omega),List.drop_append_of_le_length (by omega),List.take_append_of_le_length (by rw[List.length_drop];omega),h1];rfl
 simp only[opStep,ev,this]
end Go.Aa.T
set_option linter.unusedVariables false
set_option linter.unusedSimpArgs false
set_option maxRecDepth 100000
namespace Go.Aa.T
open Go.Aa Go.Proofs
section
variable(B0:List (List AV))(kk jj n:Nat)(nm:List UInt8)
structure DH(C:List Pod)(B:List (List AV)):Prop where
 row:B[kk]?=some (pcs C)
 nme:B[jj]?=some [.str nm]
 tame:Tame B
 from0:∃ex,B=B0.set kk (pcs C)++ex
variable{B0 kk jj n nm}
theorem DH.put{C:List Pod}{B:List (List AV)}(h:DH B0 kk jj nm C B)(hkj:kk≠jj)(hk:kk<B0.length)(C':List Pod):DH B0 kk jj nm C' (B.set kk (pcs C')):=by
 obtain⟨ex,e⟩:=h.from0
 have h1:=(List.getElem?_eq_some_iff.1 h.row).1
 refine⟨List.getElem?_set_self h1,by rw[List.getElem?_set_ne hkj];exact h.nme,tame_set h.tame (pcs_data C'),ex,?_⟩
 rw[e,List.set_append_left _ _ (by simpa using hk),List.set_set]
end
end Go.Aa.T
set_option linter.unusedVariables false
set_option linter.unusedSimpArgs false
set_option maxRecDepth 100000
namespace Go.Aa.T
open Go.Aa Go.Proofs
end Go.Aa.T
set_option linter.unusedVariables false
set_option linter.unusedSimpArgs false
set_option maxRecDepth 100000
namespace Go.Aa.T
open Go.Aa Go.Proofs
theorem does_callN{xs:List AV}{g:FuncId}{v0 v:AV}{H H0 H2:Heap}(h0:lim cfg (.fn g) xs Heap.nil=some (.ret v0,H0))(hn:isData (shutA v0)=false)(h:lim cfg (.fn g) xs H=some (.ret v,H2))(hx:xs.map shutA=xs)(hd:xs.all isData=true):
 Does cfg (.callM (.c (.func g [])) (xs.map .c)) H (shutA v) (trunc H.boxes.length H.toks.length (shutA v) H2):=fun T=>by
 have e:(xs.map Opd.c).map (fun x=>shutA (ev T x))=xs:=by rw[List.map_map];exact hx
 simp only[opStep,e]
 rw[show ev T (.c (.func g []))=.func g []from rfl]
 simp only[callW,hd,List.all_nil,Bool.and_self,if_true,List.append_nil,h0,hn,Bool.false_eq_true,if_false,callE,h]
theorem trunc_new{B ex:List (List AV)}{nb k off n es:Nat}(hl:nb≤k):trunc nb 0 (.msl k off n es) ⟨B,[],[]⟩=⟨B,[],[]⟩:=by
 unfold trunc
 have hw:within nb 0 (.msl k off n es)=false:=by simp[within,in2,in1,in0];omega
 simp only[hw,List.length_nil,List.all_nil,Bool.true_and,Bool.and_false,Bool.false_and,Bool.false_eq_true,if_false,List.take_zero,ite_self]
theorem clone_lim{l:List Pod}(hl:l≠[])(hs:l.length≤100000)(B:List (List AV)):lim cfg (.fn 90) [.sl .sh (l.map encPd)] ⟨B,[],[]⟩=some (.ret (.msl B.length 0 l.length 11),⟨B++[pcs l],[],[]⟩):=by
 rw[lim_ext (g:=cloneE 11 184) rfl rfl]
 obtain⟨x,m,rfl⟩:=List.exists_cons_of_ne_nil hl
 have hd:dataOk ((x::m).map encPd)=true:=dataOk_map fun _=>rfl
 simp only[cloneE,List.map_cons,appendMA]
 rw[if_pos ⟨by trivial,by trivial,by simp only[List.length_cons,List.length_map]at hs⊢;omega,lenPd (l:=x::m),hd⟩]
 simp[pcs]
theorem clone_any{l:List Pod}(hl:l≠[])(hs:l.length≤100000)(B:List (List AV)):Does cfg (.callM (.c (.func 90 [])) [.c (.sl .sh (l.map encPd))]) ⟨B,[],[]⟩ (.msl B.length 0 l.length 11) ⟨B++[pcs l],[],[]⟩:=by
 have h:=does_callN (xs:=[.sl .sh (l.map encPd)]) (clone_lim hl hs []) rfl (clone_lim hl hs B) rfl rfl
 rw[show shutA (.msl B.length 0 l.length 11)=.msl B.length 0 l.length 11 from rfl,show(⟨B,[],[]⟩:Heap).boxes.length=B.length from rfl,show(⟨B,[],[]⟩:Heap).toks.length=0 from rfl,trunc_new (ex:=[]) (Nat.le_refl _)]at h
 exact h
theorem clone_none(B:List (List AV))(hB:Tame B):Does cfg (.callM (.c (.func 90 [])) [.c (.sl .sh [])]) ⟨B,[],[]⟩ (.sl .nil []) ⟨B,[],[]⟩:=by
 have h:∀H,lim cfg (.fn 90) [.sl .sh []] H=some (.ret (.sl .nil []),H):=fun H=>by
  rw[lim_ext (g:=cloneE 11 184) rfl rfl];rfl
 have h:=does_callN (xs:=[.sl .sh []]) (h Heap.nil) rfl (h ⟨B,[],[]⟩) rfl rfl
 have e:=trunc_tame (ex:=[]) (v:=.sl .nil []) hB rfl
 rw[List.append_nil]at e
 rw[show shutA (.sl .nil [])=.sl .nil []from rfl,show(⟨B,[],[]⟩:Heap).boxes.length=B.length from rfl,show(⟨B,[],[]⟩:Heap).toks.length=0 from rfl,e]at h
 exact h
inductive PR(kk:Nat)(n:Nat)(l:List Pod):AV→List (List AV)→Prop
 |some(Z:List AV)(hZ:Z.all data0=true)(hn:0<n)(hl:(pcs l++Z).length=n*11):PR kk n l (.msl kk 0 l.length 11) [pcs l++Z]
 |none(h0:n=0)(hl:l=[]):PR kk n l (.sl .nil []) []
abbrev stC(s:St)(v:AV):List AV:=[.sl .sh (s.nodes.map encN),v,.sl .sh (s.buds.map encB)]
def stA(s:St)(v:AV):AV:=.agg (stC s v)
theorem unrow_pods(Z:List AV):∀l:List Pod,unrow 11 l.length (pcs l++Z)=l.map encPd
 |[]=>rfl
 |x::l=>by
  have e:pcs (x::l)++Z=(encPd x).cells++(pcs l++Z):=by simp[pcs,rowCells]
  have ih:=unrow_pods Z l
  rw[e]
  show encPd x::unrow 11 l.length (pcs l++Z)=_
  rw[ih];rfl
theorem frz_pods{bs:List (List AV)}{kk:Nat}{l:List Pod}{Z:List AV}(hk:bs[kk]?=some (pcs l++Z))(hZ:Z.all data0=true):frz1 ⟨bs,[],[]⟩ (.msl kk 0 l.length 11)=some (.sl .sh (l.map encPd)):=by
 have hl:=pcs_len l
 simp only[frz1,hk,List.drop_zero]
 rw[if_pos ⟨by rw[List.length_append];omega,Nat.zero_le _,by decide,by rw[List.all_append,pcs_data,hZ];rfl⟩,unrow_pods]
theorem out_stA{bs:List (List AV)}{s:St}{v:AV}{l:List Pod}(hv:isData (shutA (stA s v))=false)(hs:shut1 v=v)(hf:frz1 ⟨bs,[],[]⟩ v=some (.sl .sh (l.map encPd))):dataOut ⟨bs,[],[]⟩ (stA s v)=some (encSt {s with pods:=l}):=by
 unfold dataOut
 rw[if_neg (by rw[hv];decide)]
 have:frzA ⟨bs,[],[]⟩ (stA s v)=some (encSt {s with pods:=l}):=by
  simp only[stA,frzA,frz2,frzL,hf]
  simp[frz1,encSt]
 rw[this]
 rfl
end Go.Aa.T
set_option linter.unusedVariables false
set_option linter.unusedSimpArgs false
set_option maxRecDepth 100000
namespace Go.Aa.T
open Go.Aa Go.Proofs
def before(nm:List UInt8)(p:Pod):Bool:=Op.bytesLess p.name nm
end Go.Aa.T
set_option linter.unusedVariables false
set_option linter.unusedSimpArgs false
set_option maxRecDepth 100000
namespace Go.Aa.T
open Go.Aa Go.Proofs
abbrev pzc:List AV:=[.sl .full [],.sl .full [],.sl .full []]
def srtP(l:List Pod):Prop:=l.Pairwise fun a b=>Op.bytesLess a.name b.name=true
end Go.Aa.T
set_option linter.unusedVariables false
set_option linter.unusedSimpArgs false
set_option maxRecDepth 100000
namespace Go.Aa.T
open Go.Aa Go.Proofs
theorem less_lt{x y:List UInt8}:Op.bytesLess x y=true↔x<y:=by rw[bl_eq,decide_eq_true_eq]
theorem ord_of_not{x y:List UInt8}(h:¬(Op.bytesLess x y||x==y)=true):Op.bytesLess y x=true:=bl_not (by simpa only[Bool.not_eq_true]using h)
theorem ckAl_ordX{X:Type}{ck:X→Int}{nm:X→List UInt8}{s:List X}:∀{post:List X}{i:Nat},ckAl ck nm s i post=0→s.drop i=post→∀(j:Nat)(x p:X),i≤j+1→s[j+1]?=some x→s[j]?=some p→Op.bytesLess (nm p) (nm x)=true
 |[],i,_,hd,j,x,p,hi,hx,hp=>by
  have:=drop_ge hd
  have h2:j+1<s.length:=(List.getElem?_eq_some_iff.1 hx).1
  omega
 |y::post,i,h,hd,j,x,p,hi,hx,hp=>by
  unfold ckAl at h
  split at h
  ·split at h
   ·cases h
   ·rename_i ho
    rcases Nat.lt_or_ge i (j+1)with hlt|hge
    ·exact ckAl_ordX h (drop_next hd) j x p (by omega) hx hp
    ·have e:i=j+1:=by omega
     subst e
     have ey:y=x:=by
      have:=drop_at hd
      rw[hx]at this
      exact(Option.some.inj this).symm
     subst ey
     simp only[ordG,hp,Bool.not_eq_true]at ho
     exact ord_of_not (by rw[ho];decide)
  ·rename_i hx0;exact absurd h hx0
theorem names_ltX{X:Type}{most:Nat}{ck:X→Int}{nm:X→List UInt8}{s:List X}(h:ckAll most ck nm s=0):∀(d i:Nat)(x y:X),s[i]?=some x→s[i+d+1]?=some y→Op.bytesLess (nm x) (nm y)=true:=by
 have h0:ckAl ck nm s 0 s=0:=by
  unfold ckAll at h
  split at h
  ·exact h
  ·cases h
 intro d
 induction d with
 |zero=>intro i x y hx hy;exact ckAl_ordX h0 rfl i y x (by omega) hy hx
 |succ d ih=>
  intro i x y hx hy
  obtain⟨z,hz⟩:∃z,s[i+d+1]?=some z:=⟨s[i+d+1]'(by have:=(List.getElem?_eq_some_iff.1 hy).1;omega),List.getElem?_eq_getElem _⟩
  have a:=less_lt.1 (ih i x z hx hz)
  have b:=less_lt.1 (ckAl_ordX h0 rfl (i+d+1) y z (by omega) hy hz)
  exact less_lt.2 (List.lt_trans a b)
theorem ck_srt{s:St}(h:ckSt s=0):srtP s.pods:=by
 have h1:ckAll 128 ckPd Pod.name s.pods=0:=firstE_zero h _ (by simp)
 refine List.pairwise_iff_getElem.2 fun i j hi hj hij=> ?_
 exact names_ltX h1 (j-i-1) i _ _ (List.getElem?_eq_getElem hi) (by rw[show i+(j-i-1)+1=j by omega];exact List.getElem?_eq_getElem hj)
end Go.Aa.T
set_option linter.unusedVariables false
set_option linter.unusedSimpArgs false
set_option maxRecDepth 100000
namespace Go.Aa.T
open Go.Aa Go.Proofs
end Go.Aa.T
set_option linter.unusedVariables false
set_option linter.unusedSimpArgs false
set_option maxRecDepth 100000
namespace Go.Aa.T
open Go.Aa Go.Proofs
end Go.Aa.T
set_option linter.unusedVariables false
set_option linter.unusedSimpArgs false
set_option maxRecDepth 100000
namespace Go.Aa.T
open Go.Aa Go.Proofs
end Go.Aa.T
set_option linter.unusedVariables false
set_option linter.unusedSimpArgs false
set_option maxRecDepth 100000
namespace Go.Aa.T
open Go.Aa Go.Proofs
def mvP(nm nd:List UInt8)(p:Pod):Pod:=if p.name=nm then{p with node:=nd}else p
def moveS(s:St)(nm nd:List UInt8):St:={s with pods:=s.pods.map (mvP nm nd)}
theorem pcs_set9(nd:List UInt8):∀(C:List Pod)(j:Nat)(p:Pod),C[j]?=some p→(pcs C).take (j*11+9)++[.str nd]++(pcs C).drop (j*11+9+1)=pcs (C.set j {p with node:=nd})
 |[],j,p,h=>by simp at h
 |c::C,0,p,h=>by
  have hc:c=p:=by simpa using h
  subst hc
  have e1:pcs (c::C)=(encPd c).cells++pcs C:=by simp[pcs,rowCells]
  have e2:pcs ((c::C).set 0 {c with node:=nd})=(encPd {c with node:=nd}).cells++pcs C:=by simp[pcs,rowCells]
  rw[e1,e2]
  rfl
 |c::C,j+1,p,h=>by
  have e1:pcs (c::C)=(encPd c).cells++pcs C:=by simp[pcs,rowCells]
  have e2:pcs ((c::C).set (j+1) {p with node:=nd})=(encPd c).cells++pcs (C.set j {p with node:=nd}):=by simp[pcs,rowCells]
  have ih:=pcs_set9 nd C j p (by simpa using h)
  have e3:(encPd c).cells.length=11:=rfl
  rw[e1,e2,←ih,List.take_append,e3,List.take_of_length_le (by rw[e3];omega),show(j+1)*11+9-11=j*11+9 by omega,List.drop_append,e3,List.drop_eq_nil_of_le (by rw[e3];omega),List.nil_append,show(j+1)*11+9+1-11=j*11+9+1 by omega]
  simp only[List.append_assoc]
theorem store9{B:List (List AV)}{kk:Nat}{C:List Pod}{j:Nat}{p:Pod}(nd:List UInt8)(hk:B[kk]?=some (pcs C))(hp:C[j]?=some p):Does cfg (.store 1 (.c (.ptr kk (0+j*11+9))) (.c (.str nd))) ⟨B,[],[]⟩ .undef ⟨B.set kk (pcs (C.set j {p with node:=nd})),[],[]⟩:=fun T=>by
 have hl:=pcs_len C
 have hj:=(List.getElem?_eq_some_iff.1 hp).1
 have:storeA 1 ⟨B,[],[]⟩ (.ptr kk (0+j*11+9)) (.str nd)=some ⟨B.set kk (pcs (C.set j {p with node:=nd})),[],[]⟩:=by
  simp only[storeA,hk,Nat.zero_add]
  rw[if_pos ⟨by omega,rfl,rfl,by omega⟩,paste_spec _ _ _ (by simp[AV.cells];omega)]
  rw[show(AV.str nd).cells=[.str nd]from rfl,show [AV.str nd].length=1 from rfl,pcs_set9 nd C j p hp]
 simp only[opStep,ev,this]
def mvC(nm nd:List UInt8)(l:List Pod)(i:Nat):List Pod:=(l.take i).map (mvP nm nd)++l.drop i
theorem mvC_at{nm nd:List UInt8}{l:List Pod}{i:Nat}{x:Pod}{post:List Pod}(hd:l.drop i=x::post):(mvC nm nd l i)[i]?=some x∧mvC nm nd l (i+1)=(mvC nm nd l i).set i (mvP nm nd x):=by
 have hlt:=drop_lt hd
 have hl:((l.take i).map (mvP nm nd)).length=i:=by simp;omega
 have hx:=drop_at hd
 constructor
 ·unfold mvC
  rw[List.getElem?_append_right (by omega),hl,Nat.sub_self,hd];rfl
 ·unfold mvC
  rw[List.set_append_right _ _ (by omega),hl,Nat.sub_self,hd,drop_next hd,List.take_add_one,hx]
  simp
theorem mvC_end{nm nd:List UInt8}{l:List Pod}{i:Nat}(h:l.length≤i):mvC nm nd l i=l.map (mvP nm nd):=by
 unfold mvC;rw[List.take_of_length_le h,List.drop_eq_nil_of_le h,List.append_nil]
def RetMv(s:St)(l:List Pod)(r:ARes×Heap):Prop:=∃bs,r=(.ret (stA s (.msl 2 0 l.length 11)),⟨bs,[],[]⟩)∧bs[2]?=some (pcs l)
theorem move_loop(s:St)(nm nd:List UInt8)(hs:s.pods.length≤1000):∀(post:List Pod)(i:Nat)(ex:List (List AV))(hd:s.pods.drop i=post)(T:Env)
 (hT:Has T [(1,.str nm),(2,.str nd),(3,.ptr 0 0),(6,.ptr 1 0),(14,.msl 2 0 s.pods.length 11),(15,.int .i64 s.pods.length),(16,.int .i64 i)]),
 Goes cfg a48 k48_0 T ⟨stC s (.msl 2 0 s.pods.length 11)::pzc::pcs (mvC nm nd s.pods i)::ex,[],[]⟩ (RetMv s (s.pods.map (mvP nm nd))):=by
 intro post
 induction post with
 |nil=>
  intro i ex hd T hT
  have hge:=drop_ge hd
  rw[mvC_end hge]
  have out:∀b0 b1,RetMv s (s.pods.map (mvP nm nd)) (.ret (stA s (.msl 2 0 s.pods.length 11)),⟨b0::b1::pcs (s.pods.map (mvP nm nd))::ex,[],[]⟩):=fun b0 b1=>⟨_,by rw[List.length_map],rfl⟩
  generalize pcs (s.pods.map (mvP nm nd))=Q at out⊢
  exact let ζ1:List AV:=[.sl .sh (s.nodes.map encN),.msl (2:Nat) (0:Nat) s.pods.length (11:Nat),.sl .sh (s.buds.map encB)];let ζ2:Heap:={boxes:=ζ1::[.sl .full [],.sl .full [],.sl .full []]::Q::ex,toks:=[],loops:=[]:Heap};let ζ3:Heap:={boxes:=ζ1::ζ1::Q::ex,toks:=[],loops:=[]:Heap};goG 90 _ hT (.no (decide_eq_false (p:=(↑i:Int)<(↑s.pods.length:Int)) (by omega))<|.load (show loadA true 3 ζ2 (.ptr 0 0)=some (.agg ζ1)from load_box (cs:=ζ1) (by simp+zetaDelta) rfl)<|.store (show storeA 3 ζ2 (.ptr 1 0) (.agg ζ1)=some (ζ3)from store_box2 (cs:=[.sl .full [],.sl .full [],.sl .full []]) (cs':=ζ1) (by simp+zetaDelta) rfl (by simp+zetaDelta [List.set_append]))<|.fin ((.ret (.agg ζ1),ζ3)) (by exact out _ _)) (by kernel_rfl)
 |cons x post ih=>
  intro i ex hd T hT
  have hlt:=drop_lt hd
  have hnx:=drop_next hd
  obtain⟨hat,hst⟩:=mvC_at (nm:=nm) (nd:=nd) hd
  have ld:=loadP (B:=stC s (.msl 2 0 s.pods.length 11)::pzc::pcs (mvC nm nd s.pods i)::ex) (kk:=2) (Z:=[]) (by rw[List.append_nil];rfl) hat
  have i1:idxA 11 (.msl 2 0 s.pods.length 11) (.int .i64 (i:Nat))=some (.ptr 2 (0+i*11)):=idx_msl (by omega)
  have inc:=inc_i (i:=i) (by omega)
  have ih':=fun ex=>ih (i+1) ex hnx
  by_cases h:x.name=nm
  ·have em:mvP nm nd x={x with node:=nd}:=if_pos h
   rw[em]at hst
   have st:=fun(ex:List (List AV))=>store9 (B:=stC s (.msl 2 0 s.pods.length 11)::pzc::pcs (mvC nm nd s.pods i)::ex) (kk:=2) nd rfl hat
   rw[←hst]at st
   have st':∀ex,Does cfg (.store 1 (.c (.ptr 2 (0+i*11+9))) (.c (.str nd))) ⟨stC s (.msl 2 0 s.pods.length 11)::pzc::pcs (mvC nm nd s.pods i)::ex,[],[]⟩ .undef ⟨stC s (.msl 2 0 s.pods.length 11)::pzc::pcs (mvC nm nd s.pods (i+1))::ex,[],[]⟩:=st
   generalize pcs (mvC nm nd s.pods i)=Q at*
   generalize pcs (mvC nm nd s.pods (i+1))=Q2 at*
   exact let ζ1:List AV:=[.str x.name,.str x.owner,.int .i64 x.prio,.sl .sh (x.need.map encA),.sl .sh (x.labels.map encP),.sl .sh (x.sel.map encM),.sl .sh (x.tols.map encL),.str x.key,.int .i64 x.most,.str x.node,.bool x.hold];let ζ2:List AV:=[.sl .sh (s.nodes.map encN),.msl (2:Nat) (0:Nat) s.pods.length (11:Nat),.sl .sh (s.buds.map encB)];let ζ3:List AV:=[.sl .full [],.sl .full [],.sl .full []];let ζ4:List AV:=[.str [],.str [],.int .i64 0,.sl .full [],.sl .full [],.sl .full [],.sl .full [],.str [],.int .i64 0,.str [],.bool false];let ζ5:Heap:={boxes:=ζ2::ζ3::Q::(ex++[ζ1]),toks:=[],loops:=[]:Heap};let ζ6:Heap:={boxes:=stC s (.msl (2:Nat) (0:Nat) s.pods.length (11:Nat))::pzc::Q::ex,toks:=[],loops:=[]:Heap};goG 120 _ hT (.yes (decide_eq_true (p:=(↑i:Int)<(↑s.pods.length:Int)) (by omega))<|.idx (show idxA 11 (.msl (2:Nat) (0:Nat) s.pods.length (11:Nat)) (.int .i64 ↑i)=some (.ptr (2:Nat) ((0:Nat)+i*(11:Nat)))from i1)<|.effY (show Does cfg (.load true (11:Nat) (.c (.ptr (2:Nat) ((0:Nat)+i*(11:Nat))))) ζ6 (encPd x) ζ6 from ld)<|.store (show storeA 11 {boxes:=ζ2::ζ3::Q::(ex++[ζ4]),toks:=[],loops:=[]:Heap} (.ptr (ζ2::ζ3::Q::ex).length (0:Nat)) (.agg ζ1)=some (ζ5)from store_box2 (cs:=ζ4) (cs':=ζ1) (by simp+zetaDelta) rfl (by simp+zetaDelta [List.set_append]))<|.load (show loadA false 1 ζ5 (.ptr (ζ2::ζ3::Q::ex).length (0:Nat))=some (.str x.name)from load_box (cs:=ζ1) (by simp+zetaDelta) rfl)<|.yes (show(x.name==nm)=true from(by simpa using h))<|.load (show loadA false 1 ζ5 (.ptr 0 1)=some (.msl (2:Nat) (0:Nat) s.pods.length (11:Nat))from load_box (cs:=ζ2) (by simp+zetaDelta) rfl)<|.idx (show idxA 11 (.msl (2:Nat) (0:Nat) s.pods.length (11:Nat)) (.int .i64 ↑i)=some (.ptr (2:Nat) ((0:Nat)+i*(11:Nat)))from i1)<|.effY (show Does cfg (.store (1:Nat) (.c (.ptr (2:Nat) ((0:Nat)+i*(11:Nat)+(9:Nat)))) (.c (.str nd))) {boxes:=stC s (.msl (2:Nat) (0:Nat) s.pods.length (11:Nat))::pzc::Q::(ex++[ζ1]),toks:=[],loops:=[]:Heap} .undef {boxes:=stC s (.msl (2:Nat) (0:Nat) s.pods.length (11:Nat))::pzc::Q2::(ex++[ζ1]),toks:=[],loops:=[]:Heap}from st' _)<|.bin (show binA .add (.int .i64 ↑i) (.int .i64 1)=some (.int .i64 (↑(i+1)))from inc)<|.cutQ k48_0 [(1,.str nm),(2,.str nd),(3,.ptr 0 0),(6,.ptr 1 0),(14,.msl (2:Nat) (0:Nat) s.pods.length (11:Nat)),(15,.int .i64 (↑s.pods.length)),(16,.int .i64 (↑(i+1)))] ({boxes:=ζ2::ζ3::Q2::(ex++[ζ1]),toks:=[],loops:=[]:Heap}) (fun T hT=>(ih' (ex++[ζ1]) T hT))) (by kernel_rfl)
  ·have em:mvP nm nd x=x:=if_neg h
   have e2:mvC nm nd s.pods (i+1)=mvC nm nd s.pods i:=by
    rw[hst,em]
    obtain⟨h1,h2⟩:=List.getElem?_eq_some_iff.1 hat
    conv=>rhs;rw[←List.set_getElem_self h1]
    rw[h2]
   rw[e2]at ih'
   generalize pcs (mvC nm nd s.pods i)=Q at*
   exact let ζ1:List AV:=[.str x.name,.str x.owner,.int .i64 x.prio,.sl .sh (x.need.map encA),.sl .sh (x.labels.map encP),.sl .sh (x.sel.map encM),.sl .sh (x.tols.map encL),.str x.key,.int .i64 x.most,.str x.node,.bool x.hold];let ζ2:List AV:=[.sl .sh (s.nodes.map encN),.msl (2:Nat) (0:Nat) s.pods.length (11:Nat),.sl .sh (s.buds.map encB)];let ζ4:List AV:=[.str [],.str [],.int .i64 0,.sl .full [],.sl .full [],.sl .full [],.sl .full [],.str [],.int .i64 0,.str [],.bool false];let ζ5:Heap:={boxes:=stC s (.msl (2:Nat) (0:Nat) s.pods.length (11:Nat))::pzc::Q::ex,toks:=[],loops:=[]:Heap};let ζ6:List AV:=[.sl .full [],.sl .full [],.sl .full []];let ζ3:Heap:={boxes:=ζ2::ζ6::Q::(ex++[ζ1]),toks:=[],loops:=[]:Heap};goG 120 _ hT (.yes (decide_eq_true (p:=(↑i:Int)<(↑s.pods.length:Int)) (by omega))<|.idx (show idxA 11 (.msl (2:Nat) (0:Nat) s.pods.length (11:Nat)) (.int .i64 ↑i)=some (.ptr (2:Nat) ((0:Nat)+i*(11:Nat)))from i1)<|.effY (show Does cfg (.load true (11:Nat) (.c (.ptr (2:Nat) ((0:Nat)+i*(11:Nat))))) ζ5 (encPd x) ζ5 from ld)<|.store (show storeA 11 {boxes:=ζ2::ζ6::Q::(ex++[ζ4]),toks:=[],loops:=[]:Heap} (.ptr (ζ2::ζ6::Q::ex).length (0:Nat)) (.agg ζ1)=some (ζ3)from store_box2 (cs:=ζ4) (cs':=ζ1) (by simp+zetaDelta) rfl (by simp+zetaDelta [List.set_append]))<|.load (show loadA false 1 ζ3 (.ptr (ζ2::ζ6::Q::ex).length (0:Nat))=some (.str x.name)from load_box (cs:=ζ1) (by simp+zetaDelta) rfl)<|.no (show(x.name==nm)=false from Bool.eq_false_iff.2 (by simpa using h))<|.bin (show binA .add (.int .i64 ↑i) (.int .i64 1)=some (.int .i64 (↑(i+1)))from inc)<|.cutQ k48_0 [(1,.str nm),(2,.str nd),(3,.ptr 0 0),(6,.ptr 1 0),(14,.msl (2:Nat) (0:Nat) s.pods.length (11:Nat)),(15,.int .i64 (↑s.pods.length)),(16,.int .i64 (↑(i+1)))] (ζ3) (fun T hT=>(ih' (ex++[ζ1]) T hT))) (by kernel_rfl)
end Go.Aa.T
set_option linter.unusedVariables false
set_option linter.unusedSimpArgs false
set_option maxRecDepth 100000
namespace Go.Aa.T
open Go.Aa Go.Proofs
theorem move_gives(s:St)(nm nd:List UInt8)(hs:s.pods.length≤1000):GivesF cfg 48 [encSt s,.str nm,.str nd] (encSt (moveS s nm nd)):=by
 obtain⟨nodes,pods,buds⟩:=s
 have hT:Tame [(encSt ⟨nodes,pods,buds⟩).cells,pzc]:=tame_data rfl
 by_cases hp:pods=[]
 ·subst hp
  have h1:=clone_none [(encSt ⟨nodes,[],buds⟩).cells,pzc] hT
  have lp:∀(T:Env)(hT:Has T [(1,.str nm),(2,.str nd),(3,.ptr 0 0),(6,.ptr 1 0),(14,.sl .nil []),(15,.int .i64 ((([]:List AV).length:Nat):Int)),(16,.int .i64 0)]),Goes cfg a48 k48_0 T ⟨[stC ⟨nodes,[],buds⟩ (.sl .nil []),pzc],[],[]⟩ (fun r=>∃bs,r=(.ret (stA ⟨nodes,[],buds⟩ (.sl .nil [])),⟨bs,[],[]⟩)):=by
   intro T hT
   exact let ζ1:List AV:=[.sl .sh (List.map encN {nodes:=nodes,pods:=[],buds:=buds:St}.nodes),.sl .nil [],.sl .sh (List.map encB {nodes:=nodes,pods:=[],buds:=buds:St}.buds)];goG 60 _ hT (.ff<|.fin ((.ret (.agg ζ1),{boxes:=[ζ1,ζ1],toks:=[],loops:=[]:Heap})) (by exact⟨_,rfl⟩)) (by kernel_rfl)
  have key:Goes cfg a48 [.c c48] (initEnv [encSt ⟨nodes,[],buds⟩,.str nm,.str nd]) Heap.nil (fun r=>∃bs,r=(.ret (stA ⟨nodes,[],buds⟩ (.sl .nil [])),⟨bs,[],[]⟩)):=by
   exact let ζ1:Heap:={boxes:=[(encSt {nodes:=nodes,pods:=[],buds:=buds:St}).cells,pzc],toks:=[],loops:=[]:Heap};goG 60 [] trivial (.effY (show Does cfg (.callM (.c (.func (90:FuncId) [])) [.c (.sl .sh [])]) ζ1 (.sl .nil []) ζ1 from h1)<|.len (show lenA false (.sl .nil [])=some (.int .i64 (↑[].length:Int))from len_sl _ _)<|.cutQ k48_0 [(1,.str nm),(2,.str nd),(3,.ptr 0 0),(6,.ptr 1 0),(14,.sl .nil []),(15,.int .i64 (↑[].length:Int)),(16,.int .i64 0)] ({boxes:=[[.sl .sh (List.map encN {nodes:=nodes,pods:=[],buds:=buds:St}.nodes),.sl .nil [],.sl .sh (List.map encB {nodes:=nodes,pods:=[],buds:=buds:St}.buds)],[.sl .full [],.sl .full [],.sl .full []]],toks:=[],loops:=[]:Heap}) (fun T hT=>(lp T hT))) (by kernel_rfl)
  obtain⟨r,h,bs,rfl⟩:=key
  exact⟨_,_,(l48 _ _).trans h,out_stA rfl rfl rfl⟩
 ·have h1:Does cfg (.callM (.c (.func 90 [])) [.c (.sl .sh (pods.map encPd))]) ⟨[(encSt ⟨nodes,pods,buds⟩).cells,pzc],[],[]⟩ (.msl 2 0 pods.length 11) ⟨[(encSt ⟨nodes,pods,buds⟩).cells,pzc,pcs pods],[],[]⟩:=clone_any hp (by simp only at hs;omega) [(encSt ⟨nodes,pods,buds⟩).cells,pzc]
  have lp:=move_loop ⟨nodes,pods,buds⟩ nm nd hs pods 0 [] rfl
  have e0:mvC nm nd pods 0=pods:=by simp[mvC]
  have e1:mvC nm nd (St.mk nodes pods buds).pods 0=pods:=e0
  rw[e1]at lp
  have key:Goes cfg a48 [.c c48] (initEnv [encSt ⟨nodes,pods,buds⟩,.str nm,.str nd]) Heap.nil (RetMv ⟨nodes,pods,buds⟩ (pods.map (mvP nm nd))):=by
   generalize pcs pods=Q at h1 lp
   exact goG 60 [] trivial (.effY (show Does cfg (.callM (.c (.func (90:FuncId) [])) [.c (.sl .sh (pods.map encPd))]) {boxes:=[(encSt {nodes:=nodes,pods:=pods,buds:=buds:St}).cells,pzc],toks:=[],loops:=[]:Heap} (.msl (2:Nat) (0:Nat) pods.length (11:Nat)) {boxes:=[(encSt {nodes:=nodes,pods:=pods,buds:=buds:St}).cells,pzc,Q],toks:=[],loops:=[]:Heap}from h1)<|.len (rfl:lenA false (.msl (2:Nat) (0:Nat) pods.length (11:Nat))=some (.int .i64 (↑pods.length)))<|.cutQ k48_0 [(1,.str nm),(2,.str nd),(3,.ptr 0 0),(6,.ptr 1 0),(14,.msl (2:Nat) (0:Nat) pods.length (11:Nat)),(15,.int .i64 (↑pods.length)),(16,.int .i64 0)] ({boxes:=[[.sl .sh (List.map encN {nodes:=nodes,pods:=pods,buds:=buds:St}.nodes),.msl (2:Nat) (0:Nat) pods.length (11:Nat),.sl .sh (List.map encB {nodes:=nodes,pods:=pods,buds:=buds:St}.buds)],[.sl .full [],.sl .full [],.sl .full []],Q],toks:=[],loops:=[]:Heap}) (fun T hT=>(lp T hT))) (by kernel_rfl)
  obtain⟨r,h,bs,rfl,hk⟩:=key
  exact⟨_,_,(l48 _ _).trans h,out_stA rfl rfl (frz_pods (Z:=[]) (by rw[List.append_nil];exact hk) rfl)⟩
end Go.Aa.T
set_option linter.unusedVariables false
set_option linter.unusedSimpArgs false
set_option maxRecDepth 100000
namespace Go.Aa.T
open Go.Aa Go.Proofs
theorem gf48{a b:St}{nm nd:List UInt8}(h:GivesF cfg 48 [encSt a,.str nm,.str nd] (encSt b))(H:Heap):Does cfg (.call (.c (.func 48 [])) [.c (encSt a),.c (.str nm),.c (.str nd)]) H (encSt b) H:=does_callF h rfl rfl H
end Go.Aa.T
set_option linter.unusedVariables false
set_option linter.unusedSimpArgs false
set_option maxRecDepth 100000
namespace Go.Aa.T
open Go.Aa Go.Proofs
structure POk(v:List Amount):Prop where
 name:∀x∈v,isName x.name=true
 pos:∀x∈v,0<x.n
 rise:Rise (nms v)
theorem VOk.p{v:List Amount}(h:VOk v):POk v:=⟨h.name,h.pos,h.rise⟩
theorem POk.v{v:List Amount}(h:POk v)(hl:v.length≤8):VOk v:=⟨hl,h.name,h.pos,h.rise⟩
theorem vok_nil:VOk []:=⟨by simp,by simp,by simp,by simp[Rise]⟩
theorem rise_len{l m:List (List UInt8)}(hl:Rise l)(hm:Rise m)(h:∀x∈l,x∈m):l.length≤m.length:=by
 have e:l=m.filter fun x=>decide (x∈l):=rise_ext hl (hm.filter _) fun x=>by
  simp only[List.mem_filter,decide_eq_true_eq]
  exact⟨fun hx=>⟨h x hx,hx⟩,fun hx=>hx.2⟩
 rw[e];exact List.length_filter_le _ _
theorem names_congr{l m:List (List UInt8)}(h:∀x,x∈l↔x∈m):namesOf l=namesOf m:=
 namesOf_eq (namesOf_rise m) fun x=>(h x).trans namesOf_mem.symm
theorem names_sub{l m:List (List UInt8)}(h:∀x∈l,x∈m):(namesOf l).length≤(namesOf m).length:=
 rise_len (namesOf_rise l) (namesOf_rise m) fun x hx=>namesOf_mem.2 (h x (namesOf_mem.1 hx))
theorem pok_pos{v:List Amount}(h:POk v){s:List UInt8}:s∈nms v↔0<getQ v s:=by
 constructor
 ·intro hs
  obtain⟨x,hx,-,e⟩:=getQ_some hs
  rw[e];exact h.pos x hx
 ·intro hs
  by_cases hm:s∈nms v
  ·exact hm
  ·rw[getQ_none hm]at hs;omega
theorem pok_nn{v:List Amount}(h:POk v)(s:List UInt8):0≤getQ v s:=by
 by_cases hm:s∈nms v
 ·have:=(pok_pos h).1 hm;omega
 ·rw[getQ_none hm];omega
theorem getQ_mem:∀{v:List Amount},Rise (nms v)→∀x∈v,getQ v x.name=x.n
 |[],_,x,hx=>by cases hx
 |y::v,h,x,hx=>by
  rw[getQ_cons]
  rcases List.mem_cons.1 hx with rfl|hx
  ·rw[if_pos rfl]
  ·rw[if_neg,getQ_mem (List.Pairwise.of_cons h) x hx]
   intro e
   have:=List.rel_of_pairwise_cons h (List.mem_map.2 ⟨x,hx,rfl⟩)
   rw[e,bl_irrefl]at this
   cases this
theorem self_map{v:List Amount}(h:POk v):v=(nms v).map fun s=>⟨s,getQ v s⟩:=by
 rw[List.map_map]
 conv=>lhs;rw[←List.map_id v]
 exact List.map_congr_left fun x hx=>by simp[getQ_mem h.rise x hx]
theorem pok_ext{a b:List Amount}(ha:POk a)(hb:POk b)(h:∀s,getQ a s=getQ b s):a=b:=by
 have e:nms a=nms b:=rise_ext ha.rise hb.rise fun s=>by rw[pok_pos ha,pok_pos hb,h]
 rw[self_map ha,self_map hb,e]
 exact List.map_congr_left fun s _=>by rw[h]
def mk1(g:OfQ)(l:List (List UInt8)):List Amount:=(l.filter fun s=>decide (0<(g s).1)).map fun s=>⟨s,(g s).1⟩
theorem madeF_ok{g:OfQ}:∀{l:List (List UInt8)}(acc:List Amount),(∀s∈l,(g s).2=0)→madeF g l acc=(acc++mk1 g l,0)
 |[],acc,_=>by simp[madeF,mk1]
 |s::l,acc,h=>by
  unfold madeF
  rw[if_pos (h s (by simp)),madeF_ok _ fun t ht=>h t (by simp[ht])]
  by_cases hp:0<(g s).1<;>simp[mk1,hp]
theorem madeF_zero{g:OfQ}:∀{l:List (List UInt8)}{acc:List Amount},(madeF g l acc).2=0→∀s∈l,(g s).2=0
 |[],acc,_,s,hs=>by cases hs
 |t::l,acc,h,s,hs=>by
  unfold madeF at h
  split at h
  ·rename_i h0
   rcases List.mem_cons.1 hs with rfl|hs
   ·exact h0
   ·exact madeF_zero h s hs
  ·rename_i h0;exact absurd h h0
theorem nms_mk1(g:OfQ)(l:List (List UInt8)):nms (mk1 g l)=l.filter fun s=>decide (0<(g s).1):=by
 simp only[nms,mk1,List.map_map]
 conv=>rhs;rw[←List.map_id (l.filter _)]
 rfl
theorem mk1_ok{g:OfQ}{l:List (List UInt8)}(hr:Rise l)(hn:∀s∈l,isName s=true):POk (mk1 g l):=by
 refine⟨fun x hx=> ?_,fun x hx=> ?_,?_⟩
 ·obtain⟨s,hs,rfl⟩:=List.mem_map.1 hx
  exact hn s (List.mem_filter.1 hs).1
 ·obtain⟨s,hs,rfl⟩:=List.mem_map.1 hx
  simpa using(List.mem_filter.1 hs).2
 ·rw[nms_mk1];exact hr.filter _
theorem mk1_get{g:OfQ}{l:List (List UInt8)}(hr:Rise l)(hn:∀s∈l,isName s=true)(s:List UInt8)(h0:0≤(g s).1)(hx:s∉l→(g s).1=0):getQ (mk1 g l) s=(g s).1:=by
 by_cases hs:s∈nms (mk1 g l)
 ·obtain⟨x,hx,e1,e2⟩:=getQ_some hs
  obtain⟨t,ht,rfl⟩:=List.mem_map.1 hx
  rw[e2];simp only at e1⊢;rw[e1]
 ·rw[getQ_none hs]
  rw[nms_mk1]at hs
  by_cases hl:s∈l
  ·have:¬0<(g s).1:=fun h=>hs (List.mem_filter.2 ⟨hl,by simpa using h⟩)
   omega
  ·exact(hx hl).symm
theorem fin_ok{l:List Amount}(h:l.length≤8):finV (l,0)=(l,0):=by
 unfold finV;rw[if_pos rfl,if_neg (by simp only;omega)]
theorem made_two{g:OfQ}{a b:List Amount}(oa:VOk a)(ob:VOk b):madeV g [a,b]=finV (madeF g (namesOf (nms a++nms b)) []):=by
 have e:allNames [a,b]=nms a++nms b:=by simp[allNames]
 unfold madeV
 rw[if_pos (by simp[firstE,ckV_of oa,ckV_of ob]),e]
theorem two_name{a b:List Amount}(oa:VOk a)(ob:VOk b):∀s∈namesOf (nms a++nms b),isName s=true:=fun s hs=>by
 rcases List.mem_append.1 (namesOf_mem.1 hs)with h|h
 ·obtain⟨x,hx,rfl⟩:=List.mem_map.1 h;exact oa.name x hx
 ·obtain⟨x,hx,rfl⟩:=List.mem_map.1 h;exact ob.name x hx
theorem addQ_nn{a b:Int}(ha:0≤a)(hb:0≤b):addQ a b=toldQ (a+b):=by
 unfold addQ bothE;rw[if_neg (show¬a<0 by omega),if_neg (show¬b<0 by omega),if_neg (by simp)]
theorem told_ok{n:Int}(h:n≤9223372036854775807):toldQ n=(n,0):=by unfold toldQ;rw[if_neg (by omega)]
theorem told_zero{n:Int}(h:(toldQ n).2=0):n≤9223372036854775807:=by
 unfold toldQ at h;split at h
 ·cases h
 ·omega
theorem add_nms{a b:List Amount}(oa:VOk a)(ob:VOk b)(hs:∀s,getQ a s+getQ b s≤9223372036854775807):
 (namesOf (nms a++nms b)).filter (fun s=>decide (0<(addQ (getQ a s) (getQ b s)).1))=namesOf (nms a++nms b):=by
 refine List.filter_eq_self.2 fun s hx=> ?_
 have pa:=pok_nn oa.p s
 have pb:=pok_nn ob.p s
 rw[addQ_nn pa pb,told_ok (hs s)]
 have:0<getQ a s+getQ b s:=by
  rcases List.mem_append.1 (namesOf_mem.1 hx)with h|h
  ·have:=(pok_pos oa.p).1 h;omega
  ·have:=(pok_pos ob.p).1 h;omega
 simpa using this
theorem add_ok{a b:List Amount}(oa:VOk a)(ob:VOk b)(hs:∀s,getQ a s+getQ b s≤9223372036854775807)(hl:(namesOf (nms a++nms b)).length≤8):
 ∃r,addV a b=(r,0)∧VOk r∧(∀s,getQ r s=getQ a s+getQ b s)∧nms r=namesOf (nms a++nms b):=by
 have pa:=pok_nn oa.p
 have pb:=pok_nn ob.p
 have hr:=namesOf_rise (nms a++nms b)
 have hn:=two_name oa ob
 have hg:∀s,addQ (getQ a s) (getQ b s)=(getQ a s+getQ b s,0):=fun s=>by rw[addQ_nn (pa s) (pb s),told_ok (hs s)]
 have e2:=nms_mk1 (fun s=>addQ (getQ a s) (getQ b s)) (namesOf (nms a++nms b))
 rw[add_nms oa ob hs]at e2
 have e3:(mk1 (fun s=>addQ (getQ a s) (getQ b s)) (namesOf (nms a++nms b))).length≤8:=by rw[←e2]at hl;simpa using hl
 refine⟨mk1 (fun s=>addQ (getQ a s) (getQ b s)) (namesOf (nms a++nms b)),?_,(mk1_ok hr hn).v e3,fun s=> ?_,e2⟩
 ·unfold addV
  rw[made_two oa ob,madeF_ok _ fun s _=>by simp only[hg],List.nil_append,fin_ok e3]
 ·rw[mk1_get hr hn s (by simp only[hg];have:=pa s;have:=pb s;omega),hg]
  intro hx
  simp only[hg]
  rw[getQ_none fun h=>hx (namesOf_mem.2 (List.mem_append.2 (.inl h))),getQ_none fun h=>hx (namesOf_mem.2 (List.mem_append.2 (.inr h)))]
  rfl
theorem add_zero{a b:List Amount}(oa:VOk a)(ob:VOk b)(h:(addV a b).2=0):(∀s,getQ a s+getQ b s≤9223372036854775807)∧(namesOf (nms a++nms b)).length≤8:=by
 have pa:=pok_nn oa.p
 have pb:=pok_nn ob.p
 unfold addV at h
 rw[made_two oa ob]at h
 have h0:(madeF (fun s=>addQ (getQ a s) (getQ b s)) (namesOf (nms a++nms b)) []).2=0:=by
  unfold finV at h;split at h
  ·rename_i h0;exact h0
  ·exact h
 have h1:=madeF_zero h0
 have hs:∀s,getQ a s+getQ b s≤9223372036854775807:=fun s=>by
  by_cases hm:s∈nms a++nms b
  ·have:=h1 s (namesOf_mem.2 hm)
   simp only[addQ_nn (pa s) (pb s)]at this
   exact told_zero this
  ·rw[getQ_none fun h=>hm (List.mem_append.2 (.inl h)),getQ_none fun h=>hm (List.mem_append.2 (.inr h))];omega
 refine⟨hs,?_⟩
 rw[madeF_ok _ h1,List.nil_append]at h
 have e2:=nms_mk1 (fun s=>addQ (getQ a s) (getQ b s)) (namesOf (nms a++nms b))
 rw[add_nms oa ob hs]at e2
 rw[←e2,List.length_map]
 unfold finV at h
 rw[if_pos rfl]at h
 split at h
 ·cases h
 ·rename_i h3;exact Nat.le_of_not_lt h3
def totQ:List (List Amount)→List UInt8→Int
 |[],_=>0
 |v::vs,s=>getQ v s+totQ vs s
theorem totQ_app(a b:List (List Amount))(s:List UInt8):totQ (a++b) s=totQ a s+totQ b s:=by
 induction a with
 |nil=>simp[totQ]
 |cons v a ih=>simp only[List.cons_append,totQ,ih];omega
theorem totQ_nn{vs:List (List Amount)}(h:∀v∈vs,VOk v)(s:List UInt8):0≤totQ vs s:=by
 induction vs with
 |nil=>simp[totQ]
 |cons v vs ih=>
  have:=pok_nn (h v (by simp)).p s
  have:=ih fun w hw=>h w (by simp[hw])
  simp only[totQ];omega
theorem allNames_app(a b:List (List Amount)):allNames (a++b)=allNames a++allNames b:=by simp[allNames]
structure SumOk(acc:List Amount)(vs:List (List Amount)):Prop where
 le:∀s,getQ acc s+totQ vs s≤9223372036854775807
 few:(namesOf (nms acc++allNames vs)).length≤8
theorem SumOk.head{acc v:List Amount}{vs:List (List Amount)}(h:SumOk acc (v::vs))(hv:∀v∈vs,VOk v):(∀s,getQ acc s+getQ v s≤9223372036854775807)∧(namesOf (nms acc++nms v)).length≤8:=by
 refine⟨fun s=> ?_,?_⟩
 ·have:=h.le s
  have:=totQ_nn hv s
  simp only[totQ]at*;omega
 ·refine Nat.le_trans (names_sub fun x hx=> ?_) h.few
  rw[allNames_cons]
  simp only[List.mem_append]at hx⊢
  rcases hx with h|h
  ·exact .inl h
  ·exact .inr (.inl h)
theorem sum_mem{acc v r:List Amount}{vs:List (List Amount)}(e:nms r=namesOf (nms acc++nms v)):namesOf (nms r++allNames vs)=namesOf (nms acc++allNames (v::vs)):=
 names_congr fun x=>by rw[e,allNames_cons];simp only[List.mem_append,namesOf_mem,or_assoc]
theorem sum_ok:∀{vs:List (List Amount)}{acc:List Amount},VOk acc→(∀v∈vs,VOk v)→SumOk acc vs→∃r,sumG acc vs=(r,0)∧VOk r∧(∀s,getQ r s=getQ acc s+totQ vs s)∧nms r=namesOf (nms acc++allNames vs)
 |[],acc,oa,_,h=>⟨acc,rfl,oa,fun s=>by simp[totQ],by
    have:allNames []=[]:=rfl
    rw[this,List.append_nil]
    exact(namesOf_eq oa.rise fun x=>Iff.rfl).symm⟩
 |v::vs,acc,oa,ov,h=>by
  have ov':∀w∈vs,VOk w:=fun w hw=>ov w (by simp[hw])
  obtain⟨h1,h2⟩:=h.head ov'
  obtain⟨r,e,or,hr,hm⟩:=add_ok oa (ov v (by simp)) h1 h2
  obtain⟨r',e',or',hr',hm'⟩:=sum_ok or ov' ⟨fun s=>by have:=h.le s;simp only[totQ]at this;rw[hr];omega,by rw[sum_mem hm];exact h.few⟩
  refine⟨r',?_,or',fun s=> ?_,by rw[hm',sum_mem hm]⟩
  ·unfold sumG;rw[e,if_pos rfl];exact e'
  ·rw[hr',hr];simp only[totQ];omega
theorem names_self{v:List Amount}(h:VOk v):namesOf (nms v)=nms v:=namesOf_eq h.rise fun x=>Iff.rfl
theorem sum_zero:∀{vs:List (List Amount)}{acc:List Amount},VOk acc→(∀s,getQ acc s≤9223372036854775807)→(∀v∈vs,VOk v)→(sumG acc vs).2=0→SumOk acc vs
 |[],acc,oa,hb,_,h=>⟨fun s=>by have:=hb s;simp only[totQ];omega,by
    have:allNames []=[]:=rfl
    rw[this,List.append_nil,names_self oa,List.length_map];exact oa.len⟩
 |v::vs,acc,oa,hb,ov,h=>by
  have ov':∀w∈vs,VOk w:=fun w hw=>ov w (by simp[hw])
  unfold sumG at h
  split at h
  ·rename_i h0
   obtain⟨h1,h2⟩:=add_zero oa (ov v (by simp)) h0
   obtain⟨r,e,or,hr,hm⟩:=add_ok oa (ov v (by simp)) h1 h2
   rw[e]at h
   have ih:=sum_zero or (fun s=>by rw[hr];exact h1 s) ov' h
   exact⟨fun s=>by have:=ih.le s;rw[hr]at this;simp only[totQ];omega,by rw[←sum_mem hm];exact ih.few⟩
  ·rename_i h0;exact absurd h h0
theorem sum0{vs:List (List Amount)}(ov:∀v∈vs,VOk v):(sumG [] vs).2=0↔SumOk [] vs:=
 ⟨sum_zero vok_nil (fun s=>by show(0:Int)≤_;omega) ov,fun h=>by obtain⟨r,e,-⟩:=sum_ok vok_nil ov h;rw[e]⟩
theorem fits_get{a b:List Amount}(oa:POk a)(ob:POk b):fitsV a b=true↔∀s,getQ a s≤getQ b s:=by
 unfold fitsV
 simp only[List.all_eq_true,decide_eq_true_eq]
 constructor
 ·intro h s
  by_cases hm:s∈nms a
  ·obtain⟨x,hx,rfl,e⟩:=getQ_some hm
   rw[e];exact h x hx
  ·rw[getQ_none hm];exact pok_nn ob s
 ·intro h x hx
  rw[←getQ_mem oa.rise x hx];exact h _
theorem sub_ok{a b:List Amount}(oa:VOk a)(ob:VOk b)(h:∀s,getQ b s≤getQ a s):
 ∃r,subV a b=(r,0)∧VOk r∧(∀s,getQ r s=getQ a s-getQ b s):=by
 have pa:=pok_nn oa.p
 have pb:=pok_nn ob.p
 have hr:=namesOf_rise (nms a++nms b)
 have hn:=two_name oa ob
 have hg:∀s,subQ (getQ a s) (getQ b s)=(getQ a s-getQ b s,0):=fun s=>by
  have:=pa s;have:=pb s;have:=h s
  unfold subQ bothE;rw[if_neg (show¬getQ a s<0 by omega),if_neg (show¬getQ b s<0 by omega),if_neg (by simp),if_neg (by omega)]
 have hp:=mk1_ok (g:=fun s=>subQ (getQ a s) (getQ b s)) hr hn
 have e2:=nms_mk1 (fun s=>subQ (getQ a s) (getQ b s)) (namesOf (nms a++nms b))
 have e3:(mk1 (fun s=>subQ (getQ a s) (getQ b s)) (namesOf (nms a++nms b))).length≤8:=by
  have hl:(nms (mk1 (fun s=>subQ (getQ a s) (getQ b s)) (namesOf (nms a++nms b)))).length≤(nms a).length:=rise_len hp.rise oa.rise fun x hx=>by
   rw[e2]at hx
   have:=(List.mem_filter.1 hx).2
   simp only[hg,decide_eq_true_eq]at this
   have:=pb x
   exact(pok_pos oa.p).2 (by omega)
  have:=oa.len
  simp only[List.length_map]at hl;omega
 refine⟨_,?_,hp.v e3,fun s=> ?_⟩
 ·unfold subV
  rw[made_two oa ob,madeF_ok _ fun s _=>by simp only[hg],List.nil_append,fin_ok e3]
 ·rw[mk1_get hr hn s (by simp only[hg];have:=h s;omega),hg]
  intro hx
  simp only[hg]
  rw[getQ_none fun h=>hx (namesOf_mem.2 (List.mem_append.2 (.inl h))),getQ_none fun h=>hx (namesOf_mem.2 (List.mem_append.2 (.inr h)))]
  rfl
theorem used_free{c u:List Amount}(oc:VOk c)(rc:rgA c)(ou:VOk u)(h:fitsV u c=true):∃f,subV c u=(f,0)∧VOk f∧addV u f=(c,0):=by
 have hle:=(fits_get ou.p oc.p).1 h
 obtain⟨f,e,of,hf⟩:=sub_ok oc ou hle
 have hs:∀s,getQ u s+getQ f s=getQ c s:=fun s=>by rw[hf];omega
 have hc:∀s,getQ c s≤9223372036854775807:=fun s=>(rg_get rc s).2
 have hl:(namesOf (nms u++nms f)).length≤8:=by
  have:=rise_len (namesOf_rise (nms u++nms f)) oc.rise fun x hx=>by
   have p1:=pok_nn ou.p x
   have p2:=pok_nn of.p x
   have p3:=hs x
   rcases List.mem_append.1 (namesOf_mem.1 hx)with h|h
   ·have:=(pok_pos ou.p).1 h;exact(pok_pos oc.p).2 (by omega)
   ·have:=(pok_pos of.p).1 h;exact(pok_pos oc.p).2 (by omega)
  have:=oc.len
  simp only[List.length_map]at*;omega
 obtain⟨r,e2,or,hr,-⟩:=add_ok ou of (fun s=>by rw[hs];exact hc s) hl
 refine⟨f,e,of,?_⟩
 rw[e2,pok_ext or.p oc.p fun s=>by rw[hr,hs]]
end Go.Aa.T
set_option linter.unusedVariables false
set_option linter.unusedSimpArgs false
set_option maxRecDepth 100000
namespace Go.Aa.T
open Go.Aa Go.Proofs
theorem find_uniq{X:Type}{most:Nat}{ck:X→Int}{nm:X→List UInt8}{s:List X}(h:ckAll most ck nm s=0){x:X}(hx:x∈s):findG nm s (nm x)=some x:=by
 obtain⟨y,hy⟩:∃y,findG nm s (nm x)=some y:=by
  cases e:findG nm s (nm x)with
  |some y=>exact⟨y,rfl⟩
  |none=>exact absurd (List.find?_eq_none.1 e x hx) (by simp)
 rw[hy]
 have hn:nm y=nm x:=by simpa using List.find?_some hy
 obtain⟨i,hi,ei⟩:=List.getElem_of_mem hx
 obtain⟨j,hj,ej⟩:=List.getElem_of_mem (List.mem_of_find?_eq_some hy)
 have ei':s[i]?=some x:=by rw[List.getElem?_eq_getElem hi,ei]
 have ej':s[j]?=some y:=by rw[List.getElem?_eq_getElem hj,ej]
 rcases Nat.lt_trichotomy i j with h1|h1|h1
 ·have:=names_ltX h (j-i-1) i x y ei' (by rw[show i+(j-i-1)+1=j by omega];exact ej')
  rw[hn,bl_irrefl]at this;cases this
 ·subst h1;rw[ei']at ej';exact ej'.symm
 ·have:=names_ltX h (i-j-1) j y x ej' (by rw[show j+(i-j-1)+1=i by omega];exact ei')
  rw[hn,bl_irrefl]at this;cases this
structure GdS(s:St):Prop where
 cap:∀n∈s.nodes,VOk n.cap
 need:∀p∈s.pods,VOk p.need
 name:∀n∈s.nodes,n.name≠[]
 find:∀n∈s.nodes,findG Node.name s.nodes n.name=some n
 pods:srtP s.pods
 room:∀n∈s.nodes,(usedS s n.name).2=0∧fitsV (usedS s n.name).1 n.cap=true
 total:(totalS s).2=0
theorem roomE_zero{s:St}:∀{l:List Node},roomE s l=0→∀n∈l,(usedS s n.name).2=0∧fitsV (usedS s n.name).1 n.cap=true
 |[],_,n,hn=>by cases hn
 |m::l,h,n,hn=>by
  unfold roomE at h
  split at h
  ·rename_i h0
   split at h
   ·rename_i h1
    rcases List.mem_cons.1 hn with rfl|hn
    ·exact⟨h0,h1⟩
    ·exact roomE_zero h n hn
   ·cases h
  ·rename_i h0;exact absurd h h0
theorem gdS{s:St}(h:ckSt s=0):GdS s:=by
 have h1:ckAll 32 ckN Node.name s.nodes=0:=firstE_zero h _ (by simp)
 have h2:ckAll 128 ckPd Pod.name s.pods=0:=firstE_zero h _ (by simp)
 exact⟨fun n hn=>vOk (firstE_zero ((ckAll_mem h1).2 n hn) _ (by simp)),fun p hp=>vOk (firstE_zero ((ckAll_mem h2).2 p hp) _ (by simp)),fun n hn=>ckN_name ((ckAll_mem h1).2 n hn),
  fun n hn=>find_uniq h1 hn,ck_srt h,roomE_zero (firstE_zero h _ (by simp)),firstE_zero h _ (by simp)⟩
def ndS(s:St)(nd:List UInt8):List (List Amount):=(onS s nd).map (·.need)
theorem GdS.nd{s:St}(g:GdS s)(nd:List UInt8):∀v∈ndS s nd,VOk v:=fun v hv=>by
 obtain⟨p,hp,rfl⟩:=List.mem_map.1 hv
 exact g.need p (List.mem_filter.1 hp).1
theorem used_at{s:St}{nd:List UInt8}{n:Node}(h:findG Node.name s.nodes nd=some n):usedS s nd=sumG [] (ndS s nd):=by unfold usedS;rw[h];rfl
theorem free_at{s:St}{nd:List UInt8}{n:Node}(h:findG Node.name s.nodes nd=some n)(h0:(usedS s nd).2=0):freeS s nd=subV n.cap (usedS s nd).1:=by
 unfold freeS freeG capOf;rw[if_pos h0,h]
theorem GdS.at_{s:St}(g:GdS s){n:Node}(hn:n∈s.nodes):∃u,usedS s n.name=(u,0)∧VOk u∧(∀z,getQ u z=totQ (ndS s n.name) z)∧nms u=namesOf (allNames (ndS s n.name))∧fitsV u n.cap=true:=by
 have hf:=g.find n hn
 obtain⟨h0,h1⟩:=g.room n hn
 rw[used_at hf]at h0 h1⊢
 obtain⟨u,e,ou,hu,hm⟩:=sum_ok vok_nil (g.nd _) ((sum0 (g.nd _)).1 h0)
 refine⟨u,e,ou,fun z=> ?_,hm,?_⟩
 ·rw[hu];show 0+_=_;omega
 ·rw[e]at h1;exact h1
theorem state_room1{s:St}(g:GdS s){n:Node}(hn:n∈s.nodes)(rc:rgA n.cap):∃u f,usedS s n.name=(u,0)∧freeS s n.name=(f,0)∧addV u f=(n.cap,0):=by
 obtain⟨u,e,ou,-,-,hfit⟩:=g.at_ hn
 obtain⟨f,ef,of,ea⟩:=used_free (g.cap n hn) rc ou hfit
 refine⟨u,f,e,?_,ea⟩
 rw[free_at (g.find n hn) (by rw[e]),e];exact ef
theorem srt_ne{l r:List Pod}{p:Pod}(h:srtP (l++p::r)):(∀x∈l,x.name≠p.name)∧∀x∈r,x.name≠p.name:=by
 obtain⟨-,h2,h3⟩:=List.pairwise_append.1 h
 refine⟨fun x hx e=> ?_,fun x hx e=> ?_⟩
 ·have:=h3 x hx p (by simp);rw[e,bl_irrefl]at this;cases this
 ·have:=List.rel_of_pairwise_cons h2 hx;rw[e,bl_irrefl]at this;cases this
theorem mv_other{nm nd:List UInt8}{l:List Pod}(h:∀x∈l,x.name≠nm):l.map (mvP nm nd)=l:=by
 conv=>rhs;rw[←List.map_id l]
 exact List.map_congr_left fun x hx=>by simp[mvP,h x hx]
theorem move_at{s:St}{nd:List UInt8}{l r:List Pod}{p:Pod}(h:s.pods=l++p::r)(hs:srtP s.pods):moveS s p.name nd={s with pods:=l++{p with node:=nd}::r}:=by
 rw[h]at hs
 obtain⟨h1,h2⟩:=srt_ne hs
 have:s.pods.map (mvP p.name nd)=l++{p with node:=nd}::r:=by
  rw[h,List.map_append,List.map_cons,mv_other h1,mv_other h2]
  simp[mvP]
 unfold moveS;rw[this]
theorem move_same{s:St}{l r:List Pod}{p:Pod}(h:s.pods=l++p::r)(hs:srtP s.pods):moveS s p.name p.node=s:=by
 rw[move_at h hs]
 have:l++{p with node:=p.node}::r=s.pods:=h.symm
 rw[this]
theorem move_nd{s:St}{nd:List UInt8}{l r:List Pod}{p:Pod}(h:s.pods=l++p::r)(hs:srtP s.pods)(hn:p.node≠nd)(h0:nd≠[]):
 ∃A B,ndS s nd=A++B∧ndS (moveS s p.name nd) nd=A++p.need::B:=by
 refine⟨(l.filter (onP nd)).map (·.need),(r.filter (onP nd)).map (·.need),?_,?_⟩
 ·have:onP nd p=false:=by simp[onP,hn]
  simp[ndS,onS,h,this]
 ·rw[move_at h hs]
  have:onP nd {p with node:=nd}=true:=by simp[onP,h0]
  simp[ndS,onS,this]
theorem tot_mid(A B:List (List Amount))(v:List Amount)(z:List UInt8):totQ (A++v::B) z=totQ (A++B) z+getQ v z:=by
 simp only[totQ_app,totQ];omega
theorem names_mid(A B:List (List Amount))(v u:List Amount)(h:nms u=namesOf (allNames (A++B))):namesOf (allNames (A++v::B))=namesOf (nms u++nms v):=
 names_congr fun x=>by
  rw[h]
  simp only[allNames_app,allNames_cons,List.mem_append,namesOf_mem]
  constructor
  ·rintro(h|h|h)
   ·exact .inl (.inl h)
   ·exact .inr h
   ·exact .inl (.inr h)
  ·rintro((h|h)|h)
   ·exact .inl h
   ·exact .inr (.inr h)
   ·exact .inr (.inl h)
theorem state_room2{s:St}(g:GdS s){n:Node}(hn:n∈s.nodes){p:Pod}(hp:p∈s.pods)(hne:p.node≠n.name):
 ∃u,usedS s n.name=(u,0)∧((usedS (moveS s p.name n.name) n.name).2=0↔(addV u p.need).2=0)∧
  ((usedS (moveS s p.name n.name) n.name).2=0→(usedS (moveS s p.name n.name) n.name).1=(addV u p.need).1):=by
 obtain⟨l,r,hl⟩:=List.append_of_mem hp
 obtain⟨u,e,ou,hu,hm,-⟩:=g.at_ hn
 obtain⟨A,B,e1,e2⟩:=move_nd hl g.pods hne (g.name n hn)
 have ov:=g.need p hp
 have hv:∀v∈A++p.need::B,VOk v:=fun v hv=>by
  have h3:=g.nd n.name
  rw[e1]at h3
  rcases List.mem_append.1 hv with h|h
  ·exact h3 v (List.mem_append.2 (.inl h))
  ·rcases List.mem_cons.1 h with rfl|h
   ·exact ov
   ·exact h3 v (List.mem_append.2 (.inr h))
 have e3:usedS (moveS s p.name n.name) n.name=sumG [] (A++p.need::B):=by
  rw[←e2];exact used_at (g.find n hn)
 have hz:∀z,totQ (A++p.need::B) z=getQ u z+getQ p.need z:=fun z=>by rw[tot_mid,←e1,hu]
 have hnm:=names_mid A B p.need u (by rw[hm,e1])
 have key:SumOk [] (A++p.need::B)↔(∀z,getQ u z+getQ p.need z≤9223372036854775807)∧(namesOf (nms u++nms p.need)).length≤8:=by
  constructor
  ·intro h
   refine⟨fun z=> ?_,?_⟩
   ·have h1:=h.le z
    have:getQ [] z=0:=rfl
    rw[hz,this]at h1;omega
   ·have:=h.few
    rw[←hnm];exact this
  ·rintro⟨h1,h2⟩
   refine⟨fun z=> ?_,?_⟩
   ·have:=h1 z
    have e0:getQ [] z=0:=rfl
    rw[hz,e0];omega
   ·rw[←hnm]at h2;exact h2
 have hi:(usedS (moveS s p.name n.name) n.name).2=0↔(addV u p.need).2=0:=by
  rw[e3,sum0 hv,key]
  exact⟨fun⟨h1,h2⟩=>by obtain⟨r,er,-⟩:=add_ok ou ov h1 h2;rw[er],fun h=>add_zero ou ov h⟩
 refine⟨u,e,hi,fun h=> ?_⟩
 rw[e3]at h⊢
 have hk:=(sum0 hv).1 h
 obtain⟨h1,h2⟩:=key.1 hk
 obtain⟨r1,er1,or1,hr1,-⟩:=sum_ok vok_nil hv hk
 obtain⟨r2,er2,or2,hr2,-⟩:=add_ok ou ov h1 h2
 rw[er1,er2]
 refine pok_ext or1.p or2.p fun z=> ?_
 have e0:getQ [] z=0:=rfl
 rw[hr1,hr2,hz,e0];omega
end Go.Aa.T
set_option linter.unusedVariables false
set_option linter.unusedSimpArgs false
set_option maxRecDepth 100000
namespace Go.Aa.T
open Go.Aa Go.Proofs
theorem move_in{s:St}(h:StIn s)(nm nd:List UInt8):StIn (moveS s nm nd):=by
 refine⟨h.nodes,by show(s.pods.map _).length≤_;rw[List.length_map];exact h.pods,h.cap,fun p hp=> ?_⟩
 obtain⟨x,hx,rfl⟩:=List.mem_map.1 hp
 have e:(mvP nm nd x).need=x.need:=by unfold mvP;split<;>rfl
 rw[e];exact h.need x hx
theorem room_end(s:St)(r:RgS s)(fs:FewS s)(hg:ckSt s=0)(a o:Nat)(ha:a<256)(ho:o<256)(hp1:1≤s.pods.length)(hn1:1≤s.nodes.length)(i:Nat)(hi:s.nodes.length≤i)(hi2:i≤1000)(T:Env)
 (hT:Has T [(1,.int .u8 a),(2,.int .u8 o),(3,.ptr 0 0),(7,.int .i64 i)]):
 Goes cfg a10 k10_0 T ⟨[(encSt s).cells],[],[]⟩ (IsRet (.bool true)):=by
 have hs:=stIn fs r
 have g:=gdS hg
 have fp:=fs.pods
 have fn:=fs.nodes
 have srt:=ck_srt hg
 have hkl:a%s.pods.length<s.pods.length:=Nat.mod_lt _ (by omega)
 have hjl:o%s.nodes.length<s.nodes.length:=Nat.mod_lt _ (by omega)
 have cv:convA (.int .i64) (.int .u8 (a:Int))=some (.int .i64 (a:Int)):=conv_i64 (by omega)
 have rm:binA .rem (.int .i64 (a:Int)) (.int .i64 (s.pods.length:Int))=some (.int .i64 ((a%s.pods.length:Nat):Int)):=rem_nat (by omega)
 have cv2:convA (.int .i64) (.int .u8 (o:Int))=some (.int .i64 (o:Int)):=conv_i64 (by omega)
 have rm2:binA .rem (.int .i64 (o:Int)) (.int .i64 (s.nodes.length:Int))=some (.int .i64 ((o%s.nodes.length:Nat):Int)):=rem_nat (by omega)
 obtain⟨p,hp⟩:∃p,s.pods[a%s.pods.length]?=some p:=⟨_,List.getElem?_eq_getElem hkl⟩
 obtain⟨n,hn⟩:∃n,s.nodes[o%s.nodes.length]?=some n:=⟨_,List.getElem?_eq_getElem hjl⟩
 have hpm:=List.mem_of_getElem? hp
 have hnm:=List.mem_of_getElem? hn
 have hix:idxA 11 (.sl .sh (s.pods.map encPd)) (.int .i64 ((a%s.pods.length:Nat):Int))=some (.ref (encPd p).cells):=idx_get hp rfl
 have hix2:idxA 5 (.sl .sh (s.nodes.map encN)) (.int .i64 ((o%s.nodes.length:Nat):Int))=some (.ref (encN n).cells):=idx_get hn rfl
 have mv:=move_gives s p.name n.name hs.pods
 obtain⟨c1,u1⟩:=used_any s n.name hs
 obtain⟨c2,u2⟩:=used_any _ n.name (move_in hs p.name n.name)
 have ui:=usedS_in s n.name
 have ui2:=usedS_in (moveS s p.name n.name) n.name
 have hne:=s.pods.length
 generalize a%s.pods.length=k at*
 generalize o%s.nodes.length=j at*
 by_cases hpn:p.node=n.name
 ·obtain⟨l,rr,hl⟩:=List.append_of_mem hpm
  have em:moveS s p.name n.name=s:=by rw[←hpn];exact move_same hl srt
  rw[em]at mv
  obtain⟨u,e,-⟩:=g.at_ hnm
  rw[e]at u1 ui
  have sv:=sameV u u (by have:u.length≤8:=ui.1;omega)
  rw[same2_refl eqA_iff]at sv
  exact let ζ1:List AV:=[.sl .sh (s.nodes.map encN),.sl .sh (s.pods.map encPd),.sl .sh (s.buds.map encB)];let ζ2:List AV:=[.str p.name,.str p.owner,.int .i64 p.prio,.sl .sh (p.need.map encA),.sl .sh (p.labels.map encP),.sl .sh (p.sel.map encM),.sl .sh (p.tols.map encL),.str p.key,.int .i64 p.most,.str p.node,.bool p.hold];let ζ3:List AV:=[.sl .sh (List.map encA (u,(0:Int)).fst),.int .i64 (u,(0:Int)).snd];let ζ4:Heap:={boxes:=[ζ1,ζ2],toks:=[],loops:=[]:Heap};goG 240 _ hT (.len (show lenA false (.sl .sh (s.nodes.map encN))=some (.int .i64 (↑s.nodes.length))from len_map _)<|.no (decide_eq_false (p:=(↑i:Int)<(↑s.nodes.length:Int)) (by omega))<|.conv (show convA (CV.int IntKind.i64) (.int .u8 ↑a)=some (.int .i64 ↑a)from cv)<|.len (show lenA false (.sl .sh (s.pods.map encPd))=some (.int .i64 (↑s.pods.length))from len_map _)<|.bin (show binA .rem (.int .i64 ↑a) (.int .i64 (↑s.pods.length))=some (.int .i64 ↑k)from rm)<|.idx (show idxA 11 (.sl .sh (s.pods.map encPd)) (.int .i64 ↑k)=some (.ref (encPd p).cells)from hix)<|.conv (show convA (CV.int IntKind.i64) (.int .u8 ↑o)=some (.int .i64 ↑o)from cv2)<|.len (show lenA false (.sl .sh (s.nodes.map encN))=some (.int .i64 (↑s.nodes.length))from len_map _)<|.bin (show binA .rem (.int .i64 ↑o) (.int .i64 (↑s.nodes.length))=some (.int .i64 ↑j)from rm2)<|.idx (show idxA 5 (.sl .sh (s.nodes.map encN)) (.int .i64 ↑j)=some (.ref (encN n).cells)from hix2)<|.effY (show Does cfg (.call (.c (.func (48:FuncId) [])) [.c (encSt s),.c (.str p.name),.c (.str n.name)]) ζ4 (encSt s) ζ4 from gf48 mv _)<|.callG ([.agg ζ1,.str n.name]) (.tuple ζ3) (show Gives cfg (33:FuncId) [encSt s,.str n.name] (resV c1 (u,(0:Int)))from u1) ⟨rfl,rfl⟩ Res.p<|.callG ([.agg ζ1,.str n.name]) (.tuple ζ3) (show Gives cfg (33:FuncId) [encSt s,.str n.name] (resV c1 (u,(0:Int)))from u1) ⟨rfl,rfl⟩ Res.p<|.ff<|.yes (show(p.node==n.name)=true from(by simp;omega))<|.tt<|.callI sv<|.fin ((.ret (.bool true),{boxes:=[ζ1,ζ2,ζ1],toks:=[],loops:=[]:Heap})) rfl) (by kernel_rfl)
 ·obtain⟨u,e,hiff,hval⟩:=state_room2 g hnm hpm hpn
  rw[e]at u1 ui
  have av:=addV_any u p.need (by have:u.length≤8:=ui.1;omega) (by have:=(hs.need p hpm).len;omega) ui.2 (hs.need p hpm).rg
  generalize moveS s p.name n.name=t at*
  by_cases h0:(addV u p.need).2=0
  ·have h1:=hiff.2 h0
   have h2:=hval h1
   have e2:usedS t n.name=((addV u p.need).1,0):=Prod.ext h2 h1
   rw[e2]at u2 ui2
   have e3:addV u p.need=((addV u p.need).1,0):=Prod.ext rfl h0
   rw[e3]at av
   simp only at av
   generalize(addV u p.need).1=w at*
   have sv:=sameV w w (by have:w.length≤8:=ui2.1;omega)
   rw[same2_refl eqA_iff]at sv
   exact let ζ1:List AV:=[.str p.name,.str p.owner,.int .i64 p.prio,.sl .sh (p.need.map encA),.sl .sh (p.labels.map encP),.sl .sh (p.sel.map encM),.sl .sh (p.tols.map encL),.str p.key,.int .i64 p.most,.str p.node,.bool p.hold];let ζ2:List AV:=[.sl .sh (s.nodes.map encN),.sl .sh (s.pods.map encPd),.sl .sh (s.buds.map encB)];let ζ3:List AV:=[.sl .sh (t.nodes.map encN),.sl .sh (t.pods.map encPd),.sl .sh (t.buds.map encB)];let ζ4:Heap:={boxes:=[ζ2,ζ1],toks:=[],loops:=[]:Heap};let ζ5:List AV:=[.sl .sh (w.map encA),.int .i64 0];goG 240 _ hT (.len (show lenA false (.sl .sh (s.nodes.map encN))=some (.int .i64 (↑s.nodes.length))from len_map _)<|.no (decide_eq_false (p:=(↑i:Int)<(↑s.nodes.length:Int)) (by omega))<|.conv (show convA (CV.int IntKind.i64) (.int .u8 ↑a)=some (.int .i64 ↑a)from cv)<|.len (show lenA false (.sl .sh (s.pods.map encPd))=some (.int .i64 (↑s.pods.length))from len_map _)<|.bin (show binA .rem (.int .i64 ↑a) (.int .i64 (↑s.pods.length))=some (.int .i64 ↑k)from rm)<|.idx (show idxA 11 (.sl .sh (s.pods.map encPd)) (.int .i64 ↑k)=some (.ref (encPd p).cells)from hix)<|.conv (show convA (CV.int IntKind.i64) (.int .u8 ↑o)=some (.int .i64 ↑o)from cv2)<|.len (show lenA false (.sl .sh (s.nodes.map encN))=some (.int .i64 (↑s.nodes.length))from len_map _)<|.bin (show binA .rem (.int .i64 ↑o) (.int .i64 (↑s.nodes.length))=some (.int .i64 ↑j)from rm2)<|.idx (show idxA 5 (.sl .sh (s.nodes.map encN)) (.int .i64 ↑j)=some (.ref (encN n).cells)from hix2)<|.effY (show Does cfg (.call (.c (.func (48:FuncId) [])) [.c (encSt s),.c (.str p.name),.c (.str n.name)]) ζ4 (encSt t) ζ4 from gf48 mv _)<|.callG ([.agg ζ2,.str n.name]) (.tuple [.sl .sh (List.map encA (u,(0:Int)).fst),.int .i64 (u,(0:Int)).snd]) (show Gives cfg (33:FuncId) [encSt s,.str n.name] (resV c1 (u,(0:Int)))from u1) ⟨rfl,rfl⟩ Res.p<|.callG ([.agg ζ3,.str n.name]) (.tuple [.sl .sh (List.map encA (w,(0:Int)).fst),.int .i64 (w,(0:Int)).snd]) (show Gives cfg (33:FuncId) [encSt t,.str n.name] (resV c2 (w,(0:Int)))from u2) ⟨rfl,rfl⟩ Res.p<|.ff<|.no (show(p.node==n.name)=false from Bool.eq_false_iff.2 (by simp;omega))<|.callI av<|.tt<|.ff<|.callI sv<|.fin ((.ret (.bool true),{boxes:=[ζ2,ζ1,ζ3],toks:=[],loops:=[]:Heap})) rfl) (by kernel_rfl)
  ·have h1:¬(usedS t n.name).2=0:=fun h=>h0 (hiff.1 h)
   generalize usedS t n.name=ut at*
   generalize addV u p.need=at_ at*
   obtain⟨w,er⟩:=ut
   obtain⟨w2,er2⟩:=at_
   have k0:¬er2=0:=h0
   have k1:¬er=0:=h1
   clear h0 h1
   have k2:(er==0)=false:=by simpa using k1
   have k3:(er2==0)=false:=by simpa using k0
   exact let ζ1:List AV:=[.str p.name,.str p.owner,.int .i64 p.prio,.sl .sh (p.need.map encA),.sl .sh (p.labels.map encP),.sl .sh (p.sel.map encM),.sl .sh (p.tols.map encL),.str p.key,.int .i64 p.most,.str p.node,.bool p.hold];let ζ2:List AV:=[.sl .sh (s.nodes.map encN),.sl .sh (s.pods.map encPd),.sl .sh (s.buds.map encB)];let ζ3:List AV:=[.sl .sh (t.nodes.map encN),.sl .sh (t.pods.map encPd),.sl .sh (t.buds.map encB)];let ζ4:List AV:=[.sl .sh (List.map encA (w2,er2).fst),.int .i64 (w2,er2).snd];let ζ5:Heap:={boxes:=[ζ2,ζ1],toks:=[],loops:=[]:Heap};goG 240 _ hT (.len (show lenA false (.sl .sh (s.nodes.map encN))=some (.int .i64 (↑s.nodes.length))from len_map _)<|.no (decide_eq_false (p:=(↑i:Int)<(↑s.nodes.length:Int)) (by omega))<|.conv (show convA (CV.int IntKind.i64) (.int .u8 ↑a)=some (.int .i64 ↑a)from cv)<|.len (show lenA false (.sl .sh (s.pods.map encPd))=some (.int .i64 (↑s.pods.length))from len_map _)<|.bin (show binA .rem (.int .i64 ↑a) (.int .i64 (↑s.pods.length))=some (.int .i64 ↑k)from rm)<|.idx (show idxA 11 (.sl .sh (s.pods.map encPd)) (.int .i64 ↑k)=some (.ref (encPd p).cells)from hix)<|.conv (show convA (CV.int IntKind.i64) (.int .u8 ↑o)=some (.int .i64 ↑o)from cv2)<|.len (show lenA false (.sl .sh (s.nodes.map encN))=some (.int .i64 (↑s.nodes.length))from len_map _)<|.bin (show binA .rem (.int .i64 ↑o) (.int .i64 (↑s.nodes.length))=some (.int .i64 ↑j)from rm2)<|.idx (show idxA 5 (.sl .sh (s.nodes.map encN)) (.int .i64 ↑j)=some (.ref (encN n).cells)from hix2)<|.effY (show Does cfg (.call (.c (.func (48:FuncId) [])) [.c (encSt s),.c (.str p.name),.c (.str n.name)]) ζ5 (encSt t) ζ5 from gf48 mv _)<|.callG ([.agg ζ2,.str n.name]) (.tuple [.sl .sh (List.map encA (u,(0:Int)).fst),.int .i64 (u,(0:Int)).snd]) (show Gives cfg (33:FuncId) [encSt s,.str n.name] (resV c1 (u,(0:Int)))from u1) ⟨rfl,rfl⟩ Res.p<|.callG ([.agg ζ3,.str n.name]) (.tuple [.sl .sh (List.map encA (w,er).fst),.int .i64 (w,er).snd]) (show Gives cfg (33:FuncId) [encSt t,.str n.name] (resV c2 (w,er))from u2) ⟨rfl,rfl⟩ Res.p<|.ff<|.no (show(p.node==n.name)=false from Bool.eq_false_iff.2 (by simp;omega))<|.callI av<|.yes (show(if false=true then !((w,er).snd==(0:Int))==((w2,er2).snd==(0:Int))else((w,er).snd==(0:Int))==((w2,er2).snd==(0:Int)))=true from(by simp+zetaDelta [k2,k3]))<|.yes (show((w,er).snd !=(0:Int))=true from(by simp;omega))<|.fin ((.ret (.bool true),{boxes:=[ζ2,ζ1,ζ3],toks:=[],loops:=[]:Heap})) rfl) (by kernel_rfl)
theorem room_loop(s:St)(r:RgS s)(fs:FewS s)(hg:ckSt s=0)(a o:Nat)(ha:a<256)(ho:o<256)(hp1:1≤s.pods.length)(hn1:1≤s.nodes.length):∀(post:List Node)(i:Nat)(hd:s.nodes.drop i=post)(hi2:i≤s.nodes.length)(T:Env)
 (hT:Has T [(1,.int .u8 a),(2,.int .u8 o),(3,.ptr 0 0),(7,.int .i64 i)]),
 Goes cfg a10 k10_0 T ⟨[(encSt s).cells],[],[]⟩ (IsRet (.bool true)):=by
 intro post
 have hs:=stIn fs r
 have fn:=fs.nodes
 induction post with
 |nil=>intro i hd hi2 T hT;exact room_end s r fs hg a o ha ho hp1 hn1 i (drop_ge hd) (by omega) T hT
 |cons x post ih=>
  intro i hd hi2 T hT
  have hlt:=drop_lt hd
  have hnx:=drop_next hd
  have hx:=drop_mem hd
  have hxi:idxA 5 (.sl .sh (s.nodes.map encN)) (.int .i64 (i:Nat))=some (.ref (encN x).cells):=idx_row (f:=encN) hd rfl
  obtain⟨u,f,e1,e2,e3⟩:=state_room1 (gdS hg) hx (r.cap x hx)
  obtain⟨c1,h1⟩:=used_any s x.name hs
  obtain⟨c2,h2⟩:=free_any s x.name hs
  have ui:=usedS_in s x.name
  have fi:(freeS s x.name).1.length≤8∧rgA (freeS s x.name).1:=by
   unfold freeS freeG
   split
   ·have:=subV_rg (a:=capOf s x.name) (b:=(usedS s x.name).1) (by
     unfold capOf
     split
     ·exact fun y hy=>by cases hy
     ·rename_i n hf;exact(hs.cap n (findG_mem hf)).rg)
    exact⟨this.2,this.1⟩
   ·exact⟨by simp,fun y hy=>by cases hy⟩
  rw[e1]at h1 ui
  rw[e2]at h2 fi
  have h3:=addV_any u f (by have:u.length≤8:=ui.1;omega) (by have:f.length≤8:=fi.1;omega) ui.2 fi.2
  rw[e3]at h3
  have h4:=sameV x.cap x.cap (by have:=(hs.cap x hx).len;omega)
  rw[same2_refl eqA_iff]at h4
  have ih':=ih (i+1) hnx (by omega)
  exact let ζ1:List AV:=[.sl .sh (s.nodes.map encN),.sl .sh (s.pods.map encPd),.sl .sh (s.buds.map encB)];let ζ2:List AV:=[.sl .sh (List.map encA (x.cap,(0:Int)).fst),.int .i64 (x.cap,(0:Int)).snd];goG 200 _ hT (.len (show lenA false (.sl .sh (s.nodes.map encN))=some (.int .i64 (↑s.nodes.length))from len_map _)<|.yes (decide_eq_true (p:=(↑i:Int)<(↑s.nodes.length:Int)) (by omega))<|.idx (show idxA 5 (.sl .sh (s.nodes.map encN)) (.int .i64 ↑i)=some (.ref (encN x).cells)from hxi)<|.callG ([.agg ζ1,.str x.name]) (.tuple [.sl .sh (List.map encA (u,(0:Int)).fst),.int .i64 (u,(0:Int)).snd]) (show Gives cfg (33:FuncId) [encSt s,.str x.name] (resV c1 (u,(0:Int)))from h1) ⟨rfl,rfl⟩ Res.p<|.idx (show idxA 5 (.sl .sh (s.nodes.map encN)) (.int .i64 ↑i)=some (.ref (encN x).cells)from hxi)<|.callG ([.agg ζ1,.str x.name]) (.tuple [.sl .sh (List.map encA (f,(0:Int)).fst),.int .i64 (f,(0:Int)).snd]) (show Gives cfg (37:FuncId) [encSt s,.str x.name] (resV c2 (f,(0:Int)))from h2) ⟨rfl,rfl⟩ Res.p<|.callI h3<|.bin (show binA .add (.int .i64 (u,(0:Int)).snd) (.int .i64 (f,(0:Int)).snd)=some (.int .i64 ((u,(0:Int)).snd+(f,(0:Int)).snd))from addI (by omega) (by omega))<|.bin (show binA .add (.int .i64 ((u,(0:Int)).snd+(f,(0:Int)).snd)) (.int .i64 (x.cap,(0:Int)).snd)=some (.int .i64 ((u,(0:Int)).snd+(f,(0:Int)).snd+(x.cap,(0:Int)).snd))from addI (by omega) (by omega))<|.ff<|.idx (show idxA 5 (.sl .sh (s.nodes.map encN)) (.int .i64 ↑i)=some (.ref (encN x).cells)from hxi)<|.callI h4<|.ff<|.bin (show binA .add (.int .i64 ↑i) (.int .i64 1)=some (.int .i64 (↑(i+1)))from inc_i (by omega))<|.cutQ k10_0 [(1,.int .u8 ↑a),(2,.int .u8 ↑o),(3,.ptr 0 0),(7,.int .i64 (↑(i+1)))] ({boxes:=[ζ1],toks:=[],loops:=[]:Heap}) (fun T hT=>(ih' T hT))) (by kernel_rfl)
theorem stateRoom(s:St)(a o:Nat)(ha:a<256)(ho:o<256)(r:RgS s):Gives cfg 10 [encSt s,.int .u8 (a:Int),.int .u8 (o:Int)] (.bool true):=by
 refine Gives.run (l10 _ _) ?_
 have g:=good_any s r
 cases hg:(fewSt s&&ckSt s==0)with
 |false=>
  rw[hg]at g
  exact let ζ1:List AV:=[.sl .sh (s.nodes.map encN),.sl .sh (s.pods.map encPd),.sl .sh (s.buds.map encB)];goG 90 [] trivial (.callI known29'<|.ff<|.callI g<|.tt<|.tt<|.tt<|.fin ((.ret (.bool true),{boxes:=[ζ1],toks:=[],loops:=[]:Heap})) rfl) (by kernel_rfl)
 |true=>
  rw[hg]at g
  simp only[Bool.and_eq_true,beq_iff_eq]at hg
  obtain⟨hg1,hg2⟩:=hg
  have fs:=fewS hg1
  by_cases h1:s.pods.length<1
  ·exact let ζ1:List AV:=[.sl .sh (s.nodes.map encN),.sl .sh (s.pods.map encPd),.sl .sh (s.buds.map encB)];goG 120 [] trivial (.callI known29'<|.ff<|.callI g<|.ff<|.len (show lenA false (.sl .sh (s.pods.map encPd))=some (.int .i64 (↑s.pods.length))from len_map _)<|.yes (decide_eq_true (p:=(↑s.pods.length:Int)<(1:Int)) (by omega))<|.tt<|.fin ((.ret (.bool true),{boxes:=[ζ1],toks:=[],loops:=[]:Heap})) rfl) (by kernel_rfl)
  ·by_cases h2:s.nodes.length<1
   ·exact let ζ1:List AV:=[.sl .sh (s.nodes.map encN),.sl .sh (s.pods.map encPd),.sl .sh (s.buds.map encB)];goG 120 [] trivial (.callI known29'<|.ff<|.callI g<|.ff<|.len (show lenA false (.sl .sh (s.pods.map encPd))=some (.int .i64 (↑s.pods.length))from len_map _)<|.no (decide_eq_false (p:=(↑s.pods.length:Int)<(1:Int)) (by omega))<|.len (show lenA false (.sl .sh (s.nodes.map encN))=some (.int .i64 (↑s.nodes.length))from len_map _)<|.yes (decide_eq_true (p:=(↑s.nodes.length:Int)<(1:Int)) (by omega))<|.fin ((.ret (.bool true),{boxes:=[ζ1],toks:=[],loops:=[]:Heap})) rfl) (by kernel_rfl)
   ·have lo:=room_loop s r fs hg2 a o ha ho (by omega) (by omega) s.nodes 0 rfl (by omega)
    exact let ζ1:List AV:=[.sl .sh (s.nodes.map encN),.sl .sh (s.pods.map encPd),.sl .sh (s.buds.map encB)];goG 120 [] trivial (.callI known29'<|.ff<|.callI g<|.ff<|.len (show lenA false (.sl .sh (s.pods.map encPd))=some (.int .i64 (↑s.pods.length))from len_map _)<|.no (decide_eq_false (p:=(↑s.pods.length:Int)<(1:Int)) (by omega))<|.len (show lenA false (.sl .sh (s.nodes.map encN))=some (.int .i64 (↑s.nodes.length))from len_map _)<|.no (decide_eq_false (p:=(↑s.nodes.length:Int)<(1:Int)) (by omega))<|.cutQ k10_0 [(1,.int .u8 ↑a),(2,.int .u8 ↑o),(3,.ptr 0 0),(7,.int .i64 0)] ({boxes:=[ζ1],toks:=[],loops:=[]:Heap}) (fun T hT=>(lo T hT))) (by kernel_rfl)
end Go.Aa.T
set_option linter.unusedVariables false
set_option linter.unusedSimpArgs false
set_option maxRecDepth 100000
namespace Go.Aa.T
open Go.Aa Go.Proofs
theorem law10(xs:List AV)(h:TyAll Tryz.prog 6 [26,5,5] xs)(hz:SzAll Tryz.prog [26,5,5] xs):∃H',lim cfg (.fn 10) xs Heap.nil=some (.ret (.bool true),H'):=by
 obtain⟨x1,x2,x3,rfl,h1,h2,h3⟩:=tyall_3 h
 obtain⟨a,rfl,r,-⟩:=ty26 (k:=0) h1
 obtain⟨n,hn,rfl⟩:=tyU8 h2
 obtain⟨m,hm,rfl⟩:=tyU8 h3
 exact(stateRoom a n m hn hm r).ret
end Go.Aa.T
namespace Go.Proofs
open Go.Shelf
def Tryz.lays160_ren:Go.Shelf.Ren:=⟨fun|160=>215|232=>223|231=>222|227=>224|234=>226|233=>225|236=>228|235=>227|228=>241|271=>244|151=>243|197=>242|120=>253|152=>252|260=>251|137=>255|119=>256|224=>257|225=>258|217=>259|266=>260|n=>n,fun|9=>9|4=>4|3=>3|5=>5|117=>280|116=>279|0=>0|124=>283|21=>21|105=>297|46=>244|119=>310|139=>313|138=>312|n=>n,fun|3=>1|4=>2|n=>n⟩
theorem Tryz.lays160:Go.Proofs.Lays.n160 Tryz.prog Tryz.lays160_ren:={
 mixed:=by kernel_rfl
 f119:=Tryz.func256.trans (congrArg some (by kernel_rfl))
 f120:=Tryz.func253.trans (congrArg some (by kernel_rfl))
 f137:=Tryz.func255.trans (congrArg some (by kernel_rfl))
 f151:=Tryz.func243.trans (congrArg some (by kernel_rfl))
 f152:=Tryz.func252.trans (congrArg some (by kernel_rfl))
 f160:=Tryz.func215.trans (congrArg some (by kernel_rfl))
 f197:=Tryz.func242.trans (congrArg some (by kernel_rfl))
 f217:=Tryz.func259.trans (congrArg some (by kernel_rfl))
 f224:=Tryz.func257.trans (congrArg some (by kernel_rfl))
 f225:=Tryz.func258.trans (congrArg some (by kernel_rfl))
 f227:=Tryz.func224.trans (congrArg some (by kernel_rfl))
 f228:=Tryz.func241.trans (congrArg some (by kernel_rfl))
 f231:=Tryz.func222.trans (congrArg some (by kernel_rfl))
 f232:=Tryz.func223.trans (congrArg some (by kernel_rfl))
 f233:=Tryz.func225.trans (congrArg some (by kernel_rfl))
 f234:=Tryz.func226.trans (congrArg some (by kernel_rfl))
 f235:=Tryz.func227.trans (congrArg some (by kernel_rfl))
 f236:=Tryz.func228.trans (congrArg some (by kernel_rfl))
 f260:=Tryz.func251.trans (congrArg some (by kernel_rfl))
 f266:=Tryz.func260.trans (congrArg some (by kernel_rfl))
 f271:=Tryz.func244.trans (congrArg some (by kernel_rfl))
 t0:=Tryz.underlying0
 a0:=Tryz.isAgg0
 z0:=Tryz.sizeOf0
 v0:=Tryz.zeroValue0
 t3:=Tryz.underlying3
 a3:=Tryz.isAgg3
 z3:=Tryz.sizeOf3
 v3:=Tryz.zeroValue3
 t4:=Tryz.underlying4
 a4:=Tryz.isAgg4
 z4:=Tryz.sizeOf4
 v4:=Tryz.zeroValue4
 t5:=Tryz.underlying5
 a5:=Tryz.isAgg5
 z5:=Tryz.sizeOf5
 v5:=Tryz.zeroValue5
 t9:=Tryz.underlying9
 a9:=Tryz.isAgg9
 z9:=Tryz.sizeOf9
 v9:=Tryz.zeroValue9
 t21:=Tryz.underlying21
 a21:=Tryz.isAgg21
 z21:=Tryz.sizeOf21
 v21:=Tryz.zeroValue21
 t46:=Tryz.underlying244
 a46:=Tryz.isAgg244
 z46:=Tryz.sizeOf244
 v46:=Tryz.zeroValue244
 t105:=Tryz.underlying297
 a105:=Tryz.isAgg297
 z105:=Tryz.sizeOf297
 v105:=Tryz.zeroValue297
 t116:=Tryz.underlying279
 a116:=Tryz.isAgg279
 z116:=Tryz.sizeOf279
 t117:=Tryz.underlying280
 a117:=Tryz.isAgg280
 z117:=Tryz.sizeOf280
 v117:=Tryz.zeroValue280
 t119:=Tryz.underlying310
 a119:=Tryz.isAgg310
 z119:=Tryz.sizeOf310
 t124:=Tryz.underlying283
 a124:=Tryz.isAgg283
 z124:=Tryz.sizeOf283
 v124:=Tryz.zeroValue283
 t138:=Tryz.underlying312
 a138:=Tryz.isAgg312
 z138:=Tryz.sizeOf312
 v138:=Tryz.zeroValue312
 t139:=Tryz.underlying313
 a139:=Tryz.isAgg313
 z139:=Tryz.sizeOf313
 v139:=Tryz.zeroValue313
 g3:=by kernel_rfl
 g4:=by kernel_rfl}
def Tryz.lays106_ren:Go.Shelf.Ren:=⟨fun|106=>118|213=>186|265=>213|n=>n,fun|9=>9|3=>3|n=>n,fun|n=>n⟩
theorem Tryz.lays106:Go.Proofs.Lays.n106 Tryz.prog Tryz.lays106_ren:={
 mixed:=by kernel_rfl
 f106:=Tryz.func118.trans (congrArg some (by kernel_rfl))
 f213:=Tryz.func186.trans (congrArg some (by kernel_rfl))
 f265:=Tryz.func213.trans (congrArg some (by kernel_rfl))
 t3:=Tryz.underlying3
 a3:=Tryz.isAgg3
 z3:=Tryz.sizeOf3
 v3:=Tryz.zeroValue3
 t9:=Tryz.underlying9
 a9:=Tryz.isAgg9
 z9:=Tryz.sizeOf9
 v9:=Tryz.zeroValue9}
def Tryz.lays190_ren:Go.Shelf.Ren:=⟨fun|190=>204|125=>218|258=>217|128=>238|129=>239|302=>229|303=>230|304=>231|305=>232|306=>233|307=>234|308=>235|309=>236|310=>237|333=>245|329=>246|330=>247|334=>248|335=>249|336=>250|344=>254|n=>n,fun|31=>57|9=>9|3=>3|46=>244|0=>0|51=>293|53=>254|4=>4|183=>286|182=>285|131=>135|5=>5|218=>300|222=>304|228=>307|229=>308|n=>n,fun|n=>n⟩
theorem Tryz.lays190:Go.Proofs.Lays.n190 Tryz.prog Tryz.lays190_ren:={
 mixed:=by kernel_rfl
 f125:=Tryz.func218.trans (congrArg some (by kernel_rfl))
 f128:=Tryz.func238.trans (congrArg some (by kernel_rfl))
 f129:=Tryz.func239.trans (congrArg some (by kernel_rfl))
 f190:=Tryz.func204.trans (congrArg some (by kernel_rfl))
 f258:=Tryz.func217.trans (congrArg some (by kernel_rfl))
 f302:=Tryz.func229.trans (congrArg some (by kernel_rfl))
 f303:=Tryz.func230.trans (congrArg some (by kernel_rfl))
 f304:=Tryz.func231.trans (congrArg some (by kernel_rfl))
 f305:=Tryz.func232.trans (congrArg some (by kernel_rfl))
 f306:=Tryz.func233.trans (congrArg some (by kernel_rfl))
 f307:=Tryz.func234.trans (congrArg some (by kernel_rfl))
 f308:=Tryz.func235.trans (congrArg some (by kernel_rfl))
 f309:=Tryz.func236.trans (congrArg some (by kernel_rfl))
 f310:=Tryz.func237.trans (congrArg some (by kernel_rfl))
 f329:=Tryz.func246.trans (congrArg some (by kernel_rfl))
 f330:=Tryz.func247.trans (congrArg some (by kernel_rfl))
 f333:=Tryz.func245.trans (congrArg some (by kernel_rfl))
 f334:=Tryz.func248.trans (congrArg some (by kernel_rfl))
 f335:=Tryz.func249.trans (congrArg some (by kernel_rfl))
 f336:=Tryz.func250.trans (congrArg some (by kernel_rfl))
 f344:=Tryz.func254.trans (congrArg some (by kernel_rfl))
 t0:=Tryz.underlying0
 a0:=Tryz.isAgg0
 z0:=Tryz.sizeOf0
 v0:=Tryz.zeroValue0
 t3:=Tryz.underlying3
 a3:=Tryz.isAgg3
 z3:=Tryz.sizeOf3
 v3:=Tryz.zeroValue3
 t4:=Tryz.underlying4
 a4:=Tryz.isAgg4
 z4:=Tryz.sizeOf4
 v4:=Tryz.zeroValue4
 t5:=Tryz.underlying5
 a5:=Tryz.isAgg5
 z5:=Tryz.sizeOf5
 v5:=Tryz.zeroValue5
 t9:=Tryz.underlying9
 a9:=Tryz.isAgg9
 z9:=Tryz.sizeOf9
 v9:=Tryz.zeroValue9
 t31:=Tryz.underlying57
 a31:=Tryz.isAgg57
 z31:=Tryz.sizeOf57
 v31:=Tryz.zeroValue57
 t46:=Tryz.underlying244
 a46:=Tryz.isAgg244
 z46:=Tryz.sizeOf244
 v46:=Tryz.zeroValue244
 t51:=Tryz.underlying293
 a51:=Tryz.isAgg293
 z51:=Tryz.sizeOf293
 v51:=Tryz.zeroValue293
 t53:=Tryz.underlying254
 a53:=Tryz.isAgg254
 z53:=Tryz.sizeOf254
 v53:=Tryz.zeroValue254
 t131:=Tryz.underlying135
 a131:=Tryz.isAgg135
 z131:=Tryz.sizeOf135
 v131:=Tryz.zeroValue135
 t182:=Tryz.underlying285
 a182:=Tryz.isAgg285
 z182:=Tryz.sizeOf285
 v182:=Tryz.zeroValue285
 t183:=Tryz.underlying286
 a183:=Tryz.isAgg286
 z183:=Tryz.sizeOf286
 v183:=Tryz.zeroValue286
 t218:=Tryz.underlying300
 a218:=Tryz.isAgg300
 z218:=Tryz.sizeOf300
 v218:=Tryz.zeroValue300
 t222:=Tryz.underlying304
 a222:=Tryz.isAgg304
 z222:=Tryz.sizeOf304
 v222:=Tryz.zeroValue304
 t228:=Tryz.underlying307
 a228:=Tryz.isAgg307
 z228:=Tryz.sizeOf307
 v228:=Tryz.zeroValue307
 t229:=Tryz.underlying308
 a229:=Tryz.isAgg308
 z229:=Tryz.sizeOf308
 v229:=Tryz.zeroValue308}
end Go.Proofs
set_option linter.unusedVariables false
set_option linter.unusedSimpArgs false
namespace Go.Proofs
open Go.Shelf Go.RowKit Go.Lib
theorem run_copy_cellsN{P:Program}{es:Nat}(w:World)(dT sT ty elem:TypeId)(b o dLen dCap:Nat)(a:Addr)(sLen sCap:Nat)(cs:List Value)
 (hu:P.underlying dT=some (.slice elem))(hs:(P.info? elem).map (·.size)=some es)(hn:cs.length=Nat.min sLen dLen*es)
 (hsrc:∀j v,cs[j]?=some v→w.cell? (a.add j)=some v)(hc:∀j,j<cs.length→(w.cell? ⟨b,o+j,none⟩).isSome=true)(hf:∀j,j<cs.length→w.frozen? ⟨b,o+j,none⟩=false)(h1:∀v∈cs,v.oneCell'=true):
 (Builtin.copy_ #[dT,sT] ty #[.slice (some ⟨b,o,none⟩) dLen dCap,.slice (some a) sLen sCap]).run P w=.ok (goInt (Nat.min sLen dLen)) (w.setCells b o cs):=by
 have hl:=run_loadCells_list (P:=P) w a cs hsrc
 have hst:=run_storeCells_cells (P:=P) b o cs 0 w (by simpa using hc) (by simpa using hf) h1
 cases hq:P.info? elem with
 |none=>simp[hq]at hs
 |some i=>
  have hi:i.size=es:=by simpa[hq]using hs
  simp[Builtin.copy_,run_underlying hu,Builtin.lenOf,Builtin.firstCells,sizeOf,typeInfo,hq,hi,←hn,hl,hst]
set_option maxHeartbeats 4000000 in
set_option maxRecDepth 100000 in
theorem ins_shift(b off n c i vb voff m vc:Nat)(cs vs:List Value)(w:World)(hi:i<n)(hm:0<m)(hroom:n+m≤c)(hc63:c≤9223372036854775807)(hvb:vb≠b)
 (hcl:cs.length=n*11)(hvl:vs.length=m*11)
 (hcs:∀j v,cs[j]?=some v→w.cell? ⟨b,off+j,none⟩=some v)(hsp:∀j,j<(n+m)*11→(w.cell? ⟨b,off+j,none⟩).isSome=true)(hfz:∀j,j<(n+m)*11→w.frozen? ⟨b,off+j,none⟩=false)
 (hvs:∀j v,vs[j]?=some v→w.cell? ⟨vb,voff+j,none⟩=some v)(h1c:∀v∈cs,v.oneCell'=true)(h1v:∀v∈vs,v.oneCell'=true)
 (tA tB:TypeId)(kA kB:Nat)(hsa:w.shape? vb=some (tA,kA))(hsb:w.shape? b=some (tB,kB))(hkB:kB≠0)(hfa:w.frozen? ⟨vb,voff,none⟩=false)(hfe:w.frozen? ⟨vb,kA,none⟩=false):
 Calls Tryz.prog 119 #[.slice (some ⟨b,off,none⟩) n c,.int .i64 i,.slice (some ⟨vb,voff,none⟩) m vc] w fun e w'=>
  e=.returned (.slice (some ⟨b,off,none⟩) (n+m) c)∧w'=(w.drew.setCells b (off+(i+m)*11) (cs.drop (i*11))).setCells b (off+i*11) vs:=by
 have mixed:Tryz.prog.follows .mixedOrders=true:=by kernel_rfl
 have hz1:¬((m:Int)=0):=by omega
 have hz2:¬((i:Int)=(n:Int)):=by omega
 have hsz:(Tryz.prog.info? 35).map (·.size)=some 11:=by kernel_rfl
 have hov:∀lb cb,(callFunc 187 #[.slice (some ⟨vb,voff,none⟩) m vc,.slice (some ⟨b,off+(i+m)*11,none⟩) lb cb]).run Tryz.prog w=.ok (.value (.bool false)) w:=fun lb cb=>by
  rw[run_callFunc_extern Tryz.func187 (by kernel_rfl) (by kernel_rfl) (by kernel_rfl) (e:=Extern.SlicesOverlaps.overlaps #[23,23] #[4]) (by kernel_rfl),
   Lib.run_overlaps_apart w 23 4 35 Tryz.underlying23 11 Tryz.sizeOf35 ⟨vb,voff,none⟩ ⟨b,off+(i+m)*11,none⟩ m vc lb cb hvb tA tB kA kB hsa hsb hkB hfa hfe]
  rfl
 have hdl:(cs.drop (i*11)).length=(n-i)*11:=by rw[List.length_drop,hcl];omega
 have hw1:IntKind.i64.wrap ((i:Int)+(m:Int))=(i:Int)+(m:Int):=by rw[IntKind.wrap_i64];omega
 have hb1:(0:Int)≤(i:Int)+(m:Int):=by omega
 have hin:i≤n:=by omega
 have htn:((i:Int)+(m:Int)).toNat=i+m:=by omega
 have hb2:¬(c=i+m):=by omega
 have hb3:(i:Int)≤(n:Int)+(m:Int):=by omega
 have hb4:¬(c=i):=by omega
 have hcp1:∀ty dc sc,(Builtin.copy_ #[23,23] ty #[.slice (some ⟨b,off+(i+m)*11,none⟩) (n+m-(i+m)) dc,.slice (some ⟨b,off+i*11,none⟩) (n+m-i) sc]).run Tryz.prog w.drew=.ok (goInt (Nat.min (n+m-i) (n+m-(i+m)))) (w.drew.setCells b (off+(i+m)*11) (cs.drop (i*11))):=fun ty dc sc=>
  run_copy_cellsN w.drew _ _ ty 35 b (off+(i+m)*11) (n+m-(i+m)) dc ⟨b,off+i*11,none⟩ (n+m-i) sc (cs.drop (i*11)) Tryz.underlying23 hsz (by rw[hdl];simp only[Nat.min_def];split<;>omega)
   (fun j v hj=>by rw[Addr.add_lit,Nat.add_assoc];exact hcs (i*11+j) v (by rwa [List.getElem?_drop]at hj))
   (fun j hj=>by rw[Nat.add_assoc];exact hsp _ (by omega)) (fun j hj=>by rw[Nat.add_assoc];exact hfz _ (by omega)) (fun v hv=>h1c v (List.mem_of_mem_drop hv))
 obtain⟨W1,hW1⟩:∃W1,W1=w.drew.setCells b (off+(i+m)*11) (cs.drop (i*11)):=⟨_,rfl⟩
 have hsp1:∀k,k<(n+m)*11→(W1.cell? ⟨b,off+k,none⟩).isSome=true:=fun k hk=>by
  rw[hW1]
  exact isSome_setCells b _ _ _ (fun j hj=>by rw[Nat.add_assoc];exact hsp _ (by omega)) _ (hsp k hk)
 have hcp2:∀(W:World),(∀x,W.cell? x=W1.cell? x)→(∀x,W.frozen? x=W1.frozen? x)→∀ty dc,(Builtin.copy_ #[23,23] ty #[.slice (some ⟨b,off+i*11,none⟩) (n+m-i) dc,.slice (some ⟨vb,voff,none⟩) m vc]).run Tryz.prog W=.ok (goInt (Nat.min m (n+m-i))) (W.setCells b (off+i*11) vs):=fun W hWc hWf ty dc=>
  run_copy_cellsN W _ _ ty 35 b (off+i*11) (n+m-i) dc ⟨vb,voff,none⟩ m vc vs Tryz.underlying23 hsz (by rw[hvl];simp only[Nat.min_def];split<;>omega)
   (fun j v hj=>by
     rw[Addr.add_lit,hWc,hW1,World.cell?_setCells_out b _ _ _ _ (fun h _=>absurd h hvb)]
     exact hvs j v hj)
   (fun j hj=>by rw[hWc,Nat.add_assoc];exact hsp1 _ (by omega)) (fun j hj=>by rw[hWf,hW1,World.frozen?_setCells,Nat.add_assoc];exact hfz _ (by omega)) h1v
 rw[←hW1]at hcp1
 go_enter Tryz.func119,Tryz.ntmps119
 go_wp2_with(simp only[hov])
 go_region_law_o(refine step_copy_runI rfl _ _ 23 23 rfl _ _ (by simp[Act.eval,Act.put]) (by simp[Act.eval,Act.put]) (hcp1 _ _ _) ?_)
 go_wp2_with(at_builtin;refine wpList_copy_runI _ rfl _ _ 23 23 rfl _ _ rfl rfl (hcp2 _ (fun _=>rfl) (fun _=>rfl) _ _) ?_)
 go_ret
 first|exact⟨rfl,rfl⟩|exact⟨rfl,by rw[hW1]⟩
set_option maxHeartbeats 4000000 in
set_option maxRecDepth 100000 in
theorem ins_end_room(b off n c vb voff m vc:Nat)(vs:List Value)(w:World)(i0:TypeInfo)(hi0:Tryz.prog.info? 35=some i0)(hzs:i0.size=11)(hm:0<m)(hroom:n+m≤c)(hc63:c≤9223372036854775807)
 (hvl:vs.length=m*11)(hsp:∀j,j<m*11→(w.cell? ⟨b,off+n*11+j,none⟩).isSome=true)(hfz:∀j,j<m*11→w.frozen? ⟨b,off+n*11+j,none⟩=false)
 (hvs:∀j v,vs[j]?=some v→w.cell? ⟨vb,voff+j,none⟩=some v)(h1v:∀v∈vs,v.oneCell'=true):
 Calls Tryz.prog 119 #[.slice (some ⟨b,off,none⟩) n c,.int .i64 n,.slice (some ⟨vb,voff,none⟩) m vc] w fun e w'=>
  e=.returned (.slice (some ⟨b,off,none⟩) (n+m) c)∧w'=w.setCells b (off+n*11) vs:=by
 have mixed:Tryz.prog.follows .mixedOrders=true:=by kernel_rfl
 have hz1:¬((m:Int)=0):=by omega
 have hsrc:Src Tryz.prog i0.size 23 (.slice (some ⟨vb,voff,none⟩) m vc) m vs w:=by
  rw[hzs]
  exact Src.ofSlice w Tryz.underlying23 ⟨vb,voff,none⟩ m vc vs (by omega) (fun j u hj=>by rw[Addr.add_lit];exact hvs j u hj) h1v
 go_enter Tryz.func119,Tryz.ntmps119
 go_wp2_with(at_builtin;refine wpList_append_room_src _ rfl _ _ 23 23 rfl 35 i0 Tryz.underlying23 hi0 b off n c rfl _ rfl m vs hsrc hroom (by rw[hvl,hzs];exact hsp) (by rw[hvl,hzs];exact hfz) ?_)
 go_ret
 first|exact⟨rfl,rfl⟩|exact⟨rfl,by rw[hzs]⟩
set_option maxHeartbeats 4000000 in
set_option maxRecDepth 100000 in
theorem ins_end_grow(base:Option Addr)(n c vb voff m vc:Nat)(cs vs:List Value)(w:World)(i0:TypeInfo)(z:Value)(hi0:Tryz.prog.info? 35=some i0)(hz0:i0.zero=some z)(hzs:i0.size=11)(hzb:i0.bytes=184)(hm:0<m)(hnc:n≤c)(hroom:c<n+m)(hbig:(n+m)*184≤140737488355328)
 (hcl:cs.length=n*11)(hvl:vs.length=m*11)(hnil:base=none→n=0)
 (hcs:∀a,base=some a→∀j v,cs[j]?=some v→w.cell? (a.add j)=some v)
 (hvs:∀j v,vs[j]?=some v→w.cell? ⟨vb,voff+j,none⟩=some v)(h1v:∀v∈vs,v.oneCell'=true):
 Calls Tryz.prog 119 #[.slice base n c,.int .i64 n,.slice (some ⟨vb,voff,none⟩) m vc] w fun e w'=>
  e=.returned (.slice (some ⟨w.heap.size,0,none⟩) (n+m) (grownCap w (n+m) c 35))∧
  w'=w.drew.alloc (.cells ((cs++vs).toArray++Builtin.zeroCells z.cells (grownCap w (n+m) c 35-(n+m))) 35):=by
 have mixed:Tryz.prog.follows .mixedOrders=true:=by kernel_rfl
 have hz1:¬((m:Int)=0):=by omega
 have hsrc:Src Tryz.prog i0.size 23 (.slice (some ⟨vb,voff,none⟩) m vc) m vs w:=by
  rw[hzs]
  exact Src.ofSlice w Tryz.underlying23 ⟨vb,voff,none⟩ m vc vs (by omega) (fun j u hj=>by rw[Addr.add_lit];exact hvs j u hj) h1v
 have hold:(Builtin.firstCells i0.size n (.slice base n c)).run Tryz.prog w.drew=.ok cs.toArray w.drew:=by
  rw[hzs]
  cases base with
  |none=>
   have h0:=hnil rfl
   subst h0
   rw[List.length_eq_zero_iff.1 (by omega:cs.length=0)]
   exact run_firstCells_none w.drew 11 0 0 c
  |some a=>exact run_firstCells_some w.drew 11 n a n c cs (by omega) (fun j v hj=>hcs a rfl j v hj)
 have hrun:∀ty,(Builtin.append_ #[23,23] ty #[.slice base n c,.slice (some ⟨vb,voff,none⟩) m vc]).run Tryz.prog w=_:=fun ty=>
  run_append_grow_src w 23 23 ty 35 i0 _ Tryz.underlying23 hi0 hz0 base n c cs hold _ m vs hsrc hroom (by omega) (by rw[hzb];exact growslice_fits hroom hbig)
 go_enter Tryz.func119,Tryz.ntmps119
 cases base with
 |none=>
  have h0:=hnil rfl
  subst h0
  go_wp2_with(at_builtin;refine Lib.wpList_append_run _ rfl _ _ _ _ rfl _ _ rfl rfl _ _ (hrun _) ?_)
  all_goals(go_ret;exact⟨rfl,rfl⟩)
 |some a=>
  obtain⟨ab,ao,asp⟩:=a
  go_wp2_with(at_builtin;refine Lib.wpList_append_run _ rfl _ _ _ _ rfl _ _ rfl rfl _ _ (hrun _) ?_)
  all_goals(go_ret;exact⟨rfl,rfl⟩)
set_option maxHeartbeats 4000000 in
set_option maxRecDepth 100000 in
theorem ins_grow(b off n c i vb voff m vc:Nat)(cs vs:List Value)(w:World)(i0:TypeInfo)(z:Value)(hi0:Tryz.prog.info? 35=some i0)(hz0:i0.zero=some z)(hzs:i0.size=11)(hzb:i0.bytes=184)(hzc:z.cells.size=11)(hi:i<n)(hm:0<m)(hnc:n≤c)(hroom:c<n+m)(hbig:(n+m)*184≤140737488355328)
 (hcl:cs.length=n*11)(hvl:vs.length=m*11)
 (hcs:∀j v,cs[j]?=some v→w.cell? ⟨b,off+j,none⟩=some v)
 (hvs:∀j v,vs[j]?=some v→w.cell? ⟨vb,voff+j,none⟩=some v)(h1c:∀v∈cs,v.oneCell'=true)(h1v:∀v∈vs,v.oneCell'=true):
 Calls Tryz.prog 119 #[.slice (some ⟨b,off,none⟩) n c,.int .i64 i,.slice (some ⟨vb,voff,none⟩) m vc] w fun e w'=>
  e=.returned (.slice (some ⟨w.heap.size,0,none⟩) (n+m) (grownCap w (n+m) c 35))∧
  w'=(((w.alloc (.cells ((cs.take (i*11)).toArray++Builtin.zeroCells z.cells (n+m-i)++Builtin.zeroCells z.cells (grownCap w (n+m) c 35-(n+m))) 35)).drew.setCells w.heap.size (i*11) vs).drew).setCells w.heap.size ((i+m)*11) (cs.drop (i*11)):=by
 have mixed:Tryz.prog.follows .mixedOrders=true:=by kernel_rfl
 have hz1:¬((m:Int)=0):=by omega
 have hz2:¬((i:Int)=(n:Int)):=by omega
 have hz3:(c:Int)<(n:Int)+(m:Int):=by omega
 have hsz:(Tryz.prog.info? 35).map (·.size)=some 11:=by rw[hi0];simp[hzs]
 have hbw:b<w.heap.size:=block_lt_of_cell (hcs 0 _ (List.getElem?_eq_getElem (by omega)))
 have hvw:vb<w.heap.size:=block_lt_of_cell (hvs 0 _ (List.getElem?_eq_getElem (by omega)))
 have hkk:(n:Int)+(m:Int)-(i:Int)=((n+m-i:Nat):Int):=by omega
 have hik:i+(n+m-i)=n+m:=by omega
 have hold:(Builtin.firstCells i0.size i (.slice (some ⟨b,off,none⟩) i c)).run Tryz.prog w.drew=.ok (cs.take (i*11)).toArray w.drew:=by
  rw[hzs]
  exact run_firstCells_some w.drew 11 i ⟨b,off,none⟩ i c (cs.take (i*11)) (by rw[List.length_take];omega) (fun j v hj=>by
   rw[Addr.add_lit]
   rw[List.getElem?_take]at hj
   split at hj
   ·exact hcs j v hj
   ·cases hj)
 have hrz:∀ty,(Builtin.append_ #[23,3] ty #[.slice (some ⟨b,off,none⟩) i c,.int .i64 ((n:Int)+(m:Int)-(i:Int))]).run Tryz.prog w=
  .ok (.slice (some ⟨w.heap.size,0,none⟩) (n+m) (grownCap w (n+m) c 35)) (w.drew.alloc (.cells ((cs.take (i*11)).toArray++Builtin.zeroCells z.cells (n+m-i)++Builtin.zeroCells z.cells (grownCap w (n+m) c 35-(n+m))) 35)):=fun ty=>by
  have h:=Lib.run_append_grow_zeros w 23 3 ty 35 i0 _ .i64 .i64 Tryz.underlying23 Tryz.underlying3 hi0 hz0 (some ⟨b,off,none⟩) i c (cs.take (i*11)) hold (n+m-i) (by omega) (by omega) (by omega) (by omega) (by rw[hzb];omega) (by rw[hzb,hik];exact growslice_fits hroom hbig)
  rw[hik]at h
  rw[hkk]
  exact h
 obtain⟨G,hG⟩:∃G,G=grownCap w (n+m) c 35:=⟨_,rfl⟩
 obtain⟨ROW,hROW⟩:∃ROW:Array Value,ROW=(cs.take (i*11)).toArray++Builtin.zeroCells z.cells (n+m-i)++Builtin.zeroCells z.cells (G-(n+m)):=⟨_,rfl⟩
 rw[←hG]at hrz⊢
 rw[←hROW]at hrz⊢
 have hRl:(n+m)*11≤ROW.size:=by
  rw[hROW]
  simp[Builtin.zeroCells,hzc]
  omega
 obtain⟨W1,hW1⟩:∃W1,W1=w.drew.alloc (.cells ROW 35):=⟨_,rfl⟩
 rw[←hW1]at hrz
 have hN:∀j,j<(n+m)*11→(W1.cell? ⟨w.heap.size,j,none⟩).isSome=true:=fun j hj=>by
  rw[hW1,World.cell?_alloc_at (w:=w.drew) ROW _ w.heap.size j rfl,Array.getElem?_eq_getElem (by omega)];rfl
 have hNf:∀j,W1.frozen? ⟨w.heap.size,j,none⟩=false:=fun j=>by rw[hW1];exact World.frozen?_alloc_at (w:=w.drew) ROW _ w.heap.size j rfl
 have hOb:∀j v,w.cell? ⟨b,j,none⟩=some v→W1.cell? ⟨b,j,none⟩=some v:=fun j v h=>by rw[hW1,World.cell?_alloc_past (w:=w.drew) _ b j hbw];exact h
 have hOv:∀j v,w.cell? ⟨vb,j,none⟩=some v→W1.cell? ⟨vb,j,none⟩=some v:=fun j v h=>by rw[hW1,World.cell?_alloc_past (w:=w.drew) _ vb j hvw];exact h
 have hcpA:∀(W:World),(∀x,W.cell? x=W1.cell? x)→(∀x,W.frozen? x=W1.frozen? x)→∀ty dc,(Builtin.copy_ #[23,23] ty #[.slice (some ⟨w.heap.size,i*11,none⟩) (n+m-i) dc,.slice (some ⟨vb,voff,none⟩) m vc]).run Tryz.prog W=.ok (goInt (Nat.min m (n+m-i))) (W.setCells w.heap.size (i*11) vs):=fun W hWc hWf ty dc=>
  run_copy_cellsN W _ _ ty 35 w.heap.size (i*11) (n+m-i) dc ⟨vb,voff,none⟩ m vc vs Tryz.underlying23 hsz (by rw[hvl];simp only[Nat.min_def];split<;>omega)
   (fun j v hj=>by rw[Addr.add_lit,hWc];exact hOv _ v (hvs j v hj))
   (fun j hj=>by rw[hWc];exact hN _ (by omega)) (fun j hj=>by rw[hWf];exact hNf _) h1v
 have hGn:n+m≤G:=by rw[hG];exact grownCap_ge w _ _ _
 have hG63:G≤9223372036854775807:=by
  have:=grownCap_le_maxLen w (n+m) c 35 (by unfold maxLen;omega)
  rw[←hG]at this
  unfold maxLen at this
  omega
 have hGi:¬(G=i):=by omega
 have hGim:¬(G=i+m):=by omega
 have hci:¬(c=i):=by omega
 have hbN:b≠w.heap.size:=by omega
 have hdl:(cs.drop (i*11)).length=(n-i)*11:=by rw[List.length_drop,hcl];omega
 have hcpB:∀(W:World),(∀x,W.cell? x=(W1.setCells w.heap.size (i*11) vs).cell? x)→(∀x,W.frozen? x=(W1.setCells w.heap.size (i*11) vs).frozen? x)→∀ty dc sc,(Builtin.copy_ #[23,23] ty #[.slice (some ⟨w.heap.size,(i+m)*11,none⟩) (n+m-(i+m)) dc,.slice (some ⟨b,off+i*11,none⟩) (n-i) sc]).run Tryz.prog W=.ok (goInt (Nat.min (n-i) (n+m-(i+m)))) (W.setCells w.heap.size ((i+m)*11) (cs.drop (i*11))):=fun W hWc hWf ty dc sc=>
  run_copy_cellsN W _ _ ty 35 w.heap.size ((i+m)*11) (n+m-(i+m)) dc ⟨b,off+i*11,none⟩ (n-i) sc (cs.drop (i*11)) Tryz.underlying23 hsz (by rw[hdl];simp only[Nat.min_def];split<;>omega)
   (fun j v hj=>by
     rw[Addr.add_lit,hWc,World.cell?_setCells_out _ _ _ _ _ (fun h _=>absurd h hbN),Nat.add_assoc]
     exact hOb _ v (hcs (i*11+j) v (by rwa [List.getElem?_drop]at hj)))
   (fun j hj=>by rw[hWc];exact isSome_setCells _ _ _ _ (fun t ht=>hN _ (by omega)) _ (hN _ (by omega)))
   (fun j hj=>by rw[hWf,World.frozen?_setCells];exact hNf _) (fun v hv=>h1c v (List.mem_of_mem_drop hv))
 subst hW1
 have hE1:∀x,((w.alloc (.cells ROW 35)).drew).cell? x=(w.drew.alloc (.cells ROW 35)).cell? x:=fun x=>rfl
 have hE2:∀x,((w.alloc (.cells ROW 35)).drew).frozen? x=(w.drew.alloc (.cells ROW 35)).frozen? x:=fun x=>rfl
 have hF1:∀x,(((w.alloc (.cells ROW 35)).drew.setCells w.heap.size (i*11) vs).drew).cell? x=((w.drew.alloc (.cells ROW 35)).setCells w.heap.size (i*11) vs).cell? x:=fun x=>rfl
 have hF2:∀x,(((w.alloc (.cells ROW 35)).drew.setCells w.heap.size (i*11) vs).drew).frozen? x=((w.drew.alloc (.cells ROW 35)).setCells w.heap.size (i*11) vs).frozen? x:=fun x=>rfl
 have hw1:IntKind.i64.wrap ((i:Int)+(m:Int))=(i:Int)+(m:Int):=by rw[IntKind.wrap_i64];omega
 have hb1:(0:Int)≤(i:Int)+(m:Int):=by omega
 have hin:i≤n:=by omega
 have htn:((i:Int)+(m:Int)).toNat=i+m:=by omega
 have hb3:(i:Int)≤(n:Int):=by omega
 clear hkk hik hold hROW hG hRl
 go_enter Tryz.func119,Tryz.ntmps119
 go_wp2_with(first
  |(at_builtin;refine Lib.wpList_append_run _ rfl _ _ _ _ rfl _ _ rfl rfl _ _ (hrz _) ?_)
  |(at_builtin;refine wpList_copy_runI _ rfl _ _ 23 23 rfl _ _ rfl rfl (hcpA _ hE1 hE2 _ _) ?_)
  |(at_builtin;refine wpList_copy_runI _ rfl _ _ 23 23 rfl _ _ rfl rfl (hcpB _ (fun _=>rfl) (fun _=>rfl) _ _ _) ?_))
 go_region_law_o(refine step_copy_runI rfl _ _ 23 23 rfl (.slice (some ⟨w.heap.size,(i+m)*11,none⟩) (n+m-(i+m)) (G-(i+m))) (.slice (some ⟨b,off+i*11,none⟩) (n-i) (c-i)) (by simp[Act.eval,Act.put]) (by simp[Act.eval,Act.put]) (hcpB _ hF1 hF2 3 (G-(i+m)) (c-i)) ?_)
 go_wp2
 go_ret
 exact⟨rfl,rfl⟩
end Go.Proofs
set_option linter.unusedVariables false
set_option linter.unusedSimpArgs false
namespace Go.Aa
open Go.Proofs Go.RowKit
variable{P:Program}{G:Ghost}{w w':World}{H:Heap}
theorem ARep.app{u1 u2:List Value}{c1 c2:List AV}(h1:ARep G w u1 c1)(h2:ARep G w u2 c2):ARep G w (u1++u2) (c1++c2):=by
 refine⟨by simp[h1.1,h2.1],fun i i1 i2=> ?_⟩
 by_cases h:i<u1.length
 ·rw[List.getElem_append_left h,List.getElem_append_left (by rw[←h1.1];exact h)]
  exact h1.2 i h _
 ·rw[List.getElem_append_right (by omega),List.getElem_append_right (by rw[←h1.1];omega)]
  have:=h2.2 (i-u1.length) (by simp only[List.length_append]at i1;omega) (by have:=h1.1;simp only[List.length_append]at i2;omega)
  simp only[h1.1]at this⊢
  exact this
theorem ARep.tk{us:List Value}{cs:List AV}(o:Nat)(h:ARep G w us cs):ARep G w (us.take o) (cs.take o):=
 ⟨by simp[h.1],fun i i1 i2=>by simp only[List.getElem_take];exact h.2 i _ _⟩
theorem ARep.dr{us:List Value}{cs:List AV}(o:Nat)(h:ARep G w us cs):ARep G w (us.drop o) (cs.drop o):=
 ⟨by simp[h.1],fun i i1 i2=>by simp only[List.getElem_drop];exact h.2 _ _ _⟩
theorem setCells_row(P:Program){g o:Nat}{cur:Array Value}{t:TypeId}{vs:List Value}(hg:w.heap[g]?=some (.cells cur t (0,0)))(hfit:o+vs.length≤cur.size)(h1:∀v∈vs,v.oneCell'=true):
 w.setCells g o vs=w.setRow g (cur.toList.take o++vs++cur.toList.drop (o+vs.length)).toArray:=by
 have e1:=run_storeCells_at P g o t vs 0 cur w hg (by simpa using hfit) h1
 have e2:=run_storeCells_cells (P:=P) g o vs 0 w (fun j hj=>by
  have:o+j<cur.size:=by omega
  simp[World.cell?,hg,this]) (fun j hj=>by simp[World.frozen?,hg]) h1
 rw[e1]at e2
 simp only[Nat.add_zero,Result.ok.injEq,true_and]at e2
 exact e2.symm
theorem box_more{k:Nat}{cs cs':List AV}{us:Array Value}{e:TypeId}{X rest:List Value}(hH:HRep P G w H)(hk:G.on k)(hcs:H.boxes[k]?=some cs)(hne:cs≠[])(hb:w.heap[G.μ k]?=some (.cells us e (0,0)))
 (hX:ARep G w X cs')(hsz:(X++rest).length=us.size)(h1:w'.os=w.os)(h2:w'.tape=w.tape)(h3:w'.output=w.output)(h4:w.heap.size≤w'.heap.size)(h5:w'.heap[G.μ k]?=some (.cells (X++rest).toArray e (0,0)))
 (h6:∀b,b<w.heap.size→b≠G.μ k→w'.heap[b]?=w.heap[b]?):Step G w (G.more k) w'∧HRep P (G.more k) w' {H with boxes:=H.boxes.set k []++[cs']}:=by
 obtain⟨s1,s2⟩:=more_box (blk:=(X++rest).toArray) (cs':=cs') hH hk hcs hne hb (by simpa using hsz) (by simp[hX.1]) fun q q1 q2=>by
  have q3:q<X.length:=by rw[hX.1];exact q2
  have:(X++rest).toArray[q]=X[q]:=by simp only[List.getElem_toArray];exact List.getElem_append_left q3
  rw[this]
  exact hX.2 q q3 q2
 have hB:Below (w.setRow (G.μ k) (X++rest).toArray).heap.size (w.setRow (G.μ k) (X++rest).toArray) w':=by
  refine⟨h1,h2,h3,by simpa using h4,fun b hb'=> ?_⟩
  by_cases eb:b=G.μ k
  ·subst eb
   rw[h5]
   exact(setRow_heap w (G.μ k) us _ e (0,0) hb).symm
  ·rw[setRow_other _ _ _ _ eb]
   exact h6 b (by simpa using hb') eb
 obtain⟨t1,t2⟩:=below_step s2 hB
 exact⟨s1.trans t1,t2⟩
theorem box_made{cs':List AV}{e:TypeId}{X rest:List Value}(hH:HRep P G w H)(hX:ARep G w X cs')(h1:w'.os=w.os)(h2:w'.tape=w.tape)(h3:w'.output=w.output)(h4:w'.heap.size=w.heap.size+1)
 (h5:w'.heap[w.heap.size]?=some (.cells (X++rest).toArray e (0,0)))(h6:∀b,b<w.heap.size→w'.heap[b]?=w.heap[b]?):
 Step G w (G.box w.heap.size (X++rest).length) w'∧HRep P (G.box w.heap.size (X++rest).length) w' {H with boxes:=H.boxes++[cs']}:=by
 obtain⟨s1,s2⟩:=box_new hH e (us:=(X++rest).toArray) (cs:=cs') (by simp[hX.1]) fun q q1 q2=>by
  have q3:q<X.length:=by rw[hX.1];exact q2
  have:(X++rest).toArray[q]=X[q]:=by simp only[List.getElem_toArray];exact List.getElem_append_left q3
  rw[this]
  exact hX.2 q q3 q2
 simp only[List.size_toArray]at s1 s2
 have hB:Below (w.alloc (.cells (X++rest).toArray e)).heap.size (w.alloc (.cells (X++rest).toArray e)) w':=by
  refine⟨h1,h2,h3,by simp[h4],fun b hb'=> ?_⟩
  have hb':b<w.heap.size+1:=by simpa using hb'
  by_cases eb:b=w.heap.size
  ·subst eb
   rw[h5]
   show _=(w.heap.push _)[w.heap.size]?
   simp
  ·rw[Below.heap_alloc _ _ _ (by omega)]
   exact h6 b (by omega)
 obtain⟨t1,t2⟩:=below_step s2 hB
 exact⟨s1.trans t1,t2⟩
end Go.Aa
namespace Go.Aa.T
open Go.Aa Go.Proofs Go.RowKit
set_option maxHeartbeats 4000000 in
set_option maxRecDepth 100000 in
theorem clone_nil(n c:Nat)(w:World):Calls Tryz.prog 90 #[.slice none n c] w fun e w'=>e=.returned (.slice none 0 0)∧w'=w:=by
 have q22:∀(w:World)(a:Option Addr)(n c n' c':Nat),(binOp .eql 23 (.slice a n c) (.slice none n' c')).run Tryz.prog w=.ok (.bool a.isNone) w:=fun w a n c n' c'=>Lib.run_eql_slice_nil w _ _ a n c n' c' Tryz.underlying23
 go_enter Tryz.func90,Tryz.ntmps90
 go_wp2
 go_ret
 exact⟨rfl,rfl⟩
set_option maxHeartbeats 4000000 in
set_option maxRecDepth 100000 in
theorem clone_some(a:Addr)(n c:Nat)(w:World)(r:Value)(w2:World)(hr:(Builtin.append_ #[23,23] 23 #[.slice (some ⟨w.heap.size,0,none⟩) 0 0,.slice (some a) n c]).run Tryz.prog (w.alloc (.cells #[] 35))=.ok r w2):
 Calls Tryz.prog 90 #[.slice (some a) n c] w fun e w'=>e=.returned r∧w'=w2:=by
 have q22:∀(w:World)(a:Option Addr)(n c n' c':Nat),(binOp .eql 23 (.slice a n c) (.slice none n' c')).run Tryz.prog w=.ok (.bool a.isNone) w:=fun w a n c n' c'=>Lib.run_eql_slice_nil w _ _ a n c n' c' Tryz.underlying23
 obtain⟨ab,ao,asp⟩:=a
 go_enter Tryz.func90,Tryz.ntmps90
 go_wp2_with(at_builtin;refine Lib.wpList_append_run _ rfl _ _ _ _ rfl _ _ rfl rfl _ _ hr ?_)
 go_ret
 exact⟨rfl,rfl⟩
theorem info_el:∃i z,Tryz.prog.info? 35=some i∧i.zero=some z∧z.cells.size=11∧i.size=11∧i.bytes=184:=by
 have h:((Tryz.prog.info? 35).any fun i=>i.zero.any (fun z=>z.cells.size==11)&&(i.size==11&&i.bytes==184))=true:=by kernel_rfl
 obtain⟨i,hi,h⟩:=(Option.any_eq_true _ _).1 h
 simp only[Bool.and_eq_true,beq_iff_eq]at h
 obtain⟨h,h2,h3⟩:=h
 obtain⟨z,hz,h⟩:=(Option.any_eq_true _ _).1 h
 exact⟨i,z,hi,hz,by simpa using h,h2,h3⟩
theorem ext_clone:ExtOk Tryz.prog 90 (cloneE 11 184):=by
 intro az H v H' hg G w vs hH hargs
 unfold cloneE at hg
 split at hg
 ·rename_i k l
  obtain⟨i,z,hi,hz,hzs,his,hib⟩:=info_el
  rw[←his,←hib]at hg
  obtain⟨u,rfl,hr⟩:=args_1 hargs
  have hu:∃b n c,u=.slice b n c:=by
   cases hr with
   |sl0 a c=>exact⟨_,_,_,rfl⟩
   |sl a c=>exact⟨_,_,_,rfl⟩
  obtain⟨b,n,c,rfl⟩:=hu
  cases b with
  |none=>
   refine .inl ⟨w,by kernel_rfl,(clone_nil n c w).mono fun e1 w' hh=> ?_,rfl⟩
   obtain⟨rfl,rfl⟩:=hh
   cases hr with
   |sl0 a c=>
    simp only[appendMA,Option.some.injEq,Prod.mk.injEq]at hg
    obtain⟨rfl,rfl⟩:=hg
    exact⟨G,.refl _ _,hH,_,rfl,.sl0 none 0 .nil (fun _=>rfl) (fun t e=>by cases e)⟩
  |some a=>
   have hg1:=Grow.alloc (w:=w) hH.base (.cells #[] 35) 0
   have hst:=hg1.step hH.base
   have hx:Rep (G.set w.heap.size 0) (w.alloc (.cells #[] 35)) (.slice (some ⟨w.heap.size,0,none⟩) 0 0) (.sl .full []):=.sl0 _ _ _ (fun _=>rfl) (fun t e=>by cases e)
   obtain⟨r,w2,G2,j1,j2,j3,j4⟩:=run_appendMA (ty:=23) (hH.grow hg1) hx (hr.step hst) hg Tryz.underlying23 Tryz.underlying23 hi hz (by rw[hzs,his]) (by rw[his];decide) (by rw[hib];decide)
   refine .inl ⟨w,by kernel_rfl,(clone_some a n c w r w2 j1).mono fun e1 w' hh=> ?_,rfl⟩
   obtain⟨rfl,rfl⟩:=hh
   exact⟨G2,hst.trans j2,j3,_,rfl,j4⟩
 ·cases hg
theorem alls{G:Ghost}{w:World}{l:List AV}(h:l.all data0=true){us:List Value}(hr:ARep G w us l):∀v∈us,v.oneCell'=true:=by
 intro v hv
 obtain⟨j,hj,rfl⟩:=List.getElem_of_mem hv
 have hj2:j<l.length:=by rw[←hr.1];exact hj
 exact(hr.2 j hj hj2).one (data0_cell (List.all_eq_true.1 h _ (List.getElem_mem hj2)))
theorem ext_ins : ExtOk Tryz.prog 119 (insE 11 184) := by
  intro az H v H' hg G w vs hH hargs
  obtain ⟨i0, z, hi0, hz0, hzc, hzs, hzb⟩ := info_el
  unfold insE at hg
  split at hg
  · rename_i k off n es1 i kv ov m es2
    split at hg
    · rename_i cs vsA hcs hvs
      split at hg
      · rename_i hc
        obtain ⟨⟨hkk, rfl, rfl, rfl, rfl, rfl, hi1, hin⟩, hlen, hne, hvl, hd, hdv, hbig⟩ := hc
        simp only [Option.some.injEq, Prod.mk.injEq] at hg
        obtain ⟨rfl, rfl⟩ := hg
        obtain ⟨u0, u1, u2, rfl, r0, r1, r2⟩ := args_three hargs
        rw [int_inv r1]
        obtain ⟨N, rfl⟩ : ∃ N : Nat, i = N := ⟨i.toNat, by omega⟩
        have hN : N ≤ n := by omega
        simp only [Int.toNat_natCast]
        cases r0 with
        | msl _ _ _ c _ hk hnc hcm he0 hcap =>
        cases r2 with
        | msl _ _ _ vc _ hkv hvnc hvcm _ hvcap =>
        obtain ⟨hlt, hcs'⟩ := List.getElem?_eq_some_iff.1 hcs
        obtain ⟨hltv, hvs'⟩ := List.getElem?_eq_some_iff.1 hvs
        obtain ⟨us, e, hb, ⟨hsz, hmc⟩, hrep⟩ := hH.box k hlt hk.2
        obtain ⟨vu, ve, hvb, ⟨hvsz, hvmc⟩, hvrep⟩ := hH.box kv hltv hkv.2
        rw [hcs'] at hsz hrep
        rw [hvs'] at hvsz hvrep
        have hne' : cs ≠ [] := fun e => by rw [e] at hne; simp at hne
        have hlive : LiveB H k := fun e => by rw [hcs] at e; simp only [Option.some.injEq] at e; exact hne' e
        have hlivev : LiveB H kv := fun e => by rw [hvs] at e; simp only [Option.some.injEq] at e; rw [e] at hvl; simp at hvl
        have hμ : G.μ kv ≠ G.μ k := fun e => hkk (hH.μinj kv k hkv hk hlivev hlive e).symm
        have hCS : ARep G w (us.toList.take (n * 11)) (cs.take (n * 11)) := ⟨by simp; omega, fun j j1 j2 => by
          simp only [List.getElem_take, Array.getElem_toList]
          exact hrep j (by simp at j1; omega) (by simp at j2; omega)⟩
        have hVS : ARep G w (vu.toList.take 11) vsA := ⟨by simp; omega, fun j j1 j2 => by
          simp only [List.getElem_take, Array.getElem_toList]
          exact hvrep j (by simp at j1; omega) j2⟩
        have hX : ARep G w ((us.toList.take (n * 11)).take (N * 11) ++ vu.toList.take 11 ++ (us.toList.take (n * 11)).drop (N * 11)) (cs.take (N * 11) ++ vsA ++ (cs.take (n * 11)).drop (N * 11)) := by
          have := ((hCS.tk (N * 11)).app hVS).app (hCS.dr (N * 11))
          rw [List.take_take, Nat.min_eq_left (by omega)] at this
          rw [List.take_take, Nat.min_eq_left (by omega)]
          rw [List.take_take, Nat.min_eq_left (by omega)] at this
          exact this
        have h1c := alls (List.all_eq_true.2 fun x hx => List.all_eq_true.1 hd x (List.mem_of_mem_take hx)) hCS
        have h1v := alls hdv hVS
        have hCSl : (us.toList.take (n * 11)).length = n * 11 := by rw [List.length_take, Array.length_toList]; omega
        have hVSl : (vu.toList.take 11).length = 1 * 11 := by rw [List.length_take, Array.length_toList]; omega
        have hcsc : ∀ j x, (us.toList.take (n * 11))[j]? = some x → w.cell? ⟨G.μ k, 0 + j, none⟩ = some x := fun j x hj => by
          rw [List.getElem?_take] at hj
          split at hj
          · rw [Array.getElem?_toList] at hj
            simp [World.cell?, hb, hj]
          · cases hj
        have hvsc : ∀ j x, (vu.toList.take 11)[j]? = some x → w.cell? ⟨G.μ kv, 0 + j, none⟩ = some x := fun j x hj => by
          rw [List.getElem?_take] at hj
          split at hj
          · rw [Array.getElem?_toList] at hj
            simp [World.cell?, hvb, hj]
          · cases hj
        have hfz : ∀ j, w.frozen? ⟨G.μ k, j, none⟩ = false := fun j => by simp [World.frozen?, hb]
        have hvfz : ∀ j, w.frozen? ⟨G.μ kv, j, none⟩ = false := fun j => by simp [World.frozen?, hvb]
        have hcell : ∀ j, j < us.size → (w.cell? ⟨G.μ k, j, none⟩).isSome = true := fun j hj => by simp [World.cell?, hb, hj]
        have hXl := hX.1
        generalize hCSe : us.toList.take (n * 11) = CS at hX hXl hCSl hcsc h1c
        generalize hVSe : vu.toList.take 11 = VS at hX hXl hVSl hvsc h1v
        have hlb : (H.boxes.set k []).length = H.boxes.length := by simp
        by_cases hroom : n + 1 ≤ c
        · -- there is room
          have hcu : (n + 1) * 11 ≤ us.size := by
            have := Nat.mul_le_mul_right 11 hroom
            omega
          have hfin : ∀ w', w'.os = w.os → w'.tape = w.tape → w'.output = w.output → w.heap.size ≤ w'.heap.size → w'.heap[G.μ k]? = some (.cells ((CS.take (N * 11) ++ VS ++ CS.drop (N * 11)) ++ us.toList.drop ((n + 1) * 11)).toArray e (0, 0)) →
              (∀ b, b < w.heap.size → b ≠ G.μ k → w'.heap[b]? = w.heap[b]?) → PostOk Tryz.prog G w (.ret (.msl H.boxes.length 0 (n + 1) 11)) { H with boxes := H.boxes.set k [] ++ [cs.take (N * 11) ++ vsA ++ (cs.take (n * 11)).drop (N * 11)] } (.returned (.slice (some ⟨G.μ k, 0, none⟩) (n + 1) c)) w' := fun w' h1 h2 h3 h4 h5 h6 => by
            obtain ⟨s1, s2⟩ := box_more hH hk hcs hne' hb hX (by
              simp only [List.length_append, List.length_take, List.length_drop, Array.length_toList, hCSl, hVSl]; omega) h1 h2 h3 h4 h5 h6
            refine ⟨_, s1, s2, _, rfl, ?_⟩
            have := Rep.msl (G := G.more k) (w := w') G.nb 0 (n + 1) c 11 ⟨by simp [Ghost.more], by simp [Ghost.more]⟩ hroom hcm (by decide) (by simp only [Ghost.more, if_pos]; rw [← hmc, hmc]; exact hcap)
            simp only [Ghost.more, if_pos] at this
            rw [← hH.nb]
            exact this
          by_cases hend : N = n
          · subst hend
            have hcall := ins_end_room (G.μ k) 0 N c (G.μ kv) 0 1 vc VS w i0 hi0 hzs (by omega) hroom hcm hVSl (fun j hj => by rw [show 0 + N * 11 + j = N * 11 + j by omega]; exact hcell _ (by omega)) (fun j hj => hfz _) hvsc h1v
            refine .inl ⟨w, by kernel_rfl, hcall.mono fun e1 w' hh => ?_, rfl⟩
            obtain ⟨rfl, rfl⟩ := hh
            rw [setCells_row Tryz.prog hb (by rw [hVSl]; omega) h1v]
            refine hfin _ rfl rfl rfl (by simp) ?_ (fun b hb1 hb2 => setRow_other _ _ _ _ hb2)
            rw [setRow_heap _ _ us _ e (0, 0) hb]
            rw [show 0 + N * 11 = N * 11 by omega, hVSl, ← hCSe, List.take_take, Nat.min_self, List.drop_eq_nil_of_le («as» := us.toList.take (N * 11)) (by simp; omega), List.append_nil, show N * 11 + 1 * 11 = (N + 1) * 11 by omega]
          · have hcall := ins_shift (G.μ k) 0 n c N (G.μ kv) 0 1 vc CS VS w (by omega) (by omega) hroom hcm hμ hCSl hVSl hcsc (fun j hj => by rw [Nat.zero_add]; exact hcell _ (by omega)) (fun j hj => hfz _) hvsc h1c h1v ve e vu.size us.size
              (by simp [World.shape?, hvb]) (by simp [World.shape?, hb]) (by omega) (hvfz _) (hvfz _)
            refine .inl ⟨w, by kernel_rfl, hcall.mono fun e1 w' hh => ?_, rfl⟩
            obtain ⟨rfl, rfl⟩ := hh
            have hb0 : w.drew.heap[G.μ k]? = some (.cells us e (0, 0)) := hb
            have hdl : (CS.drop (N * 11)).length = (n - N) * 11 := by rw [List.length_drop, hCSl]; omega
            rw [setCells_row Tryz.prog hb0 (by rw [hdl]; omega) (fun v hv => h1c v (List.mem_of_mem_drop hv))]
            have hb1 := setRow_heap w.drew (G.μ k) us ((us.toList.take (0 + (N + 1) * 11) ++ CS.drop (N * 11) ++ us.toList.drop (0 + (N + 1) * 11 + (CS.drop (N * 11)).length)).toArray) e (0, 0) hb0
            rw [setCells_row Tryz.prog hb1 (by simp only [List.size_toArray, List.length_append, List.length_take, List.length_drop, Array.length_toList, hVSl, hCSl]; omega) h1v]
            refine hfin _ rfl rfl rfl (by simp) ?_ (fun b hb1 hb2 => by rw [setRow_other _ _ _ _ hb2, setRow_other _ _ _ _ hb2]; rfl)
            rw [setRow_heap _ _ _ _ e (0, 0) hb1]
            refine congrArg (fun l : List Value => some (Obj.cells l.toArray e (0, 0))) ?_
            simp only [List.append_assoc, hVSl, hdl]
            rw [show 0 + N * 11 + 1 * 11 = 0 + (N + 1) * 11 by omega]
            rw [List.take_append_of_le_length (by simp only [List.length_take, Array.length_toList]; omega), List.take_take, Nat.min_eq_left (by omega)]
            rw [List.drop_append_of_le_length (by simp only [List.length_take, Array.length_toList]; omega), List.drop_eq_nil_of_le («as» := us.toList.take _) (by simp only [List.length_take, Array.length_toList]; omega), List.nil_append, ← hCSe, List.take_take, Nat.min_eq_left (by omega), show 0 + N * 11 = N * 11 by omega,
              show 0 + (N + 1) * 11 + (n - N) * 11 = (n + 1) * 11 by omega]
        · -- a new block
          have hfin : ∀ (cap : Nat) (rest : List Value) w', n + 1 ≤ cap → cap ≤ 9223372036854775807 → ((CS.take (N * 11) ++ VS ++ CS.drop (N * 11)) ++ rest).length = cap * 11 → w'.os = w.os → w'.tape = w.tape → w'.output = w.output → w'.heap.size = w.heap.size + 1 → w'.heap[w.heap.size]? = some (.cells ((CS.take (N * 11) ++ VS ++ CS.drop (N * 11)) ++ rest).toArray 35 (0, 0)) →
              (∀ b, b < w.heap.size → w'.heap[b]? = w.heap[b]?) → PostOk Tryz.prog G w (.ret (.msl H.boxes.length 0 (n + 1) 11)) { H with boxes := H.boxes.set k [] ++ [cs.take (N * 11) ++ vsA ++ (cs.take (n * 11)).drop (N * 11)] } (.returned (.slice (some ⟨w.heap.size, 0, none⟩) (n + 1) cap)) w' := fun cap rest w' hc1 hc2 hc3 h1 h2 h3 h4 h5 h6 => by
            obtain ⟨s1, s2⟩ := box_made (hH.kill k) hX h1 h2 h3 h4 h5 h6
            rw [hc3] at s1 s2
            refine ⟨_, s1, s2, _, rfl, ?_⟩
            have := Rep.msl (G := G.box w.heap.size (cap * 11)) (w := w') G.nb 0 (n + 1) cap 11 ⟨by simp [Ghost.box], by simp [Ghost.box]⟩ hc1 hc2 (by decide) (by simp [Ghost.box])
            simp only [Ghost.box, if_pos] at this
            rw [← hH.nb]
            exact this
          have hcap1 : n + 1 ≤ grownCap w (n + 1) c 35 := grownCap_ge _ _ _ _
          have hcap2 : grownCap w (n + 1) c 35 ≤ 9223372036854775807 := grownCap_lt _ _ (by omega)
          generalize hgc : grownCap w (n + 1) c 35 = cap at hcap1 hcap2
          by_cases hend : N = n
          · subst hend
            have hcall := ins_end_grow (some ⟨G.μ k, 0, none⟩) N c (G.μ kv) 0 1 vc CS VS w i0 z hi0 hz0 hzs hzb (by omega) hnc (by omega) hbig hCSl hVSl (fun e => by cases e) (fun a ha j x hj => by
              simp only [Option.some.injEq] at ha
              subst ha
              rw [Addr.add_lit]
              exact hcsc j x hj) hvsc h1v
            rw [hgc] at hcall
            refine .inl ⟨w, by kernel_rfl, hcall.mono fun e1 w' hh => ?_, rfl⟩
            obtain ⟨rfl, rfl⟩ := hh
            have e0 : CS.take (N * 11) ++ VS ++ CS.drop (N * 11) = CS ++ VS := by rw [List.take_of_length_le (by omega), List.drop_eq_nil_of_le (by omega), List.append_nil]
            refine hfin cap (Builtin.zeroCells z.cells (cap - (N + 1))).toList _ hcap1 hcap2 (by
              rw [e0]
              simp only [List.length_append, Array.length_toList, size_zeroCells, hzc, hCSl, hVSl]; omega) rfl rfl rfl (by simp) ?_ (fun b hb1 => Below.heap_alloc _ _ _ hb1)
            show (w.drew.heap.push _)[w.drew.heap.size]? = _
            rw [Array.getElem?_push_size, e0, Array.toArray_append]
          · have hcall := ins_grow (G.μ k) 0 n c N (G.μ kv) 0 1 vc CS VS w i0 z hi0 hz0 hzs hzb hzc (by omega) (by omega) hnc (by omega) hbig hCSl hVSl hcsc hvsc h1c h1v
            rw [hgc] at hcall
            refine .inl ⟨w, by kernel_rfl, hcall.mono fun e1 w' hh => ?_, rfl⟩
            obtain ⟨rfl, rfl⟩ := hh
            have hdl : (CS.drop (N * 11)).length = (n - N) * 11 := by rw [List.length_drop, hCSl]; omega
            have htl : (CS.take (N * 11)).length = N * 11 := by rw [List.length_take, hCSl]; omega
            generalize hR0 : (CS.take (N * 11)).toArray ++ Builtin.zeroCells z.cells (n + 1 - N) ++ Builtin.zeroCells z.cells (cap - (n + 1)) = R0
            have hR0l : R0.toList = CS.take (N * 11) ++ ((Builtin.zeroCells z.cells (n + 1 - N)).toList ++ (Builtin.zeroCells z.cells (cap - (n + 1))).toList) := by rw [← hR0]; simp
            have hZ1 : (Builtin.zeroCells z.cells (n + 1 - N)).toList.length = (n + 1 - N) * 11 := by rw [Array.length_toList, size_zeroCells, hzc]
            have hZ2 : (Builtin.zeroCells z.cells (cap - (n + 1))).toList.length = (cap - (n + 1)) * 11 := by rw [Array.length_toList, size_zeroCells, hzc]
            generalize (Builtin.zeroCells z.cells (n + 1 - N)).toList = Z1 at hR0l hZ1
            have hR0s : R0.size = cap * 11 := by
              rw [← Array.length_toList, hR0l]
              simp only [List.length_append, htl, hZ1, hZ2]; omega
            have hb0 : (w.alloc (.cells R0 35)).drew.heap[w.heap.size]? = some (.cells R0 35 (0, 0)) := by
              show (w.heap.push _)[w.heap.size]? = _
              simp
            rw [setCells_row Tryz.prog hb0 (by rw [hVSl, hR0s]; omega) h1v]
            have hb1 := setRow_heap (w.alloc (.cells R0 35)).drew w.heap.size R0 ((R0.toList.take (N * 11) ++ VS ++ R0.toList.drop (N * 11 + VS.length)).toArray) 35 (0, 0) hb0
            rw [setCells_row Tryz.prog (w := ((w.alloc (.cells R0 35)).drew.setRow w.heap.size (R0.toList.take (N * 11) ++ VS ++ R0.toList.drop (N * 11 + VS.length)).toArray).drew) hb1 (by
              simp only [List.size_toArray, List.length_append, List.length_take, List.length_drop, Array.length_toList, hVSl, hR0s, hCSl]; omega) (fun v hv => h1c v (List.mem_of_mem_drop hv))]
            refine hfin cap (Builtin.zeroCells z.cells (cap - (n + 1))).toList _ hcap1 hcap2 (by
              simp only [List.length_append, hZ2, hdl, htl, hVSl]; omega) rfl rfl rfl (by simp) ?_ (fun b hb1 => by
                rw [setRow_other _ _ _ _ (by omega)]
                show ((w.alloc (.cells R0 35)).drew.setRow w.heap.size _).heap[b]? = _
                rw [setRow_other _ _ _ _ (by omega)]
                exact Below.heap_alloc _ _ _ hb1)
            rw [setRow_heap (((w.alloc (.cells R0 35)).drew.setRow w.heap.size (R0.toList.take (N * 11) ++ VS ++ R0.toList.drop (N * 11 + VS.length)).toArray).drew) _ _ _ 35 (0, 0) hb1]
            refine congrArg (fun l : List Value => some (Obj.cells l.toArray 35 (0, 0))) ?_
            simp only [hVSl, hdl, hR0l]
            have a1 : (CS.take (N * 11) ++ (Z1 ++ (Builtin.zeroCells z.cells (cap - (n + 1))).toList)).take (N * 11) = CS.take (N * 11) := by
              rw [List.take_append_of_le_length (by omega), List.take_of_length_le (by omega)]
            rw [a1]
            have a2 : (CS.take (N * 11) ++ VS ++ (CS.take (N * 11) ++ (Z1 ++ (Builtin.zeroCells z.cells (cap - (n + 1))).toList)).drop (N * 11 + 1 * 11)).take ((N + 1) * 11) = CS.take (N * 11) ++ VS := by
              rw [List.take_append_of_le_length (by simp only [List.length_append, htl, hVSl]; omega), List.take_of_length_le (by simp only [List.length_append, htl, hVSl]; omega)]
            rw [a2]
            refine congrArg (fun l : List Value => CS.take (N * 11) ++ VS ++ CS.drop (N * 11) ++ l) ?_
            have hx1 : (CS.take (N * 11) ++ VS).length = N * 11 + 1 * 11 := by simp only [List.length_append, htl, hVSl]
            have hx2 : (CS.take (N * 11) ++ Z1).length = N * 11 + 1 * 11 + (n - N) * 11 := by simp only [List.length_append, htl, hZ1]; omega
            rw [List.drop_append, hx1, List.drop_eq_nil_of_le (by rw [hx1]; omega), List.nil_append, List.drop_drop, ← List.append_assoc (CS.take (N * 11)) Z1, show N * 11 + 1 * 11 + ((N + 1) * 11 + (n - N) * 11 - (N * 11 + 1 * 11)) = (CS.take (N * 11) ++ Z1).length by omega, List.drop_append_length]
      · cases hg
    · cases hg
  · rename_i i kv ov m es2
    split at hg
    · rename_i vsA hvs
      split at hg
      · rename_i hc
        obtain ⟨rfl, rfl, rfl, rfl, hvl, hdv, hbig⟩ := hc
        simp only [Option.some.injEq, Prod.mk.injEq] at hg
        obtain ⟨rfl, rfl⟩ := hg
        obtain ⟨u0, u1, u2, rfl, r0, r1, r2⟩ := args_three hargs
        rw [int_inv r1]
        cases r2 with
        | msl _ _ _ vc _ hkv hvnc hvcm _ hvcap =>
        obtain ⟨hltv, hvs'⟩ := List.getElem?_eq_some_iff.1 hvs
        obtain ⟨vu, ve, hvb, ⟨hvsz, hvmc⟩, hvrep⟩ := hH.box kv hltv hkv.2
        rw [hvs'] at hvsz hvrep
        have hVS : ARep G w (vu.toList.take 11) vsA := ⟨by simp; omega, fun j j1 j2 => by
          simp only [List.getElem_take, Array.getElem_toList]
          exact hvrep j (by simp at j1; omega) j2⟩
        have h1v := alls hdv hVS
        have hVSl : (vu.toList.take 11).length = 1 * 11 := by rw [List.length_take, Array.length_toList]; omega
        have hvsc : ∀ j x, (vu.toList.take 11)[j]? = some x → w.cell? ⟨G.μ kv, 0 + j, none⟩ = some x := fun j x hj => by
          rw [List.getElem?_take] at hj
          split at hj
          · rw [Array.getElem?_toList] at hj
            simp [World.cell?, hvb, hj]
          · cases hj
        generalize hVSe : vu.toList.take 11 = VS at hVS hVSl hvsc h1v
        cases r0 with
        | sl _ _ _ _ _ _ hl => exact absurd rfl hl
        | sl0 a c _ hc0 _ =>
        have : c = 0 := hc0 rfl
        subst this
        have hcall := ins_end_grow a 0 0 (G.μ kv) 0 1 vc [] VS w i0 z hi0 hz0 hzs hzb (by omega) (by omega) (by omega) (by omega) rfl hVSl (fun _ => rfl) (fun _ _ _ _ hj => by simp at hj) hvsc h1v
        have hcap1 : 0 + 1 ≤ grownCap w (0 + 1) 0 35 := grownCap_ge _ _ _ _
        have hcap2 : grownCap w (0 + 1) 0 35 ≤ 9223372036854775807 := grownCap_lt _ _ (by omega)
        generalize hgc : grownCap w (0 + 1) 0 35 = cap at hcap1 hcap2 hcall
        refine .inl ⟨w, by kernel_rfl, hcall.mono fun e1 w' hh => ?_, rfl⟩
        obtain ⟨rfl, rfl⟩ := hh
        have hl0 : (VS ++ (Builtin.zeroCells z.cells (cap - (0 + 1))).toList).length = cap * 11 := by
          simp only [List.length_append, Array.length_toList, size_zeroCells, hzc, hVSl]; omega
        obtain ⟨s1, s2⟩ := box_made (e := 35) (rest := (Builtin.zeroCells z.cells (cap - (0 + 1))).toList) (w' := w.drew.alloc (.cells (([] ++ VS).toArray ++ Builtin.zeroCells z.cells (cap - (0 + 1))) 35)) hH hVS rfl rfl rfl (by simp) (by
          show (w.drew.heap.push _)[w.drew.heap.size]? = _
          rw [Array.getElem?_push_size, List.nil_append, Array.toArray_append]) (fun b hb1 => Below.heap_alloc _ _ _ hb1)
        rw [hl0] at s1 s2
        refine ⟨_, s1, s2, _, rfl, ?_⟩
        have := Rep.msl (G := G.box w.heap.size (cap * 11)) (w := w.drew.alloc (.cells (([] ++ VS).toArray ++ Builtin.zeroCells z.cells (cap - (0 + 1))) 35)) G.nb 0 (0 + 1) cap 11 ⟨by simp [Ghost.box], by simp [Ghost.box]⟩ hcap1 hcap2 (by decide) (by simp [Ghost.box])
        simp only [Ghost.box, if_pos] at this
        rw [← hH.nb]
        exact this
      · cases hg
    · cases hg
  · cases hg
end Go.Aa.T
set_option linter.unusedVariables false
set_option linter.unusedSimpArgs false
set_option maxRecDepth 100000
namespace Go.Aa.T
open Go.Aa Go.Proofs Go.RowKit Go.Shelf
theorem cfgOk:CfgOk Tryz.prog cfg:=by
 refine⟨by kernel_rfl,fun f A h=>tab_fn h,fun f g h=> ?_,fun f h=> ?_⟩
 ·have h:extF f=some g:=h
  unfold extF at h
  split at h<;>simp only[Option.some.injEq,reduceCtorEq]at h<;>subst h
  ·exact ext_trim (fun _ _=>by kernel_rfl) fun s c w h1 h2 h3=>Any.strings_Trim_laid Tryz.lays160 (by kernel_rfl) s c w h1 h2 h3
  ·exact ext_cmp (fun _ _=>by kernel_rfl) fun a b w=>Any.strings_Compare Tryz.lays106 a b w
  ·exact ext_sort (fun _ _=>by kernel_rfl) (fun a c w=>Any.slices_Sort_string_none Tryz.lays190 a c w) fun blk off cap ss w h1 h2 h3=>Any.slices_Sort_string Tryz.lays190 blk off cap ss w h1 h2 h3
  ·exact ext_ins
  ·exact ext_clone
 ·have h:(f==77)=true:=h
  have:f=77:=by simpa using h
  subst this
  exact Go.Proofs.YtjoblbpgpmknmaaGreatDoor.T.tryOk
#print axioms cfgOk
end Go.Aa.T
set_option linter.unusedVariables false
set_option linter.unusedSimpArgs false
namespace Go.Aa
variable{P:Program}{R:List (Nat×Nat)}
def rkOf(R:List (Nat×Nat))(u:Nat):Option Nat:=(R.find? fun p=>p.1==u).map (·.2)
def rkB(P:Program)(R:List (Nat×Nat)):Bool:=R.all fun p=>(P.partsOf p.1).all fun v=>match rkOf R v with
 |some r=>Nat.blt r p.2
 |none=>false
theorem rk_part(h:rkB P R=true){u ru v:Nat}(hu:rkOf R u=some ru)(hv:v∈P.partsOf u):∃r,rkOf R v=some r∧r<ru:=by
 unfold rkOf at hu
 obtain⟨p,hp,rfl⟩:=Option.map_eq_some_iff.1 hu
 have hm:=List.mem_of_find?_eq_some hp
 have he:=List.find?_some hp
 simp only[beq_iff_eq]at he
 have h1:=List.all_eq_true.1 h p hm
 rw[he]at h1
 have h2:=List.all_eq_true.1 h1 v hv
 split at h2
 ·rename_i r hr
  exact⟨r,hr,by simpa using h2⟩
 ·cases h2
theorem rk_grow(h:rkB P R=true){s:List TypeId}{r:Nat}(hs:∀x∈s,∃q,rkOf R x=some q∧q≤r):∀x∈P.grow s,∃q,rkOf R x=some q∧q≤r:=by
 intro x hx
 unfold Program.grow at hx
 rw[List.mem_eraseDups,List.mem_append]at hx
 rcases hx with hx|hx
 ·exact hs x hx
 ·obtain⟨u,hu,hx⟩:=List.mem_flatMap.1 hx
  obtain⟨q,hq,hl⟩:=hs u hu
  obtain⟨q',hq',hl'⟩:=rk_part h hq hx
  exact⟨q',hq',by omega⟩
theorem rk_grown(h:rkB P R=true){r:Nat}:∀(n:Nat){s:List TypeId},(∀x∈s,∃q,rkOf R x=some q∧q≤r)→∀x∈P.grown n s,∃q,rkOf R x=some q∧q≤r
 |0,_,hs=>hs
 |n+1,_,hs=>rk_grown h n (rk_grow h hs)
theorem rk_book(h:rkB P R=true){t r:Nat}(ht:rkOf R t=some r):∀x∈P.book t,∃q,rkOf R x=some q∧q≤r:=
 rk_grown h _ fun x hx=>by
  rw[List.mem_singleton]at hx
  subst hx
  exact⟨r,ht,Nat.le_refl _⟩
theorem rk_loops(h:rkB P R=true){t r:Nat}(ht:rkOf R t=some r):P.loopsFrom t=false:=by
 unfold Program.loopsFrom
 rw[List.any_eq_false]
 intro u hu
 obtain⟨ru,hu1,-⟩:=rk_book h ht u hu
 simp only[Bool.not_eq_true]
 rw[List.any_eq_false]
 intro v hv
 obtain⟨rv,hv1,hlt⟩:=rk_part h hu1 hv
 intro hc
 have hm:u∈P.book v:=by simpa using hc
 obtain⟨q,hq,hl⟩:=rk_book h hv1 u hm
 rw[hu1]at hq
 simp only[Option.some.injEq]at hq
 omega
theorem rk_all(h:rkB P R=true){ts:List TypeId}(ht:(ts.all fun t=>(rkOf R t).isSome)=true):ts.any (P.loopsFrom ·)=false:=by
 rw[List.any_eq_false]
 intro t hm
 have:=List.all_eq_true.1 ht t hm
 obtain⟨r,hr⟩:=Option.isSome_iff_exists.1 this
 rw[rk_loops h hr]
 exact Bool.false_ne_true
end Go.Aa
