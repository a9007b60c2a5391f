/-
  WHAT THE LAW LEANS ON, part 10 of 11: a machine of values and its soundness; the functions of the law upon it; what they come to.
-/
import Derived.Test.YtjoblbpgpmknmaaGreatDoorXchgi
set_option linter.unusedVariables false
set_option linter.unusedSimpArgs false
set_option maxRecDepth 100000
namespace Go.Aa.T
open Go.Aa Go.Proofs
def sameBB(a b:Bud):Bool:=a.name==b.name&&(a.floor==b.floor&&same2 eqM a.sel b.sel)
theorem sameBB_iff(a b:Bud):sameBB a b=true↔a=b:=by
 cases a;cases b
 simp[sameBB,same2_iff eqM_iff]
 exact fun _=>And.comm
structure SmN(n:Node):Prop where
 cap:n.cap.length<9223372036854775807
 labels:n.labels.length<9223372036854775807
 taints:n.taints.length<9223372036854775807
structure SmP(p:Pod):Prop where
 need:p.need.length<9223372036854775807
 labels:p.labels.length<9223372036854775807
 sel:p.sel.length<9223372036854775807
 tols:p.tols.length<9223372036854775807
theorem smN{n:Node}(h:fewN n=true):SmN n:=⟨by have:=(fewNd h).cap;omega,by have:=(fewNd h).labels;omega,by have:=(fewNd h).taints;omega⟩
theorem smP{p:Pod}(h:fewPd p=true):SmP p:=⟨by have:=(fewPod h).need;omega,by have:=(fewPod h).labels;omega,by have:=(fewPod h).sel;omega,by have:=(fewPod h).tols;omega⟩
def sameSt(a b:St):Bool:=same2 sameNB a.nodes b.nodes&&(same2 samePB a.pods b.pods&&same2 sameBB a.buds b.buds)
structure SmS(s:St):Prop where
 nodes:s.nodes.length<9223372036854775807
 pods:s.pods.length<9223372036854775807
 buds:s.buds.length<9223372036854775807
 node:∀x∈s.nodes,SmN x
 pod:∀x∈s.pods,SmP x
 bud:∀x∈s.buds,x.sel.length<9223372036854775807
theorem smS{s:St}(h:FewS s):SmS s:=
 ⟨by have:=h.nodes;omega,by have:=h.pods;omega,by have:=fewBs_len h.buds;omega,fun x hx=>smN (h.node x hx),fun x hx=>smP (h.pod x hx),fun x hx=>by have:=fewB1_sel (fewBs_all h.buds x hx);omega⟩
theorem sameSt_iff(a b:St):sameSt a b=true↔a=b:=by
 cases a;cases b
 simp[sameSt,same2_iff sameNB_iff,same2_iff samePB_iff,same2_iff sameBB_iff]
theorem sameR_buds(a b:St)(h:SmS a)(he:a.buds.length=b.buds.length):∀(post q:List Bud)(i:Nat)(hd:a.buds.drop i=post)(hq:b.buds.drop i=q)(T:Env)(hT:Has T [(2,.ptr 0 0),(3,.ptr 1 0),(7,.int .i64 i)]),
 Goes cfg a51 k51_2 T ⟨[(encSt a).cells,(encSt b).cells],[],[]⟩ (IsRet (.bool (same2 sameBB post q))):=by
 intro post
 induction post with
 |nil=>
  intro q i hd hq T hT
  have hge:=drop_ge hd
  have hl:=h.buds
  have e:q=[]:=by rw[←hq];exact List.drop_eq_nil_of_le (by omega)
  subst e
  exact goG 60 _ hT (.len (show lenA false (.sl .sh (a.buds.map encB))=some (.int .i64 (↑a.buds.length))from len_map _)<|.no (decide_eq_false (p:=(↑i:Int)<(↑a.buds.length:Int)) (by omega))<|.fin ((.ret (.bool true),{boxes:=[[.sl .sh (a.nodes.map encN),.sl .sh (a.pods.map encPd),.sl .sh (a.buds.map encB)],[.sl .sh (b.nodes.map encN),.sl .sh (b.pods.map encPd),.sl .sh (b.buds.map encB)]],toks:=[],loops:=[]:Heap})) rfl) (by kernel_rfl)
 |cons x post ih=>
  intro q i hd hq T hT
  have hlt:=drop_lt hd
  have hnx:=drop_next hd
  have hl:=h.buds
  cases q with
  |nil=>have:=drop_ge hq;omega
  |cons y q=>
   have hnq:=drop_next hq
   have hx:idxA 3 (.sl .sh (a.buds.map encB)) (.int .i64 (i:Nat))=some (.ref (encB x).cells):=idx_row (f:=encB) hd rfl
   have hy:idxA 3 (.sl .sh (b.buds.map encB)) (.int .i64 (i:Nat))=some (.ref (encB y).cells):=idx_row (f:=encB) hq rfl
   have hs:=sameMR x.sel y.sel (h.bud x (drop_mem hd))
   have ih':=ih q (i+1) hnx hnq
   have e2:same2 sameBB (x::post) (y::q)=(sameBB x y&&same2 sameBB post q):=rfl
   rw[e2]
   have e3:sameBB x y=(x.name==y.name&&(x.floor==y.floor&&same2 eqM x.sel y.sel)):=rfl
   rw[e3]
   generalize same2 eqM x.sel y.sel=c at hs⊢
   by_cases q1:x.name=y.name
   ·by_cases q2:x.floor=y.floor
    ·cases c with
     |true=>
      have e:((x.name==y.name&&(x.floor==y.floor&&true))&&same2 sameBB post q)=same2 sameBB post q:=by simp[q1,q2]
      rw[e]
      exact let ζ1:List AV:=[.sl .sh (x.sel.map encM),.sl .sh (y.sel.map encM)];goG 160 _ hT (.len (show lenA false (.sl .sh (a.buds.map encB))=some (.int .i64 (↑a.buds.length))from len_map _)<|.yes (decide_eq_true (p:=(↑i:Int)<(↑a.buds.length:Int)) (by omega))<|.idx (show idxA 3 (.sl .sh (a.buds.map encB)) (.int .i64 ↑i)=some (.ref (encB x).cells)from hx)<|.idx (show idxA 3 (.sl .sh (b.buds.map encB)) (.int .i64 ↑i)=some (.ref (encB y).cells)from hy)<|.no (show(!x.name==y.name)=false from by have hh:(x.name==y.name)=true:=(by simpa using q1);simp[hh])<|.idx (show idxA 3 (.sl .sh (a.buds.map encB)) (.int .i64 ↑i)=some (.ref (encB x).cells)from hx)<|.idx (show idxA 3 (.sl .sh (b.buds.map encB)) (.int .i64 ↑i)=some (.ref (encB y).cells)from hy)<|.no (show(x.floor !=y.floor)=false from Bool.eq_false_iff.2 (by simpa using q2))<|.idx (show idxA 3 (.sl .sh (a.buds.map encB)) (.int .i64 ↑i)=some (.ref (encB x).cells)from hx)<|.idx (show idxA 3 (.sl .sh (b.buds.map encB)) (.int .i64 ↑i)=some (.ref (encB y).cells)from hy)<|.callK (ζ1) (.bool true) (show Gives cfg (114:FuncId) ζ1 (.bool true)from hs)<|.ff<|.bin (show binA .add (.int .i64 ↑i) (.int .i64 1)=some (.int .i64 (↑(i+1)))from inc_i (by omega))<|.cutQ k51_2 [(2,.ptr 0 0),(3,.ptr 1 0),(7,.int .i64 (↑(i+1)))] ({boxes:=[[.sl .sh (a.nodes.map encN),.sl .sh (a.pods.map encPd),.sl .sh (a.buds.map encB)],[.sl .sh (b.nodes.map encN),.sl .sh (b.pods.map encPd),.sl .sh (b.buds.map encB)]],toks:=[],loops:=[]:Heap}) (fun T hT=>(ih' T hT))) (by kernel_rfl)
     |false=>
      rw[show((x.name==y.name&&(x.floor==y.floor&&false))&&same2 sameBB post q)=false from by simp]
      exact let ζ1:List AV:=[.sl .sh (x.sel.map encM),.sl .sh (y.sel.map encM)];goG 160 _ hT (.len (show lenA false (.sl .sh (a.buds.map encB))=some (.int .i64 (↑a.buds.length))from len_map _)<|.yes (decide_eq_true (p:=(↑i:Int)<(↑a.buds.length:Int)) (by omega))<|.idx (show idxA 3 (.sl .sh (a.buds.map encB)) (.int .i64 ↑i)=some (.ref (encB x).cells)from hx)<|.idx (show idxA 3 (.sl .sh (b.buds.map encB)) (.int .i64 ↑i)=some (.ref (encB y).cells)from hy)<|.no (show(!x.name==y.name)=false from by have hh:(x.name==y.name)=true:=(by simpa using q1);simp[hh])<|.idx (show idxA 3 (.sl .sh (a.buds.map encB)) (.int .i64 ↑i)=some (.ref (encB x).cells)from hx)<|.idx (show idxA 3 (.sl .sh (b.buds.map encB)) (.int .i64 ↑i)=some (.ref (encB y).cells)from hy)<|.no (show(x.floor !=y.floor)=false from Bool.eq_false_iff.2 (by simpa using q2))<|.idx (show idxA 3 (.sl .sh (a.buds.map encB)) (.int .i64 ↑i)=some (.ref (encB x).cells)from hx)<|.idx (show idxA 3 (.sl .sh (b.buds.map encB)) (.int .i64 ↑i)=some (.ref (encB y).cells)from hy)<|.callK (ζ1) (.bool false) (show Gives cfg (114:FuncId) ζ1 (.bool false)from hs)<|.tt<|.fin ((.ret (.bool false),{boxes:=[[.sl .sh (a.nodes.map encN),.sl .sh (a.pods.map encPd),.sl .sh (a.buds.map encB)],[.sl .sh (b.nodes.map encN),.sl .sh (b.pods.map encPd),.sl .sh (b.buds.map encB)]],toks:=[],loops:=[]:Heap})) rfl) (by kernel_rfl)
    ·rw[show((x.name==y.name&&(x.floor==y.floor&&c))&&same2 sameBB post q)=false from by simp[q2]]
     exact goG 160 _ hT (.len (show lenA false (.sl .sh (a.buds.map encB))=some (.int .i64 (↑a.buds.length))from len_map _)<|.yes (decide_eq_true (p:=(↑i:Int)<(↑a.buds.length:Int)) (by omega))<|.idx (show idxA 3 (.sl .sh (a.buds.map encB)) (.int .i64 ↑i)=some (.ref (encB x).cells)from hx)<|.idx (show idxA 3 (.sl .sh (b.buds.map encB)) (.int .i64 ↑i)=some (.ref (encB y).cells)from hy)<|.no (show(!x.name==y.name)=false from by have hh:(x.name==y.name)=true:=(by simpa using q1);simp[hh])<|.idx (show idxA 3 (.sl .sh (a.buds.map encB)) (.int .i64 ↑i)=some (.ref (encB x).cells)from hx)<|.idx (show idxA 3 (.sl .sh (b.buds.map encB)) (.int .i64 ↑i)=some (.ref (encB y).cells)from hy)<|.yes (show(x.floor !=y.floor)=true from(by simpa using q2))<|.tt<|.fin ((.ret (.bool false),{boxes:=[[.sl .sh (a.nodes.map encN),.sl .sh (a.pods.map encPd),.sl .sh (a.buds.map encB)],[.sl .sh (b.nodes.map encN),.sl .sh (b.pods.map encPd),.sl .sh (b.buds.map encB)]],toks:=[],loops:=[]:Heap})) rfl) (by kernel_rfl)
   ·rw[show((x.name==y.name&&(x.floor==y.floor&&c))&&same2 sameBB post q)=false from by simp[q1]]
    exact goG 160 _ hT (.len (show lenA false (.sl .sh (a.buds.map encB))=some (.int .i64 (↑a.buds.length))from len_map _)<|.yes (decide_eq_true (p:=(↑i:Int)<(↑a.buds.length:Int)) (by omega))<|.idx (show idxA 3 (.sl .sh (a.buds.map encB)) (.int .i64 ↑i)=some (.ref (encB x).cells)from hx)<|.idx (show idxA 3 (.sl .sh (b.buds.map encB)) (.int .i64 ↑i)=some (.ref (encB y).cells)from hy)<|.yes (show(!x.name==y.name)=true from by have hh:¬((x.name==y.name)=true):=(by simpa using q1);simp[hh])<|.tt<|.tt<|.fin ((.ret (.bool false),{boxes:=[[.sl .sh (a.nodes.map encN),.sl .sh (a.pods.map encPd),.sl .sh (a.buds.map encB)],[.sl .sh (b.nodes.map encN),.sl .sh (b.pods.map encPd),.sl .sh (b.buds.map encB)]],toks:=[],loops:=[]:Heap})) rfl) (by kernel_rfl)
theorem sameR_pods(a b:St)(h:SmS a)(heb:a.buds.length=b.buds.length)(he:a.pods.length=b.pods.length):∀(post q:List Pod)(i:Nat)(hd:a.pods.drop i=post)(hq:b.pods.drop i=q)(T:Env)(hT:Has T [(2,.ptr 0 0),(3,.ptr 1 0),(6,.int .i64 i)]),
 Goes cfg a51 k51_1 T ⟨[(encSt a).cells,(encSt b).cells],[],[]⟩ (IsRet (.bool (same2 samePB post q&&same2 sameBB a.buds b.buds))):=by
 intro post
 induction post with
 |nil=>
  intro q i hd hq T hT
  have hge:=drop_ge hd
  have hl:=h.pods
  have e:q=[]:=by rw[←hq];exact List.drop_eq_nil_of_le (by omega)
  subst e
  have h2:=sameR_buds a b h heb a.buds b.buds 0 rfl rfl
  rw[show(same2 samePB [] []&&same2 sameBB a.buds b.buds)=same2 sameBB a.buds b.buds from rfl]
  exact goG 60 _ hT (.len (show lenA false (.sl .sh (a.pods.map encPd))=some (.int .i64 (↑a.pods.length))from len_map _)<|.no (decide_eq_false (p:=(↑i:Int)<(↑a.pods.length:Int)) (by omega))<|.cutQ k51_2 [(2,.ptr 0 0),(3,.ptr 1 0),(7,.int .i64 0)] ({boxes:=[[.sl .sh (a.nodes.map encN),.sl .sh (a.pods.map encPd),.sl .sh (a.buds.map encB)],[.sl .sh (b.nodes.map encN),.sl .sh (b.pods.map encPd),.sl .sh (b.buds.map encB)]],toks:=[],loops:=[]:Heap}) (fun T hT=>(h2 T hT))) (by kernel_rfl)
 |cons x post ih=>
  intro q i hd hq T hT
  have hlt:=drop_lt hd
  have hnx:=drop_next hd
  have hl:=h.pods
  cases q with
  |nil=>have:=drop_ge hq;omega
  |cons y q=>
   have hnq:=drop_next hq
   have hx:idxA 11 (.sl .sh (a.pods.map encPd)) (.int .i64 (i:Nat))=some (.ref (encPd x).cells):=idx_row (f:=encPd) hd rfl
   have hy:idxA 11 (.sl .sh (b.pods.map encPd)) (.int .i64 (i:Nat))=some (.ref (encPd y).cells):=idx_row (f:=encPd) hq rfl
   have hs:=have sm:=h.pod x (drop_mem hd);samePd_ref x y sm.need sm.labels sm.sel sm.tols
   have ih':=ih q (i+1) hnx hnq
   have e2:same2 samePB (x::post) (y::q)=(samePB x y&&same2 samePB post q):=rfl
   rw[e2]
   cases hb:samePB x y with
   |true=>
    rw[hb]at hs
    rw[Bool.true_and]
    exact goG 120 _ hT (.len (show lenA false (.sl .sh (a.pods.map encPd))=some (.int .i64 (↑a.pods.length))from len_map _)<|.yes (decide_eq_true (p:=(↑i:Int)<(↑a.pods.length:Int)) (by omega))<|.idx (show idxA 11 (.sl .sh (a.pods.map encPd)) (.int .i64 ↑i)=some (.ref (encPd x).cells)from hx)<|.idx (show idxA 11 (.sl .sh (b.pods.map encPd)) (.int .i64 ↑i)=some (.ref (encPd y).cells)from hy)<|.callI hs<|.ff<|.bin (show binA .add (.int .i64 ↑i) (.int .i64 1)=some (.int .i64 (↑(i+1)))from inc_i (by omega))<|.cutQ k51_1 [(2,.ptr 0 0),(3,.ptr 1 0),(6,.int .i64 (↑(i+1)))] ({boxes:=[[.sl .sh (a.nodes.map encN),.sl .sh (a.pods.map encPd),.sl .sh (a.buds.map encB)],[.sl .sh (b.nodes.map encN),.sl .sh (b.pods.map encPd),.sl .sh (b.buds.map encB)]],toks:=[],loops:=[]:Heap}) (fun T hT=>(ih' T hT))) (by kernel_rfl)
   |false=>
    rw[hb]at hs
    rw[Bool.false_and,Bool.false_and]
    exact goG 120 _ hT (.len (show lenA false (.sl .sh (a.pods.map encPd))=some (.int .i64 (↑a.pods.length))from len_map _)<|.yes (decide_eq_true (p:=(↑i:Int)<(↑a.pods.length:Int)) (by omega))<|.idx (show idxA 11 (.sl .sh (a.pods.map encPd)) (.int .i64 ↑i)=some (.ref (encPd x).cells)from hx)<|.idx (show idxA 11 (.sl .sh (b.pods.map encPd)) (.int .i64 ↑i)=some (.ref (encPd y).cells)from hy)<|.callI hs<|.tt<|.fin ((.ret (.bool false),{boxes:=[[.sl .sh (a.nodes.map encN),.sl .sh (a.pods.map encPd),.sl .sh (a.buds.map encB)],[.sl .sh (b.nodes.map encN),.sl .sh (b.pods.map encPd),.sl .sh (b.buds.map encB)]],toks:=[],loops:=[]:Heap})) rfl) (by kernel_rfl)
theorem sameR_nodes(a b:St)(h:SmS a)(heb:a.buds.length=b.buds.length)(hep:a.pods.length=b.pods.length)(he:a.nodes.length=b.nodes.length):∀(post q:List Node)(i:Nat)(hd:a.nodes.drop i=post)(hq:b.nodes.drop i=q)(T:Env)(hT:Has T [(2,.ptr 0 0),(3,.ptr 1 0),(5,.int .i64 i)]),
 Goes cfg a51 k51_0 T ⟨[(encSt a).cells,(encSt b).cells],[],[]⟩ (IsRet (.bool (same2 sameNB post q&&(same2 samePB a.pods b.pods&&same2 sameBB a.buds b.buds)))):=by
 intro post
 induction post with
 |nil=>
  intro q i hd hq T hT
  have hge:=drop_ge hd
  have hl:=h.nodes
  have e:q=[]:=by rw[←hq];exact List.drop_eq_nil_of_le (by omega)
  subst e
  have h2:=sameR_pods a b h heb hep a.pods b.pods 0 rfl rfl
  rw[show(same2 sameNB [] []&&(same2 samePB a.pods b.pods&&same2 sameBB a.buds b.buds))=(same2 samePB a.pods b.pods&&same2 sameBB a.buds b.buds)from rfl]
  exact goG 60 _ hT (.len (show lenA false (.sl .sh (a.nodes.map encN))=some (.int .i64 (↑a.nodes.length))from len_map _)<|.no (decide_eq_false (p:=(↑i:Int)<(↑a.nodes.length:Int)) (by omega))<|.cutQ k51_1 [(2,.ptr 0 0),(3,.ptr 1 0),(6,.int .i64 0)] ({boxes:=[[.sl .sh (a.nodes.map encN),.sl .sh (a.pods.map encPd),.sl .sh (a.buds.map encB)],[.sl .sh (b.nodes.map encN),.sl .sh (b.pods.map encPd),.sl .sh (b.buds.map encB)]],toks:=[],loops:=[]:Heap}) (fun T hT=>(h2 T hT))) (by kernel_rfl)
 |cons x post ih=>
  intro q i hd hq T hT
  have hlt:=drop_lt hd
  have hnx:=drop_next hd
  have hl:=h.nodes
  cases q with
  |nil=>have:=drop_ge hq;omega
  |cons y q=>
   have hnq:=drop_next hq
   have hx:idxA 5 (.sl .sh (a.nodes.map encN)) (.int .i64 (i:Nat))=some (.ref (encN x).cells):=idx_row (f:=encN) hd rfl
   have hy:idxA 5 (.sl .sh (b.nodes.map encN)) (.int .i64 (i:Nat))=some (.ref (encN y).cells):=idx_row (f:=encN) hq rfl
   have hs:=have sm:=h.node x (drop_mem hd);sameN_ref x y sm.cap sm.labels sm.taints
   have ih':=ih q (i+1) hnx hnq
   have e2:same2 sameNB (x::post) (y::q)=(sameNB x y&&same2 sameNB post q):=rfl
   rw[e2]
   cases hb:sameNB x y with
   |true=>
    rw[hb]at hs
    rw[Bool.true_and]
    exact goG 120 _ hT (.len (show lenA false (.sl .sh (a.nodes.map encN))=some (.int .i64 (↑a.nodes.length))from len_map _)<|.yes (decide_eq_true (p:=(↑i:Int)<(↑a.nodes.length:Int)) (by omega))<|.idx (show idxA 5 (.sl .sh (a.nodes.map encN)) (.int .i64 ↑i)=some (.ref (encN x).cells)from hx)<|.idx (show idxA 5 (.sl .sh (b.nodes.map encN)) (.int .i64 ↑i)=some (.ref (encN y).cells)from hy)<|.callI hs<|.ff<|.bin (show binA .add (.int .i64 ↑i) (.int .i64 1)=some (.int .i64 (↑(i+1)))from inc_i (by omega))<|.cutQ k51_0 [(2,.ptr 0 0),(3,.ptr 1 0),(5,.int .i64 (↑(i+1)))] ({boxes:=[[.sl .sh (a.nodes.map encN),.sl .sh (a.pods.map encPd),.sl .sh (a.buds.map encB)],[.sl .sh (b.nodes.map encN),.sl .sh (b.pods.map encPd),.sl .sh (b.buds.map encB)]],toks:=[],loops:=[]:Heap}) (fun T hT=>(ih' T hT))) (by kernel_rfl)
   |false=>
    rw[hb]at hs
    rw[Bool.false_and,Bool.false_and]
    exact goG 120 _ hT (.len (show lenA false (.sl .sh (a.nodes.map encN))=some (.int .i64 (↑a.nodes.length))from len_map _)<|.yes (decide_eq_true (p:=(↑i:Int)<(↑a.nodes.length:Int)) (by omega))<|.idx (show idxA 5 (.sl .sh (a.nodes.map encN)) (.int .i64 ↑i)=some (.ref (encN x).cells)from hx)<|.idx (show idxA 5 (.sl .sh (b.nodes.map encN)) (.int .i64 ↑i)=some (.ref (encN y).cells)from hy)<|.callI hs<|.tt<|.fin ((.ret (.bool false),{boxes:=[[.sl .sh (a.nodes.map encN),.sl .sh (a.pods.map encPd),.sl .sh (a.buds.map encB)],[.sl .sh (b.nodes.map encN),.sl .sh (b.pods.map encPd),.sl .sh (b.buds.map encB)]],toks:=[],loops:=[]:Heap})) rfl) (by kernel_rfl)
theorem sameSt_ref(a b:St)(h:SmS a):Gives cfg 51 [encSt a,encSt b] (.bool (sameSt a b)):=by
 refine Gives.run (l51 _ _) ?_
 unfold sameSt
 by_cases h1:a.nodes.length=b.nodes.length
 ·by_cases h2:a.pods.length=b.pods.length
  ·by_cases h3:a.buds.length=b.buds.length
   ·have hh:=sameR_nodes a b h h3 h2 h1 a.nodes b.nodes 0 rfl rfl
    exact goG 90 [] trivial (.len (show lenA false (.sl .sh (a.nodes.map encN))=some (.int .i64 (↑a.nodes.length))from len_map _)<|.len (show lenA false (.sl .sh (b.nodes.map encN))=some (.int .i64 (↑b.nodes.length))from len_map _)<|.no (show((↑a.nodes.length:Int) !=(↑b.nodes.length:Int))=false from Bool.eq_false_iff.2 (by simp[h1]))<|.len (show lenA false (.sl .sh (a.pods.map encPd))=some (.int .i64 (↑a.pods.length))from len_map _)<|.len (show lenA false (.sl .sh (b.pods.map encPd))=some (.int .i64 (↑b.pods.length))from len_map _)<|.no (show((↑a.pods.length:Int) !=(↑b.pods.length:Int))=false from Bool.eq_false_iff.2 (by simp[h2]))<|.len (show lenA false (.sl .sh (a.buds.map encB))=some (.int .i64 (↑a.buds.length))from len_map _)<|.len (show lenA false (.sl .sh (b.buds.map encB))=some (.int .i64 (↑b.buds.length))from len_map _)<|.no (show((↑a.buds.length:Int) !=(↑b.buds.length:Int))=false from Bool.eq_false_iff.2 (by simp[h3]))<|.cutQ k51_0 [(2,.ptr 0 0),(3,.ptr 1 0),(5,.int .i64 0)] ({boxes:=[[.sl .sh (a.nodes.map encN),.sl .sh (a.pods.map encPd),.sl .sh (a.buds.map encB)],[.sl .sh (b.nodes.map encN),.sl .sh (b.pods.map encPd),.sl .sh (b.buds.map encB)]],toks:=[],loops:=[]:Heap}) (fun T hT=>(hh T hT))) (by kernel_rfl)
   ·rw[same2_len h3,Bool.and_false,Bool.and_false]
    exact goG 90 [] trivial (.len (show lenA false (.sl .sh (a.nodes.map encN))=some (.int .i64 (↑a.nodes.length))from len_map _)<|.len (show lenA false (.sl .sh (b.nodes.map encN))=some (.int .i64 (↑b.nodes.length))from len_map _)<|.no (show((↑a.nodes.length:Int) !=(↑b.nodes.length:Int))=false from Bool.eq_false_iff.2 (by simp[h1]))<|.len (show lenA false (.sl .sh (a.pods.map encPd))=some (.int .i64 (↑a.pods.length))from len_map _)<|.len (show lenA false (.sl .sh (b.pods.map encPd))=some (.int .i64 (↑b.pods.length))from len_map _)<|.no (show((↑a.pods.length:Int) !=(↑b.pods.length:Int))=false from Bool.eq_false_iff.2 (by simp[h2]))<|.len (show lenA false (.sl .sh (a.buds.map encB))=some (.int .i64 (↑a.buds.length))from len_map _)<|.len (show lenA false (.sl .sh (b.buds.map encB))=some (.int .i64 (↑b.buds.length))from len_map _)<|.yes (show((↑a.buds.length:Int) !=(↑b.buds.length:Int))=true from(by simp;omega))<|.fin ((.ret (.bool false),{boxes:=[[.sl .sh (a.nodes.map encN),.sl .sh (a.pods.map encPd),.sl .sh (a.buds.map encB)],[.sl .sh (b.nodes.map encN),.sl .sh (b.pods.map encPd),.sl .sh (b.buds.map encB)]],toks:=[],loops:=[]:Heap})) rfl) (by kernel_rfl)
  ·rw[same2_len h2,Bool.false_and,Bool.and_false]
   exact goG 90 [] trivial (.len (show lenA false (.sl .sh (a.nodes.map encN))=some (.int .i64 (↑a.nodes.length))from len_map _)<|.len (show lenA false (.sl .sh (b.nodes.map encN))=some (.int .i64 (↑b.nodes.length))from len_map _)<|.no (show((↑a.nodes.length:Int) !=(↑b.nodes.length:Int))=false from Bool.eq_false_iff.2 (by simp[h1]))<|.len (show lenA false (.sl .sh (a.pods.map encPd))=some (.int .i64 (↑a.pods.length))from len_map _)<|.len (show lenA false (.sl .sh (b.pods.map encPd))=some (.int .i64 (↑b.pods.length))from len_map _)<|.yes (show((↑a.pods.length:Int) !=(↑b.pods.length:Int))=true from(by simp;omega))<|.tt<|.fin ((.ret (.bool false),{boxes:=[[.sl .sh (a.nodes.map encN),.sl .sh (a.pods.map encPd),.sl .sh (a.buds.map encB)],[.sl .sh (b.nodes.map encN),.sl .sh (b.pods.map encPd),.sl .sh (b.buds.map encB)]],toks:=[],loops:=[]:Heap})) rfl) (by kernel_rfl)
 ·rw[same2_len h1,Bool.false_and]
  exact goG 90 [] trivial (.len (show lenA false (.sl .sh (a.nodes.map encN))=some (.int .i64 (↑a.nodes.length))from len_map _)<|.len (show lenA false (.sl .sh (b.nodes.map encN))=some (.int .i64 (↑b.nodes.length))from len_map _)<|.yes (show((↑a.nodes.length:Int) !=(↑b.nodes.length:Int))=true from(by simp;omega))<|.tt<|.tt<|.fin ((.ret (.bool false),{boxes:=[[.sl .sh (a.nodes.map encN),.sl .sh (a.pods.map encPd),.sl .sh (a.buds.map encB)],[.sl .sh (b.nodes.map encN),.sl .sh (b.pods.map encPd),.sl .sh (b.buds.map encB)]],toks:=[],loops:=[]:Heap})) rfl) (by kernel_rfl)
theorem sameOf_any(a b:St)(h:FewS a):Gives cfg 44 [encSt a,encSt b] (.bool (sameSt a b)):=by
 refine Gives.run (l44 _ _) ?_
 have h1:=ofSt_any a h
 have h2:=sameSt_ref a b (smS h)
 exact let ζ1:List AV:=[.sl .sh (a.nodes.map encN),.sl .sh (a.pods.map encPd),.sl .sh (a.buds.map encB)];let ζ2:List AV:=[.sl .sh (b.nodes.map encN),.sl .sh (b.pods.map encPd),.sl .sh (b.buds.map encB)];goG 60 [] trivial (.callI h1<|.callI h2<|.fin ((.ret (.bool (sameSt a b)),{boxes:=[ζ1,ζ2],toks:=[],loops:=[]:Heap})) rfl) (by kernel_rfl)
theorem known29':Gives cfg 29 [] (.bool true):=by
 obtain⟨H,h⟩:=known_ret29
 exact Gives.of h
end Go.Aa.T
set_option linter.unusedVariables false
set_option linter.unusedSimpArgs false
set_option maxRecDepth 100000
namespace Go.Aa.T
open Go.Aa Go.Proofs
theorem map_of2{α:Type}{f:α→AV}{Q:AV→Prop}{S:α→Prop}(h:∀y,Q y→∃x,y=f x∧S x):∀(l:List AV),(∀y∈l,Q y)→∃t:List α,l=t.map f∧∀x∈t,S x
 |[],_=>⟨[],rfl,by simp⟩
 |y::l,hl=>by
  obtain⟨x,rfl,hx⟩:=h y (hl y (by simp))
  obtain⟨t,rfl,ht⟩:=map_of2 h l (fun z hz=>hl z (by simp[hz]))
  exact⟨x::t,rfl,by simpa using⟨hx,ht⟩⟩
theorem i64_range{m:Int}(h:(Lit.int .i64 m).wf=true): -9223372036854775808≤m∧m≤9223372036854775807:=by
 have h':IntKind.i64.min≤m∧m≤IntKind.i64.max:=by simpa[Lit.wf,IntKind.has]using h
 have e1:IntKind.i64.min= -9223372036854775808:=rfl
 have e2:IntKind.i64.max=9223372036854775807:=rfl
 omega
theorem tys2{R:TypeId→List AV→Prop}{f1 f2:Field}{cs:List AV}(h:Tys R (#[f1,f2]:Array Field).toList cs):∃a1 a2,cs=a1++(a2)∧R f1.type a1∧R f2.type a2:=by
 obtain⟨a1,b1,rfl,h1,a2,b2,rfl,h2,e⟩:=(show Tys R [f1,f2] cs from h)
 cases e
 exact⟨a1,a2,by simp,h1,h2⟩
theorem tys3{R:TypeId→List AV→Prop}{f1 f2 f3:Field}{cs:List AV}(h:Tys R (#[f1,f2,f3]:Array Field).toList cs):∃a1 a2 a3,cs=a1++(a2++(a3))∧R f1.type a1∧R f2.type a2∧R f3.type a3:=by
 obtain⟨a1,b1,rfl,h1,a2,b2,rfl,h2,a3,b3,rfl,h3,e⟩:=(show Tys R [f1,f2,f3] cs from h)
 cases e
 exact⟨a1,a2,a3,by simp,h1,h2,h3⟩
theorem tys5{R:TypeId→List AV→Prop}{f1 f2 f3 f4 f5:Field}{cs:List AV}(h:Tys R (#[f1,f2,f3,f4,f5]:Array Field).toList cs):∃a1 a2 a3 a4 a5,cs=a1++(a2++(a3++(a4++(a5))))∧R f1.type a1∧R f2.type a2∧R f3.type a3∧R f4.type a4∧R f5.type a5:=by
 obtain⟨a1,b1,rfl,h1,a2,b2,rfl,h2,a3,b3,rfl,h3,a4,b4,rfl,h4,a5,b5,rfl,h5,e⟩:=(show Tys R [f1,f2,f3,f4,f5] cs from h)
 cases e
 exact⟨a1,a2,a3,a4,a5,by simp,h1,h2,h3,h4,h5⟩
theorem tys11{R:TypeId→List AV→Prop}{f1 f2 f3 f4 f5 f6 f7 f8 f9 f10 f11:Field}{cs:List AV}(h:Tys R (#[f1,f2,f3,f4,f5,f6,f7,f8,f9,f10,f11]:Array Field).toList cs):∃a1 a2 a3 a4 a5 a6 a7 a8 a9 a10 a11,cs=a1++(a2++(a3++(a4++(a5++(a6++(a7++(a8++(a9++(a10++(a11))))))))))∧R f1.type a1∧R f2.type a2∧R f3.type a3∧R f4.type a4∧R f5.type a5∧R f6.type a6∧R f7.type a7∧R f8.type a8∧R f9.type a9∧R f10.type a10∧R f11.type a11:=by
 obtain⟨a1,b1,rfl,h1,a2,b2,rfl,h2,a3,b3,rfl,h3,a4,b4,rfl,h4,a5,b5,rfl,h5,a6,b6,rfl,h6,a7,b7,rfl,h7,a8,b8,rfl,h8,a9,b9,rfl,h9,a10,b10,rfl,h10,a11,b11,rfl,h11,e⟩:=(show Tys R [f1,f2,f3,f4,f5,f6,f7,f8,f9,f10,f11] cs from h)
 cases e
 exact⟨a1,a2,a3,a4,a5,a6,a7,a8,a9,a10,a11,by simp,h1,h2,h3,h4,h5,h6,h7,h8,h9,h10,h11⟩
theorem ty100{k:Nat}{y:AV}(h:TyV Tryz.prog (k+2) 100 y):∃x:Amount,y=encA x∧(-9223372036854775808≤x.n∧x.n≤9223372036854775807):=by
 obtain⟨cs,rfl,hh⟩:=tyv_struct Tryz.underlying100 h
 obtain⟨a1,a2,rfl,h1,h2⟩:=tys2 hh
 obtain⟨s1,rfl,-⟩:=ty_string Tryz.underlying9 h1
 obtain⟨s2,rfl,w2⟩:=ty_int Tryz.underlying2 h2
 have r2:=i64_range w2
 exact⟨⟨s1,s2⟩,rfl,r2⟩
theorem ty28s{k:Nat}{y:List AV}(h:Ty Tryz.prog (k+3) 28 y):∃t:List Amount,y=[.sl .sh (t.map encA)]∧∀x∈t,-9223372036854775808≤x.n∧x.n≤9223372036854775807:=by
 obtain⟨l,rfl,-,hl⟩:=ty_slice Tryz.underlying28 h
 obtain⟨t,rfl,hs⟩:=map_of2 (S:=fun x:Amount=> -9223372036854775808≤x.n∧x.n≤9223372036854775807) (fun y hy=>ty100 hy) l hl
 exact⟨t,rfl,hs⟩
theorem ty201{k:Nat}{y:AV}(h:TyV Tryz.prog (k+2) 201 y):∃x:Pair,y=encP x∧(True):=by
 obtain⟨cs,rfl,hh⟩:=tyv_struct Tryz.underlying201 h
 obtain⟨a1,a2,rfl,h1,h2⟩:=tys2 hh
 obtain⟨s1,rfl,-⟩:=ty_string Tryz.underlying9 h1
 obtain⟨s2,rfl,-⟩:=ty_string Tryz.underlying9 h2
 exact⟨⟨s1,s2⟩,rfl,trivial⟩
theorem ty30s{k:Nat}{y:List AV}(h:Ty Tryz.prog (k+3) 30 y):∃t:List Pair,y=[.sl .sh (t.map encP)]∧∀x∈t,True:=by
 obtain⟨l,rfl,-,hl⟩:=ty_slice Tryz.underlying30 h
 obtain⟨t,rfl,hs⟩:=map_of2 (S:=fun x:Pair=>True) (fun y hy=>ty201 hy) l hl
 exact⟨t,rfl,hs⟩
theorem ty110{k:Nat}{y:AV}(h:TyV Tryz.prog (k+2) 110 y):∃x:Taint,y=encT x∧(True):=by
 obtain⟨cs,rfl,hh⟩:=tyv_struct Tryz.underlying110 h
 obtain⟨a1,a2,a3,rfl,h1,h2,h3⟩:=tys3 hh
 obtain⟨s1,rfl,-⟩:=ty_string Tryz.underlying9 h1
 obtain⟨s2,rfl,-⟩:=ty_string Tryz.underlying9 h2
 obtain⟨s3,rfl⟩:=ty_bool Tryz.underlying4 h3
 exact⟨⟨s1,s2,s3⟩,rfl,trivial⟩
theorem ty62s{k:Nat}{y:List AV}(h:Ty Tryz.prog (k+3) 62 y):∃t:List Taint,y=[.sl .sh (t.map encT)]∧∀x∈t,True:=by
 obtain⟨l,rfl,-,hl⟩:=ty_slice Tryz.underlying62 h
 obtain⟨t,rfl,hs⟩:=map_of2 (S:=fun x:Taint=>True) (fun y hy=>ty110 hy) l hl
 exact⟨t,rfl,hs⟩
theorem ty64{k:Nat}{y:AV}(h:TyV Tryz.prog (k+4) 64 y):∃x:Node,y=encN x∧(rgA x.cap):=by
 obtain⟨cs,rfl,hh⟩:=tyv_struct Tryz.underlying64 h
 obtain⟨a1,a2,a3,a4,a5,rfl,h1,h2,h3,h4,h5⟩:=tys5 hh
 obtain⟨s1,rfl,-⟩:=ty_string Tryz.underlying9 h1
 obtain⟨s2,rfl,w2⟩:=ty28s h2
 obtain⟨s3,rfl,w3⟩:=ty30s h3
 obtain⟨s4,rfl,w4⟩:=ty62s h4
 obtain⟨s5,rfl⟩:=ty_bool Tryz.underlying4 h5
 exact⟨⟨s1,s2,s3,s4,s5⟩,rfl,w2⟩
theorem ty22s{k:Nat}{y:List AV}(h:Ty Tryz.prog (k+5) 22 y):∃t:List Node,y=[.sl .sh (t.map encN)]∧∀x∈t,rgA x.cap:=by
 obtain⟨l,rfl,-,hl⟩:=ty_slice Tryz.underlying22 h
 obtain⟨t,rfl,hs⟩:=map_of2 (S:=fun x:Node=>rgA x.cap) (fun y hy=>ty64 hy) l hl
 exact⟨t,rfl,hs⟩
theorem ty112{k:Nat}{y:AV}(h:TyV Tryz.prog (k+2) 112 y):∃x:Term,y=encM x∧(True):=by
 obtain⟨cs,rfl,hh⟩:=tyv_struct Tryz.underlying112 h
 obtain⟨a1,a2,a3,rfl,h1,h2,h3⟩:=tys3 hh
 obtain⟨s1,rfl,w1⟩:=ty_int Tryz.underlying3 h1
 have r1:=i64_range w1
 obtain⟨s2,rfl,-⟩:=ty_string Tryz.underlying9 h2
 obtain⟨s3,rfl,-⟩:=ty_string Tryz.underlying9 h3
 exact⟨⟨s1,s2,s3⟩,rfl,trivial⟩
theorem ty32s{k:Nat}{y:List AV}(h:Ty Tryz.prog (k+3) 32 y):∃t:List Term,y=[.sl .sh (t.map encM)]∧∀x∈t,True:=by
 obtain⟨l,rfl,-,hl⟩:=ty_slice Tryz.underlying32 h
 obtain⟨t,rfl,hs⟩:=map_of2 (S:=fun x:Term=>True) (fun y hy=>ty112 hy) l hl
 exact⟨t,rfl,hs⟩
theorem ty205{k:Nat}{y:AV}(h:TyV Tryz.prog (k+2) 205 y):∃x:Tol,y=encL x∧(True):=by
 obtain⟨cs,rfl,hh⟩:=tyv_struct Tryz.underlying205 h
 obtain⟨a1,a2,a3,rfl,h1,h2,h3⟩:=tys3 hh
 obtain⟨s1,rfl,-⟩:=ty_string Tryz.underlying9 h1
 obtain⟨s2,rfl,-⟩:=ty_string Tryz.underlying9 h2
 obtain⟨s3,rfl⟩:=ty_bool Tryz.underlying4 h3
 exact⟨⟨s1,s2,s3⟩,rfl,trivial⟩
theorem ty33s{k:Nat}{y:List AV}(h:Ty Tryz.prog (k+3) 33 y):∃t:List Tol,y=[.sl .sh (t.map encL)]∧∀x∈t,True:=by
 obtain⟨l,rfl,-,hl⟩:=ty_slice Tryz.underlying33 h
 obtain⟨t,rfl,hs⟩:=map_of2 (S:=fun x:Tol=>True) (fun y hy=>ty205 hy) l hl
 exact⟨t,rfl,hs⟩
theorem ty35{k:Nat}{y:AV}(h:TyV Tryz.prog (k+4) 35 y):∃x:Pod,y=encPd x∧(rgA x.need∧inI x.prio∧inI x.most):=by
 obtain⟨cs,rfl,hh⟩:=tyv_struct Tryz.underlying35 h
 obtain⟨a1,a2,a3,a4,a5,a6,a7,a8,a9,a10,a11,rfl,h1,h2,h3,h4,h5,h6,h7,h8,h9,h10,h11⟩:=tys11 hh
 obtain⟨s1,rfl,-⟩:=ty_string Tryz.underlying9 h1
 obtain⟨s2,rfl,-⟩:=ty_string Tryz.underlying9 h2
 obtain⟨s3,rfl,w3⟩:=ty_int Tryz.underlying3 h3
 have r3:=i64_range w3
 obtain⟨s4,rfl,w4⟩:=ty28s h4
 obtain⟨s5,rfl,w5⟩:=ty30s h5
 obtain⟨s6,rfl,w6⟩:=ty32s h6
 obtain⟨s7,rfl,w7⟩:=ty33s h7
 obtain⟨s8,rfl,-⟩:=ty_string Tryz.underlying9 h8
 obtain⟨s9,rfl,w9⟩:=ty_int Tryz.underlying3 h9
 have r9:=i64_range w9
 obtain⟨s10,rfl,-⟩:=ty_string Tryz.underlying9 h10
 obtain⟨s11,rfl⟩:=ty_bool Tryz.underlying4 h11
 exact⟨⟨s1,s2,s3,s4,s5,s6,s7,s8,s9,s10,s11⟩,rfl,⟨w4,r3,r9⟩⟩
theorem ty23s{k:Nat}{y:List AV}(h:Ty Tryz.prog (k+5) 23 y):∃t:List Pod,y=[.sl .sh (t.map encPd)]∧∀x∈t,rgA x.need∧inI x.prio∧inI x.most:=by
 obtain⟨l,rfl,-,hl⟩:=ty_slice Tryz.underlying23 h
 obtain⟨t,rfl,hs⟩:=map_of2 (S:=fun x:Pod=>rgA x.need∧inI x.prio∧inI x.most) (fun y hy=>ty35 hy) l hl
 exact⟨t,rfl,hs⟩
theorem ty181{k:Nat}{y:AV}(h:TyV Tryz.prog (k+4) 181 y):∃x:Bud,y=encB x∧(inI x.floor):=by
 obtain⟨cs,rfl,hh⟩:=tyv_struct Tryz.underlying181 h
 obtain⟨a1,a2,a3,rfl,h1,h2,h3⟩:=tys3 hh
 obtain⟨s1,rfl,-⟩:=ty_string Tryz.underlying9 h1
 obtain⟨s2,rfl,w2⟩:=ty32s h2
 obtain⟨s3,rfl,w3⟩:=ty_int Tryz.underlying3 h3
 have r3:=i64_range w3
 exact⟨⟨s1,s2,s3⟩,rfl,r3⟩
theorem ty24s{k:Nat}{y:List AV}(h:Ty Tryz.prog (k+5) 24 y):∃t:List Bud,y=[.sl .sh (t.map encB)]∧∀x∈t,inI x.floor:=by
 obtain⟨l,rfl,-,hl⟩:=ty_slice Tryz.underlying24 h
 obtain⟨t,rfl,hs⟩:=map_of2 (S:=fun x:Bud=>inI x.floor) (fun y hy=>ty181 hy) l hl
 exact⟨t,rfl,hs⟩
theorem ty26{k:Nat}{y:AV}(h:TyV Tryz.prog (k+6) 26 y):∃x:St,y=encSt x∧(RgS x∧(∀p∈x.pods,inI p.prio∧inI p.most)∧∀b∈x.buds,inI b.floor):=by
 obtain⟨cs,rfl,hh⟩:=tyv_struct Tryz.underlying26 h
 obtain⟨a1,a2,a3,rfl,h1,h2,h3⟩:=tys3 hh
 obtain⟨s1,rfl,w1⟩:=ty22s h1
 obtain⟨s2,rfl,w2⟩:=ty23s h2
 obtain⟨s3,rfl,w3⟩:=ty24s h3
 exact⟨⟨s1,s2,s3⟩,rfl,⟨⟨w1,fun p hp=>(w2 p hp).1⟩,fun p hp=>(w2 p hp).2,w3⟩⟩
end Go.Aa.T
set_option linter.unusedVariables false
set_option linter.unusedSimpArgs false
set_option maxRecDepth 100000
namespace Go.Aa.T
open Go.Aa Go.Proofs
end Go.Aa.T
set_option linter.unusedVariables false
set_option linter.unusedSimpArgs false
set_option maxRecDepth 100000
namespace Go.Aa.T
open Go.Aa Go.Proofs
theorem in2_d0{x:AV}{nb nt:Nat}(h:data0 x=true):in2 nb nt x=true:=in2_data0 h
def Tame(B:List (List AV)):Prop:=∀nb,B.length≤nb→B.all (·.all (in2 nb 0))=true
theorem tame_data{B:List (List AV)}(h:B.all (·.all data0)=true):Tame B:=fun nb _=>List.all_eq_true.2 fun b hb=>List.all_eq_true.2 fun x hx=>in2_d0 (List.all_eq_true.1 (List.all_eq_true.1 h b hb) x hx)
theorem tame_app{B ex:List (List AV)}(h:Tame B)(he:ex.all (·.all data0)=true):Tame (B++ex):=fun nb hn=>by
 rw[List.all_append,h nb (by simp at hn;omega),tame_data he nb (by simp at hn;omega)];rfl
theorem tame_set{B:List (List AV)}{k:Nat}{cs:List AV}(h:Tame B)(hc:cs.all data0=true):Tame (B.set k cs):=fun nb hn=>by
 refine List.all_eq_true.2 fun b hb=> ?_
 rcases List.mem_or_eq_of_mem_set hb with hb|rfl
 ·exact List.all_eq_true.1 (h nb (by simpa using hn)) b hb
 ·exact List.all_eq_true.2 fun x hx=>in2_d0 (List.all_eq_true.1 hc x hx)
theorem trunc_tame{B ex:List (List AV)}{v:AV}(hB:Tame B)(hv:within B.length 0 v=true):trunc B.length 0 v ⟨B++ex,[],[]⟩=⟨B,[],[]⟩:=by
 have h1:=hB B.length (Nat.le_refl _)
 unfold trunc
 simp only[List.take_left,List.length_nil,List.all_nil,Bool.true_and,hv,h1,Bool.and_self,if_true,List.take_zero,ite_self]
theorem does_closure{B ex:List (List AV)}{g:FuncId}{jj:Nat}{x v:AV}(h:lim cfg (.fn g) [x,.ptr jj 0] ⟨B,[],[]⟩=some (.ret v,⟨B++ex,[],[]⟩))(hx:shutA x=x)(hB:Tame B)(hv:within B.length 0 v=true)(hs:shutA v=v):
 Does cfg (.call (.c (.func g [.ptr jj 0])) [.c x]) ⟨B,[],[]⟩ v ⟨B,[],[]⟩∧Does cfg (.callM (.c (.func g [.ptr jj 0])) [.c x]) ⟨B,[],[]⟩ v ⟨B,[],[]⟩:=by
 have e1:=does_callE (cfg:=cfg) (xs:=[x]) (caps:=[.ptr jj 0]) h (by simp[hx]) (by simp[data0])
 have e2:Does cfg (.callM (.c (.func g [.ptr jj 0])) [.c x]) ⟨B,[],[]⟩ (shutA v) (trunc B.length 0 (shutA v) ⟨B++ex,[],[]⟩):=fun T=>by
  simp only[opStep,List.map_cons,List.map_nil,ev]
  simp only[callW,List.all_cons,List.all_nil,data0,Bool.and_false,Bool.false_and,Bool.and_true,Bool.false_eq_true,if_false,List.cons_append,List.nil_append,callE,hx,h]
  rfl
 rw[hs]at e1 e2
 rw[trunc_tame hB hv]at e2
 rw[show(⟨B,[],[]⟩:Heap).boxes.length=B.length from rfl,show(⟨B,[],[]⟩:Heap).toks.length=0 from rfl,trunc_tame hB hv]at e1
 exact⟨e1,e2⟩
abbrev pcs(l:List Pod):List AV:=rowCells (l.map encPd)
theorem encPd_el(l:List Pod):(l.map encPd).all (elOk 11)=true:=List.all_eq_true.2 fun x hx=>by
 obtain⟨j,_,rfl⟩:=List.mem_map.1 hx
 rfl
theorem pcs_len(l:List Pod):(pcs l).length=l.length*11:=by
 have:=rowCells_len (es:=11) (l:=l.map encPd) lenPd
 simpa using this
theorem pcs_data(l:List Pod):(pcs l).all data0=true:=by
 refine List.all_eq_true.2 fun x hx=> ?_
 simp only[pcs,rowCells,List.mem_flatMap,List.mem_map]at hx
 obtain⟨a,⟨p,-,rfl⟩,hx⟩:=hx
 simp only[encPd,AV.cells,List.mem_cons,List.not_mem_nil,or_false]at hx
 rcases hx with rfl|rfl|rfl|rfl|rfl|rfl|rfl|rfl|rfl|rfl|rfl<;>rfl
theorem pc_data(p:Pod):(encPd p).cells.all data0=true:=by rfl
theorem loadP{B:List (List AV)}{kk:Nat}{C:List Pod}{Z:List AV}{i:Nat}{p:Pod}(hk:B[kk]?=some (pcs C++Z))(hp:C[i]?=some p):Does cfg (.load true 11 (.c (.ptr kk (0+i*11)))) ⟨B,[],[]⟩ (encPd p) ⟨B,[],[]⟩:=fun T=>by
 obtain⟨h1,h2⟩:=cells_at (es:=11) (i:=i) (encPd_el C) (x:=encPd p) (by simp[hp])
 change((pcs C).drop (i*11)).take 11=_ at h1
 change _≤(pcs C).length at h2
 have:loadA true 11 ⟨B,[],[]⟩ (.ptr kk (0+i*11))=some (encPd p):=by
  simp only[loadA,hk,Nat.zero_add]
  rw[if_pos (by rw[List.length_append];omega),List.drop_append_of_le_length (by omega),List.take_append_of_le_length (by rw[List.length_drop];omega),h1];rfl
 simp only[opStep,ev,this]
theorem pcs_set:∀(C:List Pod)(j:Nat)(p:Pod),j<C.length→(pcs C).take (j*11)++(encPd p).cells++(pcs C).drop (j*11+11)=pcs (C.set j p)
 |[],j,p,h=>by simp at h
 |c::C,0,p,h=>by
  have e1:pcs (c::C)=(encPd c).cells++pcs C:=by simp[pcs,rowCells]
  have e2:pcs ((c::C).set 0 p)=(encPd p).cells++pcs C:=by simp[pcs,rowCells]
  rw[e1,e2]
  have e3:(encPd c).cells.length=11:=rfl
  rw[Nat.zero_mul,List.take_zero,List.nil_append,Nat.zero_add,List.drop_append_of_le_length (by omega),List.drop_eq_nil_of_le (by omega),List.nil_append]
 |c::C,j+1,p,h=>by
  have e1:pcs (c::C)=(encPd c).cells++pcs C:=by simp[pcs,rowCells]
  have e2:pcs ((c::C).set (j+1) p)=(encPd c).cells++pcs (C.set j p):=by simp[pcs,rowCells]
  have ih:=pcs_set C j p (by simpa using h)
  have e3:(encPd c).cells.length=11:=rfl
  rw[e1,e2,←ih,List.take_append,e3,List.take_of_length_le (by rw[e3];omega),show(j+1)*11-11=j*11 by omega,List.drop_append,e3,List.drop_eq_nil_of_le (by rw[e3];omega),List.nil_append,show(j+1)*11+11-11=j*11+11 by omega]
  simp only[List.append_assoc]
theorem storeP{B:List (List AV)}{kk:Nat}{C:List Pod}{j:Nat}(p:Pod)(hk:B[kk]?=some (pcs C))(hj:j<C.length):Does cfg (.store 11 (.c (.ptr kk (0+j*11))) (.c (encPd p))) ⟨B,[],[]⟩ .undef ⟨B.set kk (pcs (C.set j p)),[],[]⟩:=fun T=>by
 have hl:=pcs_len C
 have e3:(encPd p).cells.length=11:=rfl
 have:storeA 11 ⟨B,[],[]⟩ (.ptr kk (0+j*11)) (encPd p)=some ⟨B.set kk (pcs (C.set j p)),[],[]⟩:=by
  simp only[storeA,hk,Nat.zero_add]
  rw[if_pos ⟨by omega,rfl,rfl,by omega⟩,paste_spec _ _ _ (by omega),e3,pcs_set C j p hj]
 simp only[opStep,ev,this]
theorem pred_any{B:List (List AV)}{jj:Nat}{nm:List UInt8}(hj:B[jj]?=some [.str nm])(hB:Tame B)(p:Pod):
 Does cfg (.call (.c (.func 91 [.ptr jj 0])) [.c (encPd p)]) ⟨B,[],[]⟩ (.bool (p.name==nm)) ⟨B,[],[]⟩∧Does cfg (.callM (.c (.func 91 [.ptr jj 0])) [.c (encPd p)]) ⟨B,[],[]⟩ (.bool (p.name==nm)) ⟨B,[],[]⟩:=by
 have hlt:=(List.getElem?_eq_some_iff.1 hj).1
 have l1:Does cfg (.load false 1 (.c (.ptr B.length 0))) ⟨B++[(encPd p).cells],[],[]⟩ (.str p.name) ⟨B++[(encPd p).cells],[],[]⟩:=fun T=>by
  have:loadA false 1 ⟨B++[(encPd p).cells],[],[]⟩ (.ptr B.length 0)=some (.str p.name):=by
   simp only[loadA,List.getElem?_concat_length];rfl
  simp only[opStep,ev,this]
 have l2:Does cfg (.load false 1 (.c (.ptr jj 0))) ⟨B++[(encPd p).cells],[],[]⟩ (.str nm) ⟨B++[(encPd p).cells],[],[]⟩:=fun T=>by
  have:loadA false 1 ⟨B++[(encPd p).cells],[],[]⟩ (.ptr jj 0)=some (.str nm):=by
   simp only[loadA,List.getElem?_append_left hlt,hj];rfl
  simp only[opStep,ev,this]
 refine does_closure (ex:=[(encPd p).cells]) ?_ rfl hB rfl rfl
 rw[l91]
 have key:Goes cfg a91 [.c c91] (initEnv [encPd p,.ptr jj 0]) ⟨B,[],[]⟩ (fun r=>r=(.ret (.bool (p.name==nm)),⟨B++[(encPd p).cells],[],[]⟩)):=by
  exact let ζ1:Heap:={boxes:=B++[(encPd p).cells],toks:=[],loops:=[]:Heap};goG 60 [] trivial (.effY (show Does cfg (.load false (1:Nat) (.c (.ptr B.length (0:Nat)))) ζ1 (.str p.name) ζ1 from l1)<|.effY (show Does cfg (.load false (1:Nat) (.c (.ptr jj (0:Nat)))) ζ1 (.str nm) ζ1 from l2)<|.fin ((.ret (.bool (p.name==nm)),{boxes:=B++[[AV.str p.name,.str p.owner,.int .i64 p.prio,.sl .sh (p.need.map encA),.sl .sh (p.labels.map encP),.sl .sh (p.sel.map encM),.sl .sh (p.tols.map encL),.str p.key,.int .i64 p.most,.str p.node,.bool p.hold]],toks:=[],loops:=[]:Heap})) rfl) (by kernel_rfl)
 obtain⟨r,h,rfl⟩:=key
 exact h
def idxG(nm:List UInt8)(i:Int):List Pod→Int
 |[]=> -1
 |x::l=>if x.name=nm then i else idxG nm (i+1) l
theorem index_loop{B:List (List AV)}{jj kk n:Nat}{nm:List UInt8}{C:List Pod}(hj:B[jj]?=some [.str nm])(hk:B[kk]?=some (pcs C))(hB:Tame B)(hC:C.length=n)(hn:n<9223372036854775807):∀(post:List Pod)(i:Nat)(hd:C.drop i=post)(T:Env)
 (hT:Has T [(0,.msl kk 0 n 11),(1,.func 91 [.ptr jj 0]),(7,.int .i64 n),(8,.int .i64 i)]),
 Goes cfg a162 k162_0 T ⟨B,[],[]⟩ (fun r=>r=(.ret (.int .i64 (idxG nm i post)),⟨B,[],[]⟩)):=by
 intro post
 induction post with
 |nil=>
  intro i hd T hT
  have hge:=drop_ge hd
  have c1:binA .lss (.int .i64 (i:Nat)) (.int .i64 (n:Nat))=some (.bool false):=lssF (by omega)
  exact goG 60 _ hT (.no (decide_eq_false (p:=(↑i:Int)<(↑n:Int)) (by omega))<|.fin ((.ret (.int .i64 (-1:Int)),{boxes:=B,toks:=[],loops:=[]:Heap})) rfl) (by kernel_rfl)
 |cons x post ih=>
  intro i hd T hT
  have hlt:=drop_lt hd
  have hnx:=drop_next hd
  have hx:=drop_at hd
  have c1:binA .lss (.int .i64 (i:Nat)) (.int .i64 (n:Nat))=some (.bool true):=lssT (by omega)
  have ld:=loadP (Z:=[]) (by rw[List.append_nil];exact hk) hx
  have i1:idxA 11 (.msl kk 0 n 11) (.int .i64 (i:Nat))=some (.ptr kk (0+i*11)):=idx_msl (by omega)
  have pr:=(pred_any hj hB x).1
  have inc:=inc_i (i:=i) (by omega)
  have ih':=ih (i+1) hnx
  have e:idxG nm i (x::post)=if x.name=nm then(i:Int)else idxG nm (((i+1:Nat):Int)) post:=rfl
  rw[e]
  by_cases h:x.name=nm
  ·rw[show(x.name==nm)=true by simpa using h]at pr
   rw[if_pos h]
   exact let ζ1:Heap:={boxes:=B,toks:=[],loops:=[]:Heap};goG 60 _ hT (.yes (decide_eq_true (p:=(↑i:Int)<(↑n:Int)) (by omega))<|.idx (show idxA 11 (.msl kk (0:Nat) n (11:Nat)) (.int .i64 ↑i)=some (.ptr kk ((0:Nat)+i*(11:Nat)))from i1)<|.effY (show Does cfg (.load true (11:Nat) (.c (.ptr kk ((0:Nat)+i*(11:Nat))))) ζ1 (encPd x) ζ1 from ld)<|.effY (show Does cfg (.call (.c (.func (91:FuncId) [.ptr jj (0:Nat)])) [.c (encPd x)]) ζ1 (.bool true) ζ1 from pr)<|.tt<|.fin ((.ret (.int .i64 ↑i),ζ1)) rfl) (by kernel_rfl)
  ·rw[show(x.name==nm)=false by simpa using h]at pr
   rw[if_neg h]
   exact let ζ1:Heap:={boxes:=B,toks:=[],loops:=[]:Heap};goG 60 _ hT (.yes (decide_eq_true (p:=(↑i:Int)<(↑n:Int)) (by omega))<|.idx (show idxA 11 (.msl kk (0:Nat) n (11:Nat)) (.int .i64 ↑i)=some (.ptr kk ((0:Nat)+i*(11:Nat)))from i1)<|.effY (show Does cfg (.load true (11:Nat) (.c (.ptr kk ((0:Nat)+i*(11:Nat))))) ζ1 (encPd x) ζ1 from ld)<|.effY (show Does cfg (.call (.c (.func (91:FuncId) [.ptr jj (0:Nat)])) [.c (encPd x)]) ζ1 (.bool false) ζ1 from pr)<|.ff<|.bin (show binA .add (.int .i64 ↑i) (.int .i64 1)=some (.int .i64 (↑(i+1)))from inc)<|.cutQ k162_0 [(0,.msl kk (0:Nat) n (11:Nat)),(1,.func (91:Nat) [.ptr jj (0:Nat)]),(7,.int .i64 ↑n),(8,.int .i64 (↑(i+1)))] (ζ1) (fun T hT=>(ih' T hT))) (by kernel_rfl)
theorem index_any{B:List (List AV)}{jj kk n:Nat}{nm:List UInt8}{C:List Pod}(hj:B[jj]?=some [.str nm])(hk:B[kk]?=some (pcs C))(hB:Tame B)(hC:C.length=n)(hn:n<9223372036854775807):
 Does cfg (.callM (.c (.func 162 [])) [.c (.msl kk 0 n 11),.c (.func 91 [.ptr jj 0])]) ⟨B,[],[]⟩ (.int .i64 (idxG nm 0 C)) ⟨B,[],[]⟩:=by
 have key:Goes cfg a162 [.c c162] (initEnv [.msl kk 0 n 11,.func 91 [.ptr jj 0]]) ⟨B,[],[]⟩ (fun r=>r=(.ret (.int .i64 (idxG nm 0 C)),⟨B,[],[]⟩)):=by
  have h1:=index_loop hj hk hB hC hn C 0 rfl
  exact goG 60 [] trivial (.len (rfl:lenA false (.msl kk (0:Nat) n (11:Nat))=some (.int .i64 ↑n))<|.cutQ k162_0 [(0,.msl kk (0:Nat) n (11:Nat)),(1,.func (91:Nat) [.ptr jj (0:Nat)]),(7,.int .i64 ↑n),(8,.int .i64 0)] ({boxes:=B,toks:=[],loops:=[]:Heap}) (fun T hT=>(h1 T hT))) (by kernel_rfl)
 obtain⟨r,h,rfl⟩:=key
 have h':lim cfg (.fn 162) [.msl kk 0 n 11,.func 91 [.ptr jj 0]] ⟨B,[],[]⟩=some (.ret (.int .i64 (idxG nm 0 C)),⟨B,[],[]⟩):=by rw[l162];exact h
 have hd:=does_callM (xs:=[.msl kk 0 n 11,.func 91 [.ptr jj 0]]) h' rfl rfl
 have e:=trunc_tame (ex:=[]) (v:=.int .i64 (idxG nm 0 C)) hB rfl
 rw[List.append_nil]at e
 rw[show(⟨B,[],[]⟩:Heap).boxes.length=B.length from rfl,show(⟨B,[],[]⟩:Heap).toks.length=0 from rfl,show shutA (.int .i64 (idxG nm 0 C))=.int .i64 (idxG nm 0 C)from rfl,e]at hd
 exact hd
end Go.Aa.T
set_option linter.unusedVariables false
set_option linter.unusedSimpArgs false
set_option maxRecDepth 100000
namespace Go.Aa.T
open Go.Aa Go.Proofs
abbrev zpc:List AV:=[.str [],.str [],.int .i64 0,.sl .full [],.sl .full [],.sl .full [],.sl .full [],.str [],.int .i64 0,.str [],.bool false]
def offP(nm:List UInt8)(l:List Pod):List Pod:=l.filter fun p=> !(p.name==nm)
theorem store_last{B:List (List AV)}{z:List AV}(p:Pod)(hz:z.length=11):Does cfg (.store 11 (.c (.ptr B.length 0)) (.c (encPd p))) ⟨B++[z],[],[]⟩ .undef ⟨B++[(encPd p).cells],[],[]⟩:=fun T=>by
 have:storeA 11 ⟨B++[z],[],[]⟩ (.ptr B.length 0) (encPd p)=some ⟨B++[(encPd p).cells],[],[]⟩:=by
  simp only[storeA,List.getElem?_concat_length]
  rw[if_pos ⟨by omega,rfl,rfl,by omega⟩,paste_spec _ _ _ (by rw[show(encPd p).cells.length=11 from rfl];omega),List.take_zero,List.nil_append,show(encPd p).cells.length=11 from rfl,List.drop_eq_nil_of_le (by omega),List.append_nil,List.set_append_right _ _ (Nat.le_refl _),Nat.sub_self]
  rfl
 simp only[opStep,ev,this]
theorem load_last{B:List (List AV)}(p:Pod):Does cfg (.load true 11 (.c (.ptr B.length 0))) ⟨B++[(encPd p).cells],[],[]⟩ (encPd p) ⟨B++[(encPd p).cells],[],[]⟩:=fun T=>by
 have:loadA true 11 ⟨B++[(encPd p).cells],[],[]⟩ (.ptr B.length 0)=some (encPd p):=by
  simp only[loadA,List.getElem?_concat_length];rfl
 simp only[opStep,ev,this]
section
variable(B0:List (List AV))(kk jj n:Nat)(nm:List UInt8)
theorem pcs_app(a b:List Pod):pcs (a++b)=pcs a++pcs b:=by simp[pcs,rowCells]
structure DH(C:List Pod)(B:List (List AV)):Prop where
 row:B[kk]?=some (pcs C)
 nme:B[jj]?=some [.str nm]
 tame:Tame B
 from0:∃ex,B=B0.set kk (pcs C)++ex
variable{B0 kk jj n nm}
theorem DH.snoc{C:List Pod}{B:List (List AV)}(h:DH B0 kk jj nm C B){c:List AV}(hc:c.all data0=true):DH B0 kk jj nm C (B++[c]):=by
 obtain⟨ex,e⟩:=h.from0
 have h1:=(List.getElem?_eq_some_iff.1 h.row).1
 have h2:=(List.getElem?_eq_some_iff.1 h.nme).1
 exact⟨by rw[List.getElem?_append_left h1];exact h.row,by rw[List.getElem?_append_left h2];exact h.nme,tame_app h.tame (by simp[hc]),ex++[c],by rw[e,List.append_assoc]⟩
theorem DH.put{C:List Pod}{B:List (List AV)}(h:DH B0 kk jj nm C B)(hkj:kk≠jj)(hk:kk<B0.length)(C':List Pod):DH B0 kk jj nm C' (B.set kk (pcs C')):=by
 obtain⟨ex,e⟩:=h.from0
 have h1:=(List.getElem?_eq_some_iff.1 h.row).1
 refine⟨List.getElem?_set_self h1,by rw[List.getElem?_set_ne hkj];exact h.nme,tame_set h.tame (pcs_data C'),ex,?_⟩
 rw[e,List.set_append_left _ _ (by simpa using hk),List.set_set]
def RetD(B0:List (List AV))(kk n:Nat)(l:List Pod)(r:ARes×Heap):Prop:=∃Z ex,r=(.ret (.msl kk 0 l.length 11),⟨B0.set kk (pcs l++Z)++ex,[],[]⟩)∧Z.all data0=true∧(pcs l++Z).length=n*11
theorem delete_loop(hn:n<9223372036854775807)(hkj:kk≠jj)(hk0:kk<B0.length):∀(post:List Pod)(i:Nat)(U C:List Pod)(B:List (List AV))(hB:DH B0 kk jj nm C B)(hC:C.length=n)(hd:C.drop i=post)(hi:i≤n)(hU:C.take U.length=U)(hl:U.length<i)(T:Env)
 (hT:Has T [(0,.msl kk 0 n 11),(1,.func 91 [.ptr jj 0]),(5,.int .i64 U.length),(6,.int .i64 i)]),
 Goes cfg a89 k89_0 T ⟨B,[],[]⟩ (RetD B0 kk n (U++offP nm post)):=by
 intro post
 induction post with
 |nil=>
  intro i U C B hB hC hd hi hU hl T hT
  have hge:=drop_ge hd
  have hUn:U.length<n:=by omega
  have c1:binA .lss (.int .i64 (i:Nat)) (.int .i64 (n:Nat))=some (.bool false):=lssF (by omega)
  have s1:sliceA 11 (.msl kk 0 n 11) (some (.int .i64 (U.length:Nat))) none none=some (.msl kk (U.length*11) (n-U.length) 11):=by
   simp only[sliceA,sliceM,boundA]
   rw[if_neg (by omega)]
   rw[if_pos ⟨by omega,by omega⟩]
   simp only[Int.toNat_natCast]
   rw[if_pos (by omega)]
   simp
  have s2:sliceA 11 (.msl kk 0 n 11) none (some (.int .i64 (U.length:Nat))) none=some (.msl kk 0 U.length 11):=by
   simp only[sliceA,sliceM,boundA]
   rw[if_neg (by omega)]
   rw[if_pos ⟨by omega,by omega⟩]
   simp only[Int.toNat_natCast]
   rw[if_pos (by omega)]
   simp
  have hz:((List.replicate (n-U.length) zpc).flatten).length=(n-U.length)*11:=by simp
  have hzd:((List.replicate (n-U.length) zpc).flatten).all data0=true:=by
   refine List.all_eq_true.2 fun x hx=> ?_
   obtain⟨l,hl1,hl2⟩:=List.mem_flatten.1 hx
   rw[(List.mem_replicate.1 hl1).2]at hl2
   exact List.all_eq_true.1 (show zpc.all data0=true from rfl) x hl2
  have hpl:=pcs_len C
  have hpu:=pcs_len U
  have hpt:(pcs C).take (U.length*11)=pcs U:=by
   have e:C=U++C.drop U.length:=by
    have:=(List.take_append_drop U.length C).symm
    rwa [hU]at this
   rw[e,pcs_app,List.take_left' hpu]
  have cl:Does cfg (.clearM zpc (.c (.msl kk (U.length*11) (n-U.length) 11))) ⟨B,[],[]⟩ (.tuple []) ⟨B.set kk (pcs U++(List.replicate (n-U.length) zpc).flatten),[],[]⟩:=fun T=>by
   have:clearA zpc ⟨B,[],[]⟩ (.msl kk (U.length*11) (n-U.length) 11)=some ⟨B.set kk (pcs U++(List.replicate (n-U.length) zpc).flatten),[],[]⟩:=by
    simp only[clearA,hB.row]
    rw[if_pos ⟨by omega,rfl,by omega,by omega,rfl⟩,paste_spec _ _ _ (by omega),hpt,List.drop_eq_nil_of_le (by omega),List.append_nil]
   simp only[opStep,ev,this]
  obtain⟨ex,he⟩:=hB.from0
  have hfin:B.set kk (pcs U++(List.replicate (n-U.length) zpc).flatten)=B0.set kk (pcs U++(List.replicate (n-U.length) zpc).flatten)++ex:=by
   rw[he,List.set_append_left _ _ (by simpa using hk0),List.set_set]
  rw[show offP nm []=[]from rfl,List.append_nil]
  generalize(List.replicate (n-U.length) zpc).flatten=Z at cl hz hzd hfin
  rw[hfin]at cl
  have out:RetD B0 kk n U (.ret (.msl kk 0 U.length 11),⟨B0.set kk (pcs U++Z)++ex,[],[]⟩):=⟨Z,ex,rfl,hzd,by rw[List.length_append,hpu,hz];omega⟩
  exact let ζ1:Heap:={boxes:=B0.set kk (pcs U++Z)++ex,toks:=[],loops:=[]:Heap};goG 60 _ hT (.len (rfl:lenA false (.msl kk (0:Nat) n (11:Nat))=some (.int .i64 ↑n))<|.no (decide_eq_false (p:=(↑i:Int)<(↑n:Int)) (by omega))<|.slice (show sliceA (11:Nat) (.msl kk (0:Nat) n (11:Nat)) (some (.int .i64 (↑U.length))) none none=some (.msl kk (U.length*(11:Nat)) (n-U.length) (11:Nat))from s1)<|.effY (show Does cfg (.clearM zpc (.c (.msl kk (U.length*(11:Nat)) (n-U.length) (11:Nat)))) {boxes:=B,toks:=[],loops:=[]:Heap} (.tuple []) ζ1 from cl)<|.slice (show sliceA (11:Nat) (.msl kk (0:Nat) n (11:Nat)) none (some (.int .i64 (↑U.length))) none=some (.msl kk (0:Nat) U.length (11:Nat))from s2)<|.fin ((.ret (.msl kk (0:Nat) U.length (11:Nat)),ζ1)) (by exact out)) (by kernel_rfl)
 |cons x post ih=>
  intro i U C B hB hC hd hi hU hl T hT
  have hlt:=drop_lt hd
  have hnx:=drop_next hd
  have hx:=drop_at hd
  have c1:binA .lss (.int .i64 (i:Nat)) (.int .i64 (n:Nat))=some (.bool true):=lssT (by omega)
  have ld:=loadP (Z:=[]) (by rw[List.append_nil];exact hB.row) hx
  have i1:idxA 11 (.msl kk 0 n 11) (.int .i64 (i:Nat))=some (.ptr kk (0+i*11)):=idx_msl (by omega)
  have s1:=store_last (B:=B) (z:=zpc) x rfl
  have g1:=load_last (B:=B) x
  have hB1:=hB.snoc (pc_data x)
  have pr:=(pred_any hB1.nme hB1.tame x).2
  have inc:=inc_i (i:=i) (by omega)
  by_cases h:x.name=nm
  ·have e:offP nm (x::post)=offP nm post:=by simp[offP,h]
   rw[e]
   rw[show(x.name==nm)=true by simpa using h]at pr
   have ih':=ih (i+1) U C (B++[(encPd x).cells]) hB1 hC hnx (by omega) hU (by omega)
   exact let ζ1:Heap:={boxes:=B++[(encPd x).cells],toks:=[],loops:=[]:Heap};let ζ2:Heap:={boxes:=B,toks:=[],loops:=[]:Heap};goG 90 _ hT (.len (rfl:lenA false (.msl kk (0:Nat) n (11:Nat))=some (.int .i64 ↑n))<|.yes (decide_eq_true (p:=(↑i:Int)<(↑n:Int)) (by omega))<|.idx (show idxA 11 (.msl kk (0:Nat) n (11:Nat)) (.int .i64 ↑i)=some (.ptr kk ((0:Nat)+i*(11:Nat)))from i1)<|.effY (show Does cfg (.load true (11:Nat) (.c (.ptr kk ((0:Nat)+i*(11:Nat))))) ζ2 (encPd x) ζ2 from ld)<|.effY (show Does cfg (.store (11:Nat) (.c (.ptr B.length (0:Nat))) (.c (encPd x))) {boxes:=B++[zpc],toks:=[],loops:=[]:Heap} .undef ζ1 from s1)<|.effY (show Does cfg (.load true (11:Nat) (.c (.ptr B.length (0:Nat)))) ζ1 (encPd x) ζ1 from g1)<|.effY (show Does cfg (.callM (.c (.func (91:FuncId) [.ptr jj (0:Nat)])) [.c (encPd x)]) ζ1 (.bool true) ζ1 from pr)<|.ff<|.bin (show binA .add (.int .i64 ↑i) (.int .i64 1)=some (.int .i64 (↑(i+1)))from inc)<|.cutQ k89_0 [(0,.msl kk (0:Nat) n (11:Nat)),(1,.func (91:Nat) [.ptr jj (0:Nat)]),(5,.int .i64 (↑U.length)),(6,.int .i64 (↑(i+1)))] ({boxes:=B++[[AV.str x.name,.str x.owner,.int .i64 x.prio,.sl .sh (x.need.map encA),.sl .sh (x.labels.map encP),.sl .sh (x.sel.map encM),.sl .sh (x.tols.map encL),.str x.key,.int .i64 x.most,.str x.node,.bool x.hold]],toks:=[],loops:=[]:Heap}) (fun T hT=>(ih' T hT))) (by kernel_rfl)
  ·have e:offP nm (x::post)=x::offP nm post:=by simp[offP,h]
   rw[e]
   rw[show(x.name==nm)=false by simpa using h]at pr
   have i2:idxA 11 (.msl kk 0 n 11) (.int .i64 (U.length:Nat))=some (.ptr kk (0+U.length*11)):=idx_msl (by omega)
   have st:=storeP x hB1.row (j:=U.length) (by omega)
   have inc2:=inc_i (i:=U.length) (by omega)
   have ih':=ih (i+1) (U++[x]) (C.set U.length x) _ (hB1.put hkj hk0 (C.set U.length x)) (by simpa using hC) (by rw[List.drop_set_of_lt (by omega)];exact hnx) (by omega) (by
    rw[List.length_append,List.length_singleton,List.take_add_one,List.getElem?_set_self (by omega),List.take_set_of_le (Nat.le_refl _),hU]
    rfl) (by simp;omega)
   rw[List.append_assoc]at ih'
   have el:((U++[x]).length:Int)=((U.length+1:Nat):Int):=by simp
   rw[el]at ih'
   exact let ζ1:Heap:={boxes:=B++[(encPd x).cells],toks:=[],loops:=[]:Heap};let ζ2:Heap:={boxes:=(B++[(encPd x).cells]).set kk (pcs (C.set U.length x)),toks:=[],loops:=[]:Heap};let ζ3:Heap:={boxes:=B,toks:=[],loops:=[]:Heap};goG 90 _ hT (.len (rfl:lenA false (.msl kk (0:Nat) n (11:Nat))=some (.int .i64 ↑n))<|.yes (decide_eq_true (p:=(↑i:Int)<(↑n:Int)) (by omega))<|.idx (show idxA 11 (.msl kk (0:Nat) n (11:Nat)) (.int .i64 ↑i)=some (.ptr kk ((0:Nat)+i*(11:Nat)))from i1)<|.effY (show Does cfg (.load true (11:Nat) (.c (.ptr kk ((0:Nat)+i*(11:Nat))))) ζ3 (encPd x) ζ3 from ld)<|.effY (show Does cfg (.store (11:Nat) (.c (.ptr B.length (0:Nat))) (.c (encPd x))) {boxes:=B++[zpc],toks:=[],loops:=[]:Heap} .undef ζ1 from s1)<|.effY (show Does cfg (.load true (11:Nat) (.c (.ptr B.length (0:Nat)))) ζ1 (encPd x) ζ1 from g1)<|.effY (show Does cfg (.callM (.c (.func (91:FuncId) [.ptr jj (0:Nat)])) [.c (encPd x)]) ζ1 (.bool false) ζ1 from pr)<|.tt<|.effY (show Does cfg (.load true (11:Nat) (.c (.ptr B.length (0:Nat)))) ζ1 (encPd x) ζ1 from g1)<|.idx (show idxA 11 (.msl kk (0:Nat) n (11:Nat)) (.int .i64 (↑U.length))=some (.ptr kk ((0:Nat)+U.length*(11:Nat)))from i2)<|.effY (show Does cfg (.store (11:Nat) (.c (.ptr kk ((0:Nat)+U.length*(11:Nat)))) (.c (encPd x))) ζ1 .undef ζ2 from st)<|.bin (show binA .add (.int .i64 (↑U.length)) (.int .i64 1)=some (.int .i64 (↑(U.length+(1:Nat)):Int))from inc2)<|.bin (show binA .add (.int .i64 ↑i) (.int .i64 1)=some (.int .i64 (↑(i+1)))from inc)<|.cutQ k89_0 [(0,.msl kk (0:Nat) n (11:Nat)),(1,.func (91:Nat) [.ptr jj (0:Nat)]),(5,.int .i64 (↑(U.length+(1:Nat)):Int)),(6,.int .i64 (↑(i+1)))] (ζ2) (fun T hT=>(ih' T hT))) (by kernel_rfl)
end
end Go.Aa.T
set_option linter.unusedVariables false
set_option linter.unusedSimpArgs false
set_option maxRecDepth 100000
namespace Go.Aa.T
open Go.Aa Go.Proofs
theorem idx_spec(nm:List UInt8):∀(l:List Pod)(i:Nat),(idxG nm i l= -1∧offP nm l=l)∨∃q,idxG nm i l=((i+q:Nat):Int)∧q<l.length∧offP nm l=l.take q++offP nm (l.drop (q+1))
 |[],i=>.inl ⟨rfl,rfl⟩
 |x::l,i=>by
  have e:idxG nm i (x::l)=if x.name=nm then(i:Int)else idxG nm ((i+1:Nat):Int) l:=rfl
  rw[e]
  by_cases h:x.name=nm
  ·rw[if_pos h]
   exact .inr ⟨0,by simp,by simp,by simp[offP,h]⟩
  ·rw[if_neg h]
   have e2:offP nm (x::l)=x::offP nm l:=by simp[offP,h]
   rw[e2]
   rcases idx_spec nm l (i+1)with⟨h1,h2⟩|⟨q,h1,h2,h3⟩
   ·exact .inl ⟨h1,by rw[h2]⟩
   ·exact .inr ⟨q+1,by rw[h1];congr 1;omega,by simp;omega,by rw[h3];rfl⟩
theorem trunc_all{B:List (List AV)}{ex:List (List AV)}{nb:Nat}{v:AV}(hl:B.length=nb)(hB:Tame B)(hv:within nb 0 v=true):trunc nb 0 v ⟨B++ex,[],[]⟩=⟨B,[],[]⟩:=by
 subst hl;exact trunc_tame hB hv
theorem delete_any{B:List (List AV)}{kk jj n:Nat}{nm:List UInt8}{C:List Pod}(hn:n<9223372036854775807)(hkj:kk≠jj)(hk:B[kk]?=some (pcs C))(hj:B[jj]?=some [.str nm])(hB:Tame B)(hC:C.length=n):
 ∃Z,Z.all data0=true∧(pcs (offP nm C)++Z).length=n*11∧Does cfg (.callM (.c (.func 89 [])) [.c (.msl kk 0 n 11),.c (.func 91 [.ptr jj 0])]) ⟨B,[],[]⟩ (.msl kk 0 (offP nm C).length 11) ⟨B.set kk (pcs (offP nm C)++Z),[],[]⟩:=by
 have hk0:=(List.getElem?_eq_some_iff.1 hk).1
 have hi:=index_any hj hk hB hC hn
 have hself:B.set kk (pcs C)=B:=by
  obtain⟨h1,h2⟩:=List.getElem?_eq_some_iff.1 hk
  rw[←h2];exact List.set_getElem_self h1
 have hDH:DH B kk jj nm C B:=⟨hk,hj,hB,[],by rw[hself,List.append_nil]⟩
 have key:Goes cfg a89 [.c c89] (initEnv [.msl kk 0 n 11,.func 91 [.ptr jj 0]]) ⟨B,[],[]⟩ (RetD B kk n (offP nm C)):=by
  have hsp:(idxG nm 0 C= -1∧offP nm C=C)∨∃q,idxG nm 0 C=((0+q:Nat):Int)∧q<C.length∧offP nm C=C.take q++offP nm (C.drop (q+1)):=idx_spec nm C 0
  rcases hsp with⟨h1,h2⟩|⟨q,h1,h2,h3⟩
  ·rw[h1]at hi
   rw[h2]
   have out:RetD B kk n C (.ret (.msl kk 0 n 11),⟨B,[],[]⟩):=⟨[],[],by rw[hC,List.append_nil,List.append_nil,hself],rfl,by rw[List.append_nil,pcs_len,hC]⟩
   exact let ζ1:Heap:={boxes:=B,toks:=[],loops:=[]:Heap};goG 60 [] trivial (.effCM [.msl kk (0:Nat) n (11:Nat),.func (91:Nat) [.ptr jj (0:Nat)]] (show Does cfg (.callM (.c (.func (162:FuncId) [])) [.c (.msl kk (0:Nat) n (11:Nat)),.c (.func (91:FuncId) [.ptr jj (0:Nat)])]) ζ1 (.int .i64 (-1:Int)) ζ1 from hi) rfl<|.tt<|.fin ((.ret (.msl kk (0:Nat) n (11:Nat)),ζ1)) (by exact out)) (by kernel_rfl)
  ·rw[Nat.zero_add]at h1
   rw[h1]at hi
   rw[h3]
   have hl:(C.take q).length=q:=by rw[List.length_take];omega
   have h2':=delete_loop hn hkj hk0 (C.drop (q+1)) (q+1) (C.take q) C B hDH hC rfl (by omega) (by rw[hl]) (by omega)
   rw[hl]at h2'
   have inc:=inc_i (i:=q) (by omega)
   have ne1:binA .eql (.int .i64 (q:Nat)) (.int .i64 (-1))=some (.bool false):=eqlF (by omega)
   exact let ζ1:Heap:={boxes:=B,toks:=[],loops:=[]:Heap};goG 60 [] trivial (.effCM [.msl kk (0:Nat) n (11:Nat),.func (91:Nat) [.ptr jj (0:Nat)]] (show Does cfg (.callM (.c (.func (162:FuncId) [])) [.c (.msl kk (0:Nat) n (11:Nat)),.c (.func (91:FuncId) [.ptr jj (0:Nat)])]) ζ1 (.int .i64 ↑q) ζ1 from hi) rfl<|.ff<|.bin (show binA .add (.int .i64 ↑q) (.int .i64 1)=some (.int .i64 (↑(q+(1:Nat)):Int))from inc)<|.cutQ k89_0 [(0,.msl kk (0:Nat) n (11:Nat)),(1,.func (91:Nat) [.ptr jj (0:Nat)]),(5,.int .i64 ↑q),(6,.int .i64 (↑(q+(1:Nat)):Int))] (ζ1) (fun T hT=>(h2' T hT))) (by kernel_rfl)
 obtain⟨r,h,Z,ex,rfl,hZ,hlen⟩:=key
 refine⟨Z,hZ,hlen,?_⟩
 have h':lim cfg (.fn 89) [.msl kk 0 n 11,.func 91 [.ptr jj 0]] ⟨B,[],[]⟩=some (.ret (.msl kk 0 (offP nm C).length 11),⟨B.set kk (pcs (offP nm C)++Z)++ex,[],[]⟩):=by rw[l89];exact h
 have hd:=does_callM (xs:=[.msl kk 0 n 11,.func 91 [.ptr jj 0]]) h' rfl rfl
 have hw:within B.length 0 (.msl kk 0 (offP nm C).length 11)=true:=by simp[within,in2,in1,in0,hk0]
 have e:=trunc_all (ex:=ex) (nb:=B.length) (by simp) (tame_set (k:=kk) hB (by rw[List.all_append,pcs_data,hZ];rfl:(pcs (offP nm C)++Z).all data0=true)) hw
 rw[show(⟨B,[],[]⟩:Heap).boxes.length=B.length from rfl,show(⟨B,[],[]⟩:Heap).toks.length=0 from rfl,show shutA (.msl kk 0 (offP nm C).length 11)=.msl kk 0 (offP nm C).length 11 from rfl,e]at hd
 exact hd
theorem delete_nil{B:List (List AV)}{jj:Nat}(hB:Tame B):Does cfg (.callM (.c (.func 89 [])) [.c (.sl .nil []),.c (.func 91 [.ptr jj 0])]) ⟨B,[],[]⟩ (.sl .nil []) ⟨B,[],[]⟩:=by
 have lp:∀(T:Env)(hT:Has T [(7,.int .i64 ((([]:List AV).length:Nat):Int)),(8,.int .i64 0)]),Goes cfg a162 k162_0 T ⟨B,[],[]⟩ (fun r=>r=(.ret (.int .i64 (-1)),⟨B,[],[]⟩)):=by
  intro T hT
  exact goG 60 _ hT (.ff<|.fin ((.ret (.int .i64 (-1:Int)),{boxes:=B,toks:=[],loops:=[]:Heap})) rfl) (by kernel_rfl)
 have k1:Goes cfg a162 [.c c162] (initEnv [.sl .nil [],.func 91 [.ptr jj 0]]) ⟨B,[],[]⟩ (fun r=>r=(.ret (.int .i64 (-1)),⟨B,[],[]⟩)):=by
  exact goG 60 [] trivial (.len (show lenA false (.sl .nil [])=some (.int .i64 (↑[].length:Int))from len_sl _ _)<|.cutQ k162_0 [(7,.int .i64 (↑[].length:Int)),(8,.int .i64 0)] ({boxes:=B,toks:=[],loops:=[]:Heap}) (fun T hT=>(lp T hT))) (by kernel_rfl)
 obtain⟨r,h,rfl⟩:=k1
 have h':lim cfg (.fn 162) [.sl .nil [],.func 91 [.ptr jj 0]] ⟨B,[],[]⟩=some (.ret (.int .i64 (-1)),⟨B,[],[]⟩):=by rw[l162];exact h
 have hd:=does_callM (xs:=[.sl .nil [],.func 91 [.ptr jj 0]]) h' rfl rfl
 have e:=trunc_tame (ex:=[]) (v:=.int .i64 (-1)) hB rfl
 rw[List.append_nil]at e
 rw[show(⟨B,[],[]⟩:Heap).boxes.length=B.length from rfl,show(⟨B,[],[]⟩:Heap).toks.length=0 from rfl,show shutA (.int .i64 (-1))=.int .i64 (-1)from rfl,e]at hd
 have hd':Does cfg (.callM (.c (.func 162 [])) [.c (.sl .nil []),.c (.func 91 [.ptr jj 0])]) ⟨B,[],[]⟩ (.int .i64 (-1)) ⟨B,[],[]⟩:=hd
 have k2:Goes cfg a89 [.c c89] (initEnv [.sl .nil [],.func 91 [.ptr jj 0]]) ⟨B,[],[]⟩ (fun r=>r=(.ret (.sl .nil []),⟨B,[],[]⟩)):=by
  exact let ζ1:Heap:={boxes:=B,toks:=[],loops:=[]:Heap};goG 60 [] trivial (.effY (show Does cfg (.callM (.c (.func (162:FuncId) [])) [.c (.sl .nil []),.c (.func (91:FuncId) [.ptr jj (0:Nat)])]) ζ1 (.int .i64 (-1:Int)) ζ1 from hd')<|.tt<|.fin ((.ret (.sl .nil []),ζ1)) rfl) (by kernel_rfl)
 obtain⟨r,h2,rfl⟩:=k2
 have h2':lim cfg (.fn 89) [.sl .nil [],.func 91 [.ptr jj 0]] ⟨B,[],[]⟩=some (.ret (.sl .nil []),⟨B,[],[]⟩):=by rw[l89];exact h2
 have hd2:=does_callM (xs:=[.sl .nil [],.func 91 [.ptr jj 0]]) h2' rfl rfl
 have e2:=trunc_tame (ex:=[]) (v:=.sl .nil []) hB rfl
 rw[List.append_nil]at e2
 rw[show(⟨B,[],[]⟩:Heap).boxes.length=B.length from rfl,show(⟨B,[],[]⟩:Heap).toks.length=0 from rfl,show shutA (.sl .nil [])=.sl .nil []from rfl,e2]at hd2
 exact hd2
end Go.Aa.T
set_option linter.unusedVariables false
set_option linter.unusedSimpArgs false
set_option maxRecDepth 100000
namespace Go.Aa.T
open Go.Aa Go.Proofs
theorem does_callN{xs:List AV}{g:FuncId}{v0 v:AV}{H H0 H2:Heap}(h0:lim cfg (.fn g) xs Heap.nil=some (.ret v0,H0))(hn:isData (shutA v0)=false)(h:lim cfg (.fn g) xs H=some (.ret v,H2))(hx:xs.map shutA=xs)(hd:xs.all isData=true):
 Does cfg (.callM (.c (.func g [])) (xs.map .c)) H (shutA v) (trunc H.boxes.length H.toks.length (shutA v) H2):=fun T=>by
 have e:(xs.map Opd.c).map (fun x=>shutA (ev T x))=xs:=by rw[List.map_map];exact hx
 simp only[opStep,e]
 rw[show ev T (.c (.func g []))=.func g []from rfl]
 simp only[callW,hd,List.all_nil,Bool.and_self,if_true,List.append_nil,h0,hn,Bool.false_eq_true,if_false,callE,h]
theorem trunc_new{B ex:List (List AV)}{nb k off n es:Nat}(hl:nb≤k):trunc nb 0 (.msl k off n es) ⟨B,[],[]⟩=⟨B,[],[]⟩:=by
 unfold trunc
 have hw:within nb 0 (.msl k off n es)=false:=by simp[within,in2,in1,in0];omega
 simp only[hw,List.length_nil,List.all_nil,Bool.true_and,Bool.and_false,Bool.false_and,Bool.false_eq_true,if_false,List.take_zero,ite_self]
theorem clone_lim{l:List Pod}(hl:l≠[])(hs:l.length≤100000)(B:List (List AV)):lim cfg (.fn 90) [.sl .sh (l.map encPd)] ⟨B,[],[]⟩=some (.ret (.msl B.length 0 l.length 11),⟨B++[pcs l],[],[]⟩):=by
 rw[lim_ext (g:=cloneE 11 184) rfl rfl]
 obtain⟨x,m,rfl⟩:=List.exists_cons_of_ne_nil hl
 have hd:dataOk ((x::m).map encPd)=true:=dataOk_map fun _=>rfl
 simp only[cloneE,List.map_cons,appendMA]
 rw[if_pos ⟨by trivial,by trivial,by simp only[List.length_cons,List.length_map]at hs⊢;omega,lenPd (l:=x::m),hd⟩]
 simp[pcs]
theorem clone_any{l:List Pod}(hl:l≠[])(hs:l.length≤100000)(B:List (List AV)):Does cfg (.callM (.c (.func 90 [])) [.c (.sl .sh (l.map encPd))]) ⟨B,[],[]⟩ (.msl B.length 0 l.length 11) ⟨B++[pcs l],[],[]⟩:=by
 have h:=does_callN (xs:=[.sl .sh (l.map encPd)]) (clone_lim hl hs []) rfl (clone_lim hl hs B) rfl rfl
 rw[show shutA (.msl B.length 0 l.length 11)=.msl B.length 0 l.length 11 from rfl,show(⟨B,[],[]⟩:Heap).boxes.length=B.length from rfl,show(⟨B,[],[]⟩:Heap).toks.length=0 from rfl,trunc_new (ex:=[]) (Nat.le_refl _)]at h
 exact h
theorem clone_none(B:List (List AV))(hB:Tame B):Does cfg (.callM (.c (.func 90 [])) [.c (.sl .sh [])]) ⟨B,[],[]⟩ (.sl .nil []) ⟨B,[],[]⟩:=by
 have h:∀H,lim cfg (.fn 90) [.sl .sh []] H=some (.ret (.sl .nil []),H):=fun H=>by
  rw[lim_ext (g:=cloneE 11 184) rfl rfl];rfl
 have h:=does_callN (xs:=[.sl .sh []]) (h Heap.nil) rfl (h ⟨B,[],[]⟩) rfl rfl
 have e:=trunc_tame (ex:=[]) (v:=.sl .nil []) hB rfl
 rw[List.append_nil]at e
 rw[show shutA (.sl .nil [])=.sl .nil []from rfl,show(⟨B,[],[]⟩:Heap).boxes.length=B.length from rfl,show(⟨B,[],[]⟩:Heap).toks.length=0 from rfl,e]at h
 exact h
inductive PR(kk:Nat)(n:Nat)(l:List Pod):AV→List (List AV)→Prop
 |some(Z:List AV)(hZ:Z.all data0=true)(hn:0<n)(hl:(pcs l++Z).length=n*11):PR kk n l (.msl kk 0 l.length 11) [pcs l++Z]
 |none(h0:n=0)(hl:l=[]):PR kk n l (.sl .nil []) []
abbrev stC(s:St)(v:AV):List AV:=[.sl .sh (s.nodes.map encN),v,.sl .sh (s.buds.map encB)]
def stA(s:St)(v:AV):AV:=.agg (stC s v)
def RetDr(B:List (List AV))(s:St)(nm:List UInt8)(r:ARes×Heap):Prop:=∃v ex,PR (B.length+3) s.pods.length (offP nm s.pods) v ex∧r=(.ret (stA s v),⟨B++([stC s v,[.str nm],stC s v]++ex),[],[]⟩)
theorem drop0(s:St)(nm:List UInt8)(hs:s.pods.length≤100000):Goes cfg a27 [.c c27] (initEnv [encSt s,.str nm]) ⟨[],[],[]⟩ (RetDr [] s nm):=by
 obtain⟨nodes,pods,buds⟩:=s
 have hT:Tame [(encSt ⟨nodes,pods,buds⟩).cells,[.str nm],[.sl .full [],.sl .full [],.sl .full []]]:=tame_data rfl
 by_cases hp:pods=[]
 ·subst hp
  have h1:=clone_none [(encSt ⟨nodes,[],buds⟩).cells,[.str nm],[.sl .full [],.sl .full [],.sl .full []]] hT
  have h2:=delete_nil (jj:=1) hT
  have out:RetDr [] ⟨nodes,[],buds⟩ nm (.ret (stA ⟨nodes,[],buds⟩ (.sl .nil [])),⟨[stC ⟨nodes,[],buds⟩ (.sl .nil []),[.str nm],stC ⟨nodes,[],buds⟩ (.sl .nil [])],[],[]⟩):=⟨_,[],.none rfl rfl,rfl⟩
  exact let ζ1:Heap:={boxes:=[(encSt {nodes:=nodes,pods:=[],buds:=buds:St}).cells,[.str nm],[.sl .full [],.sl .full [],.sl .full []]],toks:=[],loops:=[]:Heap};let ζ2:List AV:=[.sl .sh (List.map encN {nodes:=nodes,pods:=[],buds:=buds:St}.nodes),.sl .nil [],.sl .sh (List.map encB {nodes:=nodes,pods:=[],buds:=buds:St}.buds)];goG 60 [] trivial (.effY (show Does cfg (.callM (.c (.func (90:FuncId) [])) [.c (.sl .sh [])]) ζ1 (.sl .nil []) ζ1 from h1)<|.effY (show Does cfg (.callM (.c (.func (89:FuncId) [])) [.c (.sl .nil []),.c (.func (91:FuncId) [.ptr 1 0])]) ζ1 (.sl .nil []) ζ1 from h2)<|.fin ((.ret (.agg ζ2),{boxes:=[ζ2,[.str nm],ζ2],toks:=[],loops:=[]:Heap})) (by exact out)) (by kernel_rfl)
 ·have h1:=clone_any hp hs [(encSt ⟨nodes,pods,buds⟩).cells,[.str nm],[.sl .full [],.sl .full [],.sl .full []]]
  obtain⟨Z,hZ,hl,h2⟩:=delete_any (B:=[(encSt ⟨nodes,pods,buds⟩).cells,[.str nm],[.sl .full [],.sl .full [],.sl .full []],pcs pods]) (kk:=3) (jj:=1) (n:=pods.length) (nm:=nm) (C:=pods) (by simp only at hs;omega) (by decide) rfl rfl (tame_app (ex:=[pcs pods]) hT (by simp[pcs_data])) rfl
  have hpos:0<pods.length:=List.length_pos_iff.2 hp
  have out:RetDr [] ⟨nodes,pods,buds⟩ nm (.ret (stA ⟨nodes,pods,buds⟩ (.msl 3 0 (offP nm pods).length 11)),⟨[stC ⟨nodes,pods,buds⟩ (.msl 3 0 (offP nm pods).length 11),[.str nm],stC ⟨nodes,pods,buds⟩ (.msl 3 0 (offP nm pods).length 11),pcs (offP nm pods)++Z],[],[]⟩):=⟨_,_,.some Z hZ hpos hl,rfl⟩
  have h1':Does cfg (.callM (.c (.func 90 [])) [.c (.sl .sh (pods.map encPd))]) ⟨[(encSt ⟨nodes,pods,buds⟩).cells,[.str nm],[.sl .full [],.sl .full [],.sl .full []]],[],[]⟩ (.msl 3 0 pods.length 11) ⟨[(encSt ⟨nodes,pods,buds⟩).cells,[.str nm],[.sl .full [],.sl .full [],.sl .full []],pcs pods],[],[]⟩:=h1
  have h2':Does cfg (.callM (.c (.func 89 [])) [.c (.msl 3 0 pods.length 11),.c (.func 91 [.ptr 1 0])]) ⟨[(encSt ⟨nodes,pods,buds⟩).cells,[.str nm],[.sl .full [],.sl .full [],.sl .full []],pcs pods],[],[]⟩ (.msl 3 0 (offP nm pods).length 11) ⟨[(encSt ⟨nodes,pods,buds⟩).cells,[.str nm],[.sl .full [],.sl .full [],.sl .full []],pcs (offP nm pods)++Z],[],[]⟩:=h2
  generalize pcs (offP nm pods)++Z=R at h2' out
  generalize pcs pods=Q at h1' h2'
  exact let ζ1:List AV:=[.sl .sh (List.map encN {nodes:=nodes,pods:=pods,buds:=buds:St}.nodes),.msl (3:Nat) (0:Nat) (offP nm pods).length (11:Nat),.sl .sh (List.map encB {nodes:=nodes,pods:=pods,buds:=buds:St}.buds)];let ζ3:List AV:=[.sl .full [],.sl .full [],.sl .full []];let ζ2:Heap:={boxes:=[(encSt {nodes:=nodes,pods:=pods,buds:=buds:St}).cells,[.str nm],ζ3,Q],toks:=[],loops:=[]:Heap};goG 60 [] trivial (.effY (show Does cfg (.callM (.c (.func (90:FuncId) [])) [.c (.sl .sh (pods.map encPd))]) {boxes:=[(encSt {nodes:=nodes,pods:=pods,buds:=buds:St}).cells,[.str nm],ζ3],toks:=[],loops:=[]:Heap} (.msl (3:Nat) (0:Nat) pods.length (11:Nat)) ζ2 from h1')<|.effY (show Does cfg (.callM (.c (.func (89:FuncId) [])) [.c (.msl (3:Nat) (0:Nat) pods.length (11:Nat)),.c (.func (91:FuncId) [.ptr 1 0])]) ζ2 (.msl (3:Nat) (0:Nat) (offP nm pods).length (11:Nat)) {boxes:=[(encSt {nodes:=nodes,pods:=pods,buds:=buds:St}).cells,[.str nm],ζ3,R],toks:=[],loops:=[]:Heap}from h2')<|.fin ((.ret (.agg ζ1),{boxes:=[ζ1,[.str nm],ζ1,R],toks:=[],loops:=[]:Heap})) (by exact out)) (by kernel_rfl)
theorem drop3(b0 b1 b2:List AV)(hb:Tame [b0,b1,b2])(s:St)(nm:List UInt8)(hs:s.pods.length≤100000):Goes cfg a27 [.c c27] (initEnv [encSt s,.str nm]) ⟨[b0,b1,b2],[],[]⟩ (RetDr [b0,b1,b2] s nm):=by
 obtain⟨nodes,pods,buds⟩:=s
 have hT:Tame [b0,b1,b2,(encSt ⟨nodes,pods,buds⟩).cells,[.str nm],[.sl .full [],.sl .full [],.sl .full []]]:=tame_app (ex:=[(encSt ⟨nodes,pods,buds⟩).cells,[.str nm],[.sl .full [],.sl .full [],.sl .full []]]) hb rfl
 by_cases hp:pods=[]
 ·subst hp
  have h1:=clone_none [b0,b1,b2,(encSt ⟨nodes,[],buds⟩).cells,[.str nm],[.sl .full [],.sl .full [],.sl .full []]] hT
  have h2:=delete_nil (jj:=4) hT
  have out:RetDr [b0,b1,b2] ⟨nodes,[],buds⟩ nm (.ret (stA ⟨nodes,[],buds⟩ (.sl .nil [])),⟨[b0,b1,b2,stC ⟨nodes,[],buds⟩ (.sl .nil []),[.str nm],stC ⟨nodes,[],buds⟩ (.sl .nil [])],[],[]⟩):=⟨_,[],.none rfl rfl,rfl⟩
  exact let ζ1:Heap:={boxes:=[b0,b1,b2,(encSt {nodes:=nodes,pods:=[],buds:=buds:St}).cells,[.str nm],[.sl .full [],.sl .full [],.sl .full []]],toks:=[],loops:=[]:Heap};let ζ2:List AV:=[.sl .sh (List.map encN {nodes:=nodes,pods:=[],buds:=buds:St}.nodes),.sl .nil [],.sl .sh (List.map encB {nodes:=nodes,pods:=[],buds:=buds:St}.buds)];goG 60 [] trivial (.effY (show Does cfg (.callM (.c (.func (90:FuncId) [])) [.c (.sl .sh [])]) ζ1 (.sl .nil []) ζ1 from h1)<|.effY (show Does cfg (.callM (.c (.func (89:FuncId) [])) [.c (.sl .nil []),.c (.func (91:FuncId) [.ptr 4 0])]) ζ1 (.sl .nil []) ζ1 from h2)<|.fin ((.ret (.agg ζ2),{boxes:=[b0,b1,b2,ζ2,[.str nm],ζ2],toks:=[],loops:=[]:Heap})) (by exact out)) (by kernel_rfl)
 ·have h1:=clone_any hp hs [b0,b1,b2,(encSt ⟨nodes,pods,buds⟩).cells,[.str nm],[.sl .full [],.sl .full [],.sl .full []]]
  obtain⟨Z,hZ,hl,h2⟩:=delete_any (B:=[b0,b1,b2,(encSt ⟨nodes,pods,buds⟩).cells,[.str nm],[.sl .full [],.sl .full [],.sl .full []],pcs pods]) (kk:=6) (jj:=4) (n:=pods.length) (nm:=nm) (C:=pods) (by simp only at hs;omega) (by decide) rfl rfl (tame_app (ex:=[pcs pods]) hT (by simp[pcs_data])) rfl
  have hpos:0<pods.length:=List.length_pos_iff.2 hp
  have out:RetDr [b0,b1,b2] ⟨nodes,pods,buds⟩ nm (.ret (stA ⟨nodes,pods,buds⟩ (.msl 6 0 (offP nm pods).length 11)),⟨[b0,b1,b2,stC ⟨nodes,pods,buds⟩ (.msl 6 0 (offP nm pods).length 11),[.str nm],stC ⟨nodes,pods,buds⟩ (.msl 6 0 (offP nm pods).length 11),pcs (offP nm pods)++Z],[],[]⟩):=⟨_,_,.some Z hZ hpos hl,rfl⟩
  have h1':Does cfg (.callM (.c (.func 90 [])) [.c (.sl .sh (pods.map encPd))]) ⟨[b0,b1,b2,(encSt ⟨nodes,pods,buds⟩).cells,[.str nm],[.sl .full [],.sl .full [],.sl .full []]],[],[]⟩ (.msl 6 0 pods.length 11) ⟨[b0,b1,b2,(encSt ⟨nodes,pods,buds⟩).cells,[.str nm],[.sl .full [],.sl .full [],.sl .full []],pcs pods],[],[]⟩:=h1
  have h2':Does cfg (.callM (.c (.func 89 [])) [.c (.msl 6 0 pods.length 11),.c (.func 91 [.ptr 4 0])]) ⟨[b0,b1,b2,(encSt ⟨nodes,pods,buds⟩).cells,[.str nm],[.sl .full [],.sl .full [],.sl .full []],pcs pods],[],[]⟩ (.msl 6 0 (offP nm pods).length 11) ⟨[b0,b1,b2,(encSt ⟨nodes,pods,buds⟩).cells,[.str nm],[.sl .full [],.sl .full [],.sl .full []],pcs (offP nm pods)++Z],[],[]⟩:=h2
  generalize pcs (offP nm pods)++Z=R at h2' out
  generalize pcs pods=Q at h1' h2'
  exact let ζ1:List AV:=[.sl .sh (List.map encN {nodes:=nodes,pods:=pods,buds:=buds:St}.nodes),.msl (6:Nat) (0:Nat) (offP nm pods).length (11:Nat),.sl .sh (List.map encB {nodes:=nodes,pods:=pods,buds:=buds:St}.buds)];let ζ3:List AV:=[.sl .full [],.sl .full [],.sl .full []];let ζ2:Heap:={boxes:=[b0,b1,b2,(encSt {nodes:=nodes,pods:=pods,buds:=buds:St}).cells,[.str nm],ζ3,Q],toks:=[],loops:=[]:Heap};goG 60 [] trivial (.effY (show Does cfg (.callM (.c (.func (90:FuncId) [])) [.c (.sl .sh (pods.map encPd))]) {boxes:=[b0,b1,b2,(encSt {nodes:=nodes,pods:=pods,buds:=buds:St}).cells,[.str nm],ζ3],toks:=[],loops:=[]:Heap} (.msl (6:Nat) (0:Nat) pods.length (11:Nat)) ζ2 from h1')<|.effY (show Does cfg (.callM (.c (.func (89:FuncId) [])) [.c (.msl (6:Nat) (0:Nat) pods.length (11:Nat)),.c (.func (91:FuncId) [.ptr 4 0])]) ζ2 (.msl (6:Nat) (0:Nat) (offP nm pods).length (11:Nat)) {boxes:=[b0,b1,b2,(encSt {nodes:=nodes,pods:=pods,buds:=buds:St}).cells,[.str nm],ζ3,R],toks:=[],loops:=[]:Heap}from h2')<|.fin ((.ret (.agg ζ1),{boxes:=[b0,b1,b2,ζ1,[.str nm],ζ1,R],toks:=[],loops:=[]:Heap})) (by exact out)) (by kernel_rfl)
def dropS(s:St)(nm:List UInt8):St:={s with pods:=offP nm s.pods}
theorem unrow_pods(Z:List AV):∀l:List Pod,unrow 11 l.length (pcs l++Z)=l.map encPd
 |[]=>rfl
 |x::l=>by
  have e:pcs (x::l)++Z=(encPd x).cells++(pcs l++Z):=by simp[pcs,rowCells]
  have ih:=unrow_pods Z l
  rw[e]
  show encPd x::unrow 11 l.length (pcs l++Z)=_
  rw[ih];rfl
theorem frz_pods{bs:List (List AV)}{kk:Nat}{l:List Pod}{Z:List AV}(hk:bs[kk]?=some (pcs l++Z))(hZ:Z.all data0=true):frz1 ⟨bs,[],[]⟩ (.msl kk 0 l.length 11)=some (.sl .sh (l.map encPd)):=by
 have hl:=pcs_len l
 simp only[frz1,hk,List.drop_zero]
 rw[if_pos ⟨by rw[List.length_append];omega,Nat.zero_le _,by decide,by rw[List.all_append,pcs_data,hZ];rfl⟩,unrow_pods]
theorem out_stA{bs:List (List AV)}{s:St}{v:AV}{l:List Pod}(hv:isData (shutA (stA s v))=false)(hs:shut1 v=v)(hf:frz1 ⟨bs,[],[]⟩ v=some (.sl .sh (l.map encPd))):dataOut ⟨bs,[],[]⟩ (stA s v)=some (encSt {s with pods:=l}):=by
 unfold dataOut
 rw[if_neg (by rw[hv];decide)]
 have:frzA ⟨bs,[],[]⟩ (stA s v)=some (encSt {s with pods:=l}):=by
  simp only[stA,frzA,frz2,frzL,hf]
  simp[frz1,encSt]
 rw[this]
 rfl
theorem pr_out{B:List (List AV)}{s:St}{l:List Pod}{v:AV}{ex:List (List AV)}{n:Nat}{b0 b1 b2:List AV}(h:PR (B.length+3) n l v ex):dataOut ⟨B++([b0,b1,b2]++ex),[],[]⟩ (stA s v)=some (encSt {s with pods:=l}):=by
 cases h with
 |some Z hZ hn hl=>
  refine out_stA rfl rfl (frz_pods ?_ hZ)
  rw[List.getElem?_append_right (by omega),Nat.add_sub_cancel_left]
  rfl
 |none h0 hl=>subst hl;exact out_stA rfl rfl rfl
theorem drop_gives(s:St)(nm:List UInt8)(hs:s.pods.length≤100000):GivesF cfg 27 [encSt s,.str nm] (encSt (dropS s nm)):=by
 obtain⟨r,h,v,ex,hp,rfl⟩:=drop0 s nm hs
 refine⟨_,_,(l27 _ _).trans h,pr_out (B:=[]) hp⟩
end Go.Aa.T
set_option linter.unusedVariables false
set_option linter.unusedSimpArgs false
set_option maxRecDepth 100000
namespace Go.Aa.T
open Go.Aa Go.Proofs
theorem cmp_less:∀(a b:List UInt8),decide (Lib.compareBytes a b<0)=Op.bytesLess a b
 |[],[]=>rfl
 |[],_::_=>rfl
 |_::_,[]=>rfl
 |x::a,y::b=>by
  have ih:=cmp_less a b
  unfold Lib.compareBytes Op.bytesLess
  by_cases h1:x<y
  ·simp[h1]
  ·by_cases h2:y<x
   ·have hne:¬x=y:=fun e=>by subst e;exact h1 h2
    simp[h1,h2,hne]
   ·have he:x=y:=by
     have a1:¬x.toNat<y.toNat:=fun h=>h1 h
     have a2:¬y.toNat<x.toNat:=fun h=>h2 h
     exact UInt8.toNat_inj.1 (by omega)
    subst he
    simp[h1,ih]
theorem cmp_any(p:Pod)(nm:List UInt8):Gives cfg 117 [encPd p,.str nm] (.int .i64 (Lib.compareBytes p.name nm)):=by
 refine Gives.run (l117 _ _) ?_
 have h:Gives cfg 118 [.str p.name,.str nm] (.int .i64 (Lib.compareBytes p.name nm)):=Gives.of (H':=Heap.nil) (by rw[lim_ext (g:=cmpE) rfl rfl];rfl)
 exact goG 60 [] trivial (.callI h<|.fin ((.ret (.int .i64 (Lib.compareBytes p.name nm)),{boxes:=[[.str p.name,.str p.owner,.int .i64 p.prio,.sl .sh (p.need.map encA),.sl .sh (p.labels.map encP),.sl .sh (p.sel.map encM),.sl .sh (p.tols.map encL),.str p.key,.int .i64 p.most,.str p.node,.bool p.hold]],toks:=[],loops:=[]:Heap})) rfl) (by kernel_rfl)
theorem conv_u{m:Nat}(h:m<9223372036854775808):convA (.int .u64) (.int .i64 (m:Nat))=some (.int .u64 (m:Nat)):=by
 have e:IntKind.u64.wrap (m:Int)=(m:Int):=by
  simp only[IntKind.wrap,IntKind.bits,IntKind.signed,Bool.false_and,Bool.false_eq_true,if_false]
  omega
 simp[convA,e]
theorem shr_1(m:Nat):binA .shr (.int .u64 (m:Nat)) (.int .u64 1)=some (.int .u64 ((m/2:Nat))):=by
 have e:(m:Int).fdiv 2=((m/2:Nat):Int):=by
  rw[Int.fdiv_eq_ediv_of_nonneg _ (by decide)];rfl
 show some (AV.int .u64 ((m:Int).fdiv (2^(min (1:Int).toNat IntKind.u64.bits))))=_
 rw[show(2:Int)^(min (1:Int).toNat IntKind.u64.bits)=2 from rfl,e]
def before(nm:List UInt8)(p:Pod):Bool:=Op.bytesLess p.name nm
def RetB(B:List (List AV))(q:Nat)(r:ARes×Heap):Prop:=∃f,r=(.ret (.tuple [.int .i64 (q:Nat),.bool f]),⟨B,[],[]⟩)
theorem bs_loop{B:List (List AV)}{kk n:Nat}{nm:List UInt8}{C:List Pod}{Z:List AV}{q:Nat}(hk:B[kk]?=some (pcs C++Z))(hC:C.length=n)(hn:n≤100000)(hq:q≤n)(h1:∀k p,C[k]?=some p→k<q→before nm p=true)(h2:∀k p,C[k]?=some p→q≤k→before nm p=false):
 ∀(d i j:Nat)(hd:j-i≤d)(hi:i≤q)(hj:q≤j)(hjn:j≤n)(T:Env)
 (hT:Has T [(0,.msl kk 0 n 11),(1,.str nm),(2,.func 117 []),(8,.int .i64 n),(9,.int .i64 i),(10,.int .i64 j)]),
 Goes cfg a116 k116_0 T ⟨B,[],[]⟩ (RetB B q):=by
 intro d
 induction d with
 |zero=>
  intro i j hd hi hj hjn T hT
  have e1:i=q:=by omega
  have e2:j=q:=by omega
  subst e1
  subst e2
  have c1:binA .lss (.int .i64 (j:Nat)) (.int .i64 (j:Nat))=some (.bool false):=lssF (by omega)
  by_cases hqn:j<n
  ·obtain⟨p,hp⟩:∃p,C[j]?=some p:=⟨C[j],List.getElem?_eq_getElem (by omega)⟩
   have ld:=loadP hk hp
   have c2:binA .lss (.int .i64 (j:Nat)) (.int .i64 (n:Nat))=some (.bool true):=lssT (by omega)
   have i1:idxA 11 (.msl kk 0 n 11) (.int .i64 (j:Nat))=some (.ptr kk (0+j*11)):=idx_msl (by omega)
   have cm:=cmp_any p nm
   have e3:=binA_eql .i64 (Lib.compareBytes p.name nm) 0
   generalize Lib.compareBytes p.name nm=z at cm e3
   exact let ζ1:Heap:={boxes:=B,toks:=[],loops:=[]:Heap};goG 60 _ hT (.no (decide_eq_false (p:=(↑j:Int)<(↑j:Int)) (by omega))<|.yes (decide_eq_true (p:=(↑j:Int)<(↑n:Int)) (by omega))<|.idx (show idxA 11 (.msl kk (0:Nat) n (11:Nat)) (.int .i64 ↑j)=some (.ptr kk ((0:Nat)+j*(11:Nat)))from i1)<|.effY (show Does cfg (.load true (11:Nat) (.c (.ptr kk ((0:Nat)+j*(11:Nat))))) ζ1 (encPd p) ζ1 from ld)<|.callI cm<|.fin ((.ret (.tuple [.int .i64 ↑j,.bool (z==(0:Int))]),ζ1)) (by exact⟨_,rfl⟩)) (by kernel_rfl)
  ·have c2:binA .lss (.int .i64 (j:Nat)) (.int .i64 (n:Nat))=some (.bool false):=lssF (by omega)
   exact goG 60 _ hT (.no (decide_eq_false (p:=(↑j:Int)<(↑j:Int)) (by omega))<|.no (decide_eq_false (p:=(↑j:Int)<(↑n:Int)) (by omega))<|.fin ((.ret (.tuple [.int .i64 ↑j,.bool false]),{boxes:=B,toks:=[],loops:=[]:Heap})) (by exact⟨_,rfl⟩)) (by kernel_rfl)
 |succ d ih=>
  intro i j hd hi hj hjn T hT
  by_cases hij:i<j
  ·have c1:binA .lss (.int .i64 (i:Nat)) (.int .i64 (j:Nat))=some (.bool true):=lssT (by omega)
   have ad:binA .add (.int .i64 (i:Nat)) (.int .i64 (j:Nat))=some (.int .i64 ((i+j:Nat):Int)):=addI (by omega) (by omega)
   have cv:=conv_u (m:=i+j) (by omega)
   have sh:=shr_1 (i+j)
   obtain⟨h,hh⟩:∃h,h=(i+j)/2:=⟨_,rfl⟩
   rw[←hh]at sh
   have ci:convA (.int .i64) (.int .u64 (h:Nat))=some (.int .i64 (h:Nat)):=conv_i64 (by omega)
   obtain⟨p,hp⟩:∃p,C[h]?=some p:=⟨C[h]'(by omega),List.getElem?_eq_getElem (by omega)⟩
   have ld:=loadP hk hp
   have i1:idxA 11 (.msl kk 0 n 11) (.int .i64 (h:Nat))=some (.ptr kk (0+h*11)):=idx_msl (by omega)
   have cm:=cmp_any p nm
   have hl:=cmp_less p.name nm
   have inc:=inc_i (i:=h) (by omega)
   by_cases hb:before nm p=true
   ·have hz:Lib.compareBytes p.name nm<0:=by
     have:=hl.trans hb
     simpa using this
    have lt:binA .lss (.int .i64 (Lib.compareBytes p.name nm)) (.int .i64 0)=some (.bool true):=lssT hz
    have hqh:h<q:=by
     rcases Nat.lt_or_ge h q with h'|h'
     ·exact h'
     ·rw[h2 h p hp h']at hb;cases hb
    have ih':=ih (h+1) j (by omega) (by omega) hj hjn
    generalize Lib.compareBytes p.name nm=z at cm lt hz
    exact let ζ1:Heap:={boxes:=B,toks:=[],loops:=[]:Heap};goG 90 _ hT (.yes (decide_eq_true (p:=(↑i:Int)<(↑j:Int)) (by omega))<|.bin (show binA .add (.int .i64 ↑i) (.int .i64 ↑j)=some (.int .i64 (↑(i+j):Int))from ad)<|.conv (show convA (CV.int IntKind.u64) (.int .i64 (↑(i+j):Int))=some (.int .u64 (↑(i+j):Int))from cv)<|.bin (show binA .shr (.int .u64 (↑(i+j):Int)) (.int .u64 1)=some (.int .u64 ↑h)from sh)<|.conv (show convA (CV.int IntKind.i64) (.int .u64 ↑h)=some (.int .i64 ↑h)from ci)<|.idx (show idxA 11 (.msl kk (0:Nat) n (11:Nat)) (.int .i64 ↑h)=some (.ptr kk ((0:Nat)+h*(11:Nat)))from i1)<|.effY (show Does cfg (.load true (11:Nat) (.c (.ptr kk ((0:Nat)+h*(11:Nat))))) ζ1 (encPd p) ζ1 from ld)<|.callI cm<|.yes (decide_eq_true (p:=z<(0:Int)) (by omega))<|.bin (show binA .add (.int .i64 ↑h) (.int .i64 1)=some (.int .i64 (↑(h+(1:Nat)):Int))from inc)<|.cutQ k116_0 [(0,.msl kk (0:Nat) n (11:Nat)),(1,.str nm),(2,.func (117:Nat) []),(8,.int .i64 ↑n),(9,.int .i64 (↑(h+(1:Nat)):Int)),(10,.int .i64 ↑j)] (ζ1) (fun T hT=>(ih' T hT))) (by kernel_rfl)
   ·have hz:¬Lib.compareBytes p.name nm<0:=fun hlt=>hb (by rw[before,←hl];simpa using hlt)
    have lt:binA .lss (.int .i64 (Lib.compareBytes p.name nm)) (.int .i64 0)=some (.bool false):=lssF (by omega)
    have hqh:q≤h:=by
     rcases Nat.lt_or_ge h q with h'|h'
     ·exact absurd (h1 h p hp h') hb
     ·exact h'
    have ih':=ih i h (by omega) hi hqh (by omega)
    generalize Lib.compareBytes p.name nm=z at cm lt hz
    exact let ζ1:Heap:={boxes:=B,toks:=[],loops:=[]:Heap};goG 90 _ hT (.yes (decide_eq_true (p:=(↑i:Int)<(↑j:Int)) (by omega))<|.bin (show binA .add (.int .i64 ↑i) (.int .i64 ↑j)=some (.int .i64 (↑(i+j):Int))from ad)<|.conv (show convA (CV.int IntKind.u64) (.int .i64 (↑(i+j):Int))=some (.int .u64 (↑(i+j):Int))from cv)<|.bin (show binA .shr (.int .u64 (↑(i+j):Int)) (.int .u64 1)=some (.int .u64 ↑h)from sh)<|.conv (show convA (CV.int IntKind.i64) (.int .u64 ↑h)=some (.int .i64 ↑h)from ci)<|.idx (show idxA 11 (.msl kk (0:Nat) n (11:Nat)) (.int .i64 ↑h)=some (.ptr kk ((0:Nat)+h*(11:Nat)))from i1)<|.effY (show Does cfg (.load true (11:Nat) (.c (.ptr kk ((0:Nat)+h*(11:Nat))))) ζ1 (encPd p) ζ1 from ld)<|.callI cm<|.no (decide_eq_false (p:=z<(0:Int)) (by omega))<|.cutQ k116_0 [(0,.msl kk (0:Nat) n (11:Nat)),(1,.str nm),(2,.func (117:Nat) []),(8,.int .i64 ↑n),(9,.int .i64 ↑i),(10,.int .i64 ↑h)] (ζ1) (fun T hT=>(ih' T hT))) (by kernel_rfl)
  ·exact ih i j (by omega) hi hj hjn T hT
theorem bs_any{B:List (List AV)}{kk n:Nat}{nm:List UInt8}{C:List Pod}{Z:List AV}{q:Nat}(hk:B[kk]?=some (pcs C++Z))(hB:Tame B)(hC:C.length=n)(hn:n≤100000)(hq:q≤n)(h1:∀k p,C[k]?=some p→k<q→before nm p=true)(h2:∀k p,C[k]?=some p→q≤k→before nm p=false):
 ∃f,Does cfg (.callM (.c (.func 116 [])) [.c (.msl kk 0 n 11),.c (.str nm),.c (.func 117 [])]) ⟨B,[],[]⟩ (.tuple [.int .i64 (q:Nat),.bool f]) ⟨B,[],[]⟩:=by
 have key:Goes cfg a116 [.c c116] (initEnv [.msl kk 0 n 11,.str nm,.func 117 []]) ⟨B,[],[]⟩ (RetB B q):=by
  have h:=bs_loop hk hC hn hq h1 h2 n 0 n (by omega) (by omega) hq (by omega)
  exact goG 60 [] trivial (.len (rfl:lenA false (.msl kk (0:Nat) n (11:Nat))=some (.int .i64 ↑n))<|.cutQ k116_0 [(0,.msl kk (0:Nat) n (11:Nat)),(1,.str nm),(2,.func (117:Nat) []),(8,.int .i64 ↑n),(9,.int .i64 0),(10,.int .i64 ↑n)] ({boxes:=B,toks:=[],loops:=[]:Heap}) (fun T hT=>(h T hT))) (by kernel_rfl)
 obtain⟨r,h,f,rfl⟩:=key
 refine⟨f,?_⟩
 have h':lim cfg (.fn 116) [.msl kk 0 n 11,.str nm,.func 117 []] ⟨B,[],[]⟩=some (.ret (.tuple [.int .i64 (q:Nat),.bool f]),⟨B,[],[]⟩):=by rw[l116];exact h
 have hd:=does_callM (xs:=[.msl kk 0 n 11,.str nm,.func 117 []]) h' rfl rfl
 have e:=trunc_tame (ex:=[]) (v:=.tuple [.int .i64 (q:Nat),.bool f]) hB rfl
 rw[List.append_nil]at e
 rw[show(⟨B,[],[]⟩:Heap).boxes.length=B.length from rfl,show(⟨B,[],[]⟩:Heap).toks.length=0 from rfl,show shutA (.tuple [.int .i64 (q:Nat),.bool f])=.tuple [.int .i64 (q:Nat),.bool f]from rfl,e]at hd
 exact hd
end Go.Aa.T
set_option linter.unusedVariables false
set_option linter.unusedSimpArgs false
set_option maxRecDepth 100000
namespace Go.Aa.T
open Go.Aa Go.Proofs
abbrev pzc:List AV:=[.sl .full [],.sl .full [],.sl .full []]
theorem does_bsl{B:List (List AV)}(p:Pod):Does cfg (.bsliceM 11 [.c (encPd p)]) ⟨B,[],[]⟩ (.msl B.length 0 1 11) ⟨B++[(encPd p).cells],[],[]⟩:=fun T=>by
 have:bsliceA 11 ⟨B,[],[]⟩ [encPd p]=some (.msl B.length 0 1 11,⟨B++[(encPd p).cells],[],[]⟩):=by
  simp only[bsliceA]
  rw[if_pos ⟨rfl,rfl⟩]
  rfl
 simp only[opStep,List.map_cons,List.map_nil,ev]
 rw[show shut2 (encPd p)=encPd p from rfl,this]
theorem pcs_cut{l:List Pod}{Z:List AV}{q m:Nat}(p:Pod)(hm:l.length=m)(hq:q≤m):(pcs l++Z).take (q*11)++(encPd p).cells++((pcs l++Z).take (m*11)).drop (q*11)=pcs (l.take q++p::l.drop q):=by
 have h1:=pcs_len l
 have e:l=l.take q++l.drop q:=(List.take_append_drop q l).symm
 have ht:=pcs_len (l.take q)
 rw[List.length_take,Nat.min_eq_left (by omega)]at ht
 have h2:pcs l=pcs (l.take q)++pcs (l.drop q):=by rw[←pcs_app,List.take_append_drop]
 have e1:(pcs l++Z).take (m*11)=pcs l:=by rw[List.take_left' (by omega)]
 have e2:(pcs l++Z).take (q*11)=pcs (l.take q):=by
  rw[List.take_append_of_le_length (by omega),h2,List.take_left' ht]
 have e3:(pcs l).drop (q*11)=pcs (l.drop q):=by rw[h2,List.drop_left' ht]
 rw[e1,e2,e3,pcs_app,show pcs (p::l.drop q)=(encPd p).cells++pcs (l.drop q)by simp[pcs,rowCells],List.append_assoc]
theorem ins_any{B:List (List AV)}{kk kv m q:Nat}{l:List Pod}{Z:List AV}{p:Pod}(hkk:kk≠kv)(hk:B[kk]?=some (pcs l++Z))(hv:B[kv]?=some (encPd p).cells)(hm:l.length=m)(hq:q≤m)(hb:m≤100000)(hZ:Z.all data0=true)(h0:0<(pcs l++Z).length):
 Does cfg (.callM (.c (.func 119 [])) [.c (.msl kk 0 m 11),.c (.int .i64 (q:Nat)),.c (.msl kv 0 1 11)]) ⟨B,[],[]⟩ (.msl B.length 0 (m+1) 11) ⟨B.set kk []++[pcs (l.take q++p::l.drop q)],[],[]⟩:=by
 have hl:=pcs_len l
 have h:lim cfg (.fn 119) [.msl kk 0 m 11,.int .i64 (q:Nat),.msl kv 0 1 11] ⟨B,[],[]⟩=some (.ret (.msl B.length 0 (m+1) 11),⟨B.set kk []++[pcs (l.take q++p::l.drop q)],[],[]⟩):=by
  rw[lim_ext (g:=insE 11 184) rfl rfl]
  have:insE 11 184 [.msl kk 0 m 11,.int .i64 (q:Nat),.msl kv 0 1 11] ⟨B,[],[]⟩=some (.msl B.length 0 (m+1) 11,⟨B.set kk []++[pcs (l.take q++p::l.drop q)],[],[]⟩):=by
   simp only[insE,hk,hv]
   rw[if_pos ⟨⟨hkk,by trivial,by trivial,by trivial,by trivial,by trivial,by omega,by omega⟩,by rw[List.length_append];omega,h0,rfl,by rw[List.all_append,pcs_data,hZ];rfl,pc_data p,by omega⟩,Int.toNat_natCast,pcs_cut p hm hq]
  rw[this];rfl
 have hd:=does_callM (xs:=[.msl kk 0 m 11,.int .i64 (q:Nat),.msl kv 0 1 11]) h rfl rfl
 rw[show shutA (.msl B.length 0 (m+1) 11)=.msl B.length 0 (m+1) 11 from rfl,show(⟨B,[],[]⟩:Heap).boxes.length=B.length from rfl,show(⟨B,[],[]⟩:Heap).toks.length=0 from rfl,trunc_new (ex:=[]) (Nat.le_refl _)]at hd
 exact hd
theorem ins_nil{B:List (List AV)}{kv:Nat}{p:Pod}(hv:B[kv]?=some (encPd p).cells):
 Does cfg (.callM (.c (.func 119 [])) [.c (.sl .nil []),.c (.int .i64 0),.c (.msl kv 0 1 11)]) ⟨B,[],[]⟩ (.msl B.length 0 1 11) ⟨B++[pcs [p]],[],[]⟩:=by
 have h:lim cfg (.fn 119) [.sl .nil [],.int .i64 0,.msl kv 0 1 11] ⟨B,[],[]⟩=some (.ret (.msl B.length 0 1 11),⟨B++[pcs [p]],[],[]⟩):=by
  rw[lim_ext (g:=insE 11 184) rfl rfl]
  have:insE 11 184 [.sl .nil [],.int .i64 0,.msl kv 0 1 11] ⟨B,[],[]⟩=some (.msl B.length 0 1 11,⟨B++[pcs [p]],[],[]⟩):=by
   simp only[insE,hv]
   rw[if_pos ⟨by trivial,by trivial,by trivial,by trivial,rfl,pc_data p,by decide⟩]
   simp[pcs,rowCells]
  rw[this];rfl
 have hd:=does_callM (xs:=[.sl .nil [],.int .i64 0,.msl kv 0 1 11]) h rfl rfl
 rw[show shutA (.msl B.length 0 1 11)=.msl B.length 0 1 11 from rfl,show(⟨B,[],[]⟩:Heap).boxes.length=B.length from rfl,show(⟨B,[],[]⟩:Heap).toks.length=0 from rfl,trunc_new (ex:=[]) (Nat.le_refl _)]at hd
 exact hd
theorem bs_nil{B:List (List AV)}(nm:List UInt8)(hB:Tame B):Does cfg (.callM (.c (.func 116 [])) [.c (.sl .nil []),.c (.str nm),.c (.func 117 [])]) ⟨B,[],[]⟩ (.tuple [.int .i64 0,.bool false]) ⟨B,[],[]⟩:=by
 have lp:∀(T:Env)(hT:Has T [(0,.sl .nil []),(1,.str nm),(2,.func 117 []),(8,.int .i64 ((([]:List AV).length:Nat):Int)),(9,.int .i64 0),(10,.int .i64 ((([]:List AV).length:Nat):Int))]),Goes cfg a116 k116_0 T ⟨B,[],[]⟩ (fun r=>r=(.ret (.tuple [.int .i64 0,.bool false]),⟨B,[],[]⟩)):=by
  intro T hT
  exact goG 60 _ hT (.ff<|.ff<|.fin ((.ret (.tuple [.int .i64 0,.bool false]),{boxes:=B,toks:=[],loops:=[]:Heap})) rfl) (by kernel_rfl)
 have k1:Goes cfg a116 [.c c116] (initEnv [.sl .nil [],.str nm,.func 117 []]) ⟨B,[],[]⟩ (fun r=>r=(.ret (.tuple [.int .i64 0,.bool false]),⟨B,[],[]⟩)):=by
  exact goG 60 [] trivial (.len (show lenA false (.sl .nil [])=some (.int .i64 (↑[].length:Int))from len_sl _ _)<|.cutQ k116_0 [(0,.sl .nil []),(1,.str nm),(2,.func (117:Nat) []),(8,.int .i64 (↑[].length:Int)),(9,.int .i64 0),(10,.int .i64 (↑[].length:Int))] ({boxes:=B,toks:=[],loops:=[]:Heap}) (fun T hT=>(lp T hT))) (by kernel_rfl)
 obtain⟨r,h,rfl⟩:=k1
 have h':lim cfg (.fn 116) [.sl .nil [],.str nm,.func 117 []] ⟨B,[],[]⟩=some (.ret (.tuple [.int .i64 0,.bool false]),⟨B,[],[]⟩):=by rw[l116];exact h
 have hd:=does_callM (xs:=[.sl .nil [],.str nm,.func 117 []]) h' rfl rfl
 have e:=trunc_tame (ex:=[]) (v:=.tuple [.int .i64 0,.bool false]) hB rfl
 rw[List.append_nil]at e
 rw[show(⟨B,[],[]⟩:Heap).boxes.length=B.length from rfl,show(⟨B,[],[]⟩:Heap).toks.length=0 from rfl,show shutA (.tuple [.int .i64 0,.bool false])=.tuple [.int .i64 0,.bool false]from rfl,e]at hd
 exact hd
def srtP(l:List Pod):Prop:=l.Pairwise fun a b=>Op.bytesLess a.name b.name=true
def putL(p:Pod)(l:List Pod):List Pod:=(offP p.name l).takeWhile (before p.name)++p::(offP p.name l).dropWhile (before p.name)
def putS(s:St)(p:Pod):St:={s with pods:=putL p s.pods}
theorem tw_take{X:Type}(f:X→Bool):∀l:List X,l.take (l.takeWhile f).length=l.takeWhile f∧l.drop (l.takeWhile f).length=l.dropWhile f
 |[]=>⟨rfl,rfl⟩
 |x::l=>by
  have ih:=tw_take f l
  cases h:f x with
  |true=>simp only[List.takeWhile_cons,List.dropWhile_cons,h,if_true,List.length_cons,List.take_succ_cons,List.drop_succ_cons,ih,and_self]
  |false=>simp[List.takeWhile_cons,List.dropWhile_cons,h]
theorem tw_len{X:Type}(f:X→Bool):∀l:List X,(l.takeWhile f).length≤l.length
 |[]=>Nat.le_refl _
 |x::l=>by
  have ih:=tw_len f l
  rw[List.takeWhile_cons]
  split
  ·simp;omega
  ·simp
theorem tw_below{X:Type}(f:X→Bool):∀(l:List X)(k:Nat)(x:X),l[k]?=some x→k<(l.takeWhile f).length→f x=true
 |[],k,x,h,_=>by simp at h
 |y::l,k,x,h,hk=>by
  rw[List.takeWhile_cons]at hk
  split at hk
  ·rename_i hy
   cases k with
   |zero=>simp at h;subst h;exact hy
   |succ k=>exact tw_below f l k x (by simpa using h) (by simpa using hk)
  ·simp at hk
theorem tw_above(nm:List UInt8):∀(l:List Pod),srtP l→∀(k:Nat)(x:Pod),l[k]?=some x→(l.takeWhile (before nm)).length≤k→before nm x=false
 |[],_,k,x,h,_=>by simp at h
 |y::l,hs,k,x,h,hk=>by
  have h1:=List.pairwise_cons.1 hs
  rw[List.takeWhile_cons]at hk
  split at hk
  ·cases k with
   |zero=>simp at hk
   |succ k=>exact tw_above nm l h1.2 k x (by simpa using h) (by simpa using hk)
  ·rename_i hy
   cases k with
   |zero=>simp at h;subst h;simpa using hy
   |succ k=>
    have hm:x∈l:=List.mem_of_getElem? (by simpa using h)
    have hlt:=h1.1 x hm
    cases hb:before nm x with
    |false=>rfl
    |true=>
     refine absurd ?_ hy
     unfold before at hb⊢
     rw[bl_eq,decide_eq_true_eq]at hlt hb⊢
     exact List.lt_trans hlt hb
theorem trunc_stA{bs:List (List AV)}{nb k off n es:Nat}{s:St}(hl:nb≤k):trunc nb 0 (stA s (.msl k off n es)) ⟨bs,[],[]⟩=⟨bs,[],[]⟩:=by
 unfold trunc
 have hw:within nb 0 (stA s (.msl k off n es))=false:=by simp[stA,within,in2,in1,in0];omega
 simp only[hw,List.length_nil,List.all_nil,Bool.true_and,Bool.and_false,Bool.false_and,Bool.false_eq_true,if_false,List.take_zero,ite_self]
theorem drop_does(S P R:List AV)(hT:Tame [S,P,R])(s:St)(nm:List UInt8)(hs:s.pods.length≤100000):∃v ex,PR 6 s.pods.length (offP nm s.pods) v ex∧
 Does cfg (.callM (.c (.func 27 [])) [.c (encSt s),.c (.str nm)]) ⟨[S,P,R],[],[]⟩ (stA s v) ⟨match ex with|[]=>[S,P,R]|x=>[S,P,R,stC s v,[.str nm],stC s v]++x,[],[]⟩:=by
 obtain⟨r0,h0,v0,ex0,hp0,rfl⟩:=drop0 s nm hs
 obtain⟨r,h,v,ex,hp,rfl⟩:=drop3 S P R hT s nm hs
 have hd0:isData (shutA (stA s v0))=false:=by cases hp0<;>rfl
 have hsh:shutA (stA s v)=stA s v:=by cases hp<;>rfl
 have hd:=does_callN (xs:=[encSt s,.str nm]) ((l27 _ _).trans h0) hd0 ((l27 _ _).trans h) rfl rfl
 rw[hsh]at hd
 refine⟨v,ex,hp,?_⟩
 cases hp with
 |some Z hZ hn hl=>
  rw[show(⟨[S,P,R],[],[]⟩:Heap).boxes.length=3 from rfl,show(⟨[S,P,R],[],[]⟩:Heap).toks.length=0 from rfl,trunc_stA (by decide)]at hd
  exact hd
 |none h0 hl=>
  have e:=trunc_tame (B:=[S,P,R]) (ex:=[stC s (.sl .nil []),[.str nm],stC s (.sl .nil [])]) (v:=stA s (.sl .nil [])) hT rfl
  rw[show(⟨[S,P,R],[],[]⟩:Heap).boxes.length=[S,P,R].length from rfl,show(⟨[S,P,R],[],[]⟩:Heap).toks.length=0 from rfl,show([S,P,R]++([stC s (.sl .nil []),[.str nm],stC s (.sl .nil [])]++[]):List (List AV))=[S,P,R]++[stC s (.sl .nil []),[.str nm],stC s (.sl .nil [])]from rfl,e]at hd
  exact hd
theorem off_len(nm:List UInt8)(l:List Pod):(offP nm l).length≤l.length:=List.length_filter_le _ _
theorem off_srt{nm:List UInt8}{l:List Pod}(h:srtP l):srtP (offP nm l):=h.filter _
def RetPut(s:St)(p:Pod)(r:ARes×Heap):Prop:=∃k bs,r=(.ret (stA s (.msl k 0 (putL p s.pods).length 11)),⟨bs,[],[]⟩)∧bs[k]?=some (pcs (putL p s.pods))
theorem put_goes(s:St)(p:Pod)(hs:s.pods.length≤1000)(hsrt:srtP s.pods):Goes cfg a45 [.c c45] (initEnv [encSt s,encPd p]) ⟨[],[],[]⟩ (RetPut s p):=by
 have hT:Tame [(encSt s).cells,(encPd p).cells,pzc]:=tame_data rfl
 obtain⟨v,ex,hp,hd⟩:=drop_does (encSt s).cells (encPd p).cells pzc hT s p.name (by omega)
 have hol:=off_len p.name s.pods
 cases hp with
 |some Z hZ hn hl=>
  obtain⟨nodes,pods,buds⟩:=s
  generalize hld:offP p.name pods=l at*
  have hsl:srtP l:=hld▸off_srt hsrt
  have tw:=tw_take (before p.name) l
  have twl:=tw_len (before p.name) l
  have hputl:putL p pods=l.take (l.takeWhile (before p.name)).length++p::l.drop (l.takeWhile (before p.name)).length:=by rw[tw.1,tw.2,←hld];rfl
  have hs':pods.length≤1000:=hs
  have hol':l.length≤pods.length:=hol
  have hZ0:0<(pcs l++Z).length:=by rw[hl];omega
  have hlen:(putL p pods).length=l.length+1:=by
   rw[hputl];simp only[List.length_append,List.length_cons,List.length_take,List.length_drop];omega
  have hQ:(pcs l++Z).all data0=true:=by rw[List.all_append,pcs_data,hZ];rfl
  have hT7:Tame [stC ⟨nodes,pods,buds⟩ (.msl 6 0 l.length 11),(encPd p).cells,pzc,stC ⟨nodes,pods,buds⟩ (.msl 6 0 l.length 11),[.str p.name],stC ⟨nodes,pods,buds⟩ (.msl 6 0 l.length 11),pcs l++Z]:=by
   intro nb hn
   have h6:6<nb:=hn
   have e1:(stC ⟨nodes,pods,buds⟩ (.msl 6 0 l.length 11)).all (in2 nb 0)=true:=by simp[in2,in1,in0,h6]
   have e2:(pcs l++Z).all (in2 nb 0)=true:=List.all_eq_true.2 fun x hx=>in2_d0 (List.all_eq_true.1 hQ x hx)
   simp only[List.all_cons (f:=fun(b:List AV)=>b.all (in2 nb 0)),List.all_nil (f:=fun(b:List AV)=>b.all (in2 nb 0)),e1,e2]
   rfl
  obtain⟨f,hb⟩:=bs_any (B:=[stC ⟨nodes,pods,buds⟩ (.msl 6 0 l.length 11),(encPd p).cells,pzc,stC ⟨nodes,pods,buds⟩ (.msl 6 0 l.length 11),[.str p.name],stC ⟨nodes,pods,buds⟩ (.msl 6 0 l.length 11),pcs l++Z]) (kk:=6) (q:=(l.takeWhile (before p.name)).length) (nm:=p.name) rfl hT7 rfl (by omega) twl (tw_below _ l) (tw_above p.name l hsl)
  have hbs:=does_bsl (B:=[stC ⟨nodes,pods,buds⟩ (.msl 6 0 l.length 11),(encPd p).cells,pzc,stC ⟨nodes,pods,buds⟩ (.msl 6 0 l.length 11),[.str p.name],stC ⟨nodes,pods,buds⟩ (.msl 6 0 l.length 11),pcs l++Z]) p
  have hin:=ins_any (B:=[stC ⟨nodes,pods,buds⟩ (.msl 6 0 l.length 11),(encPd p).cells,pzc,stC ⟨nodes,pods,buds⟩ (.msl 6 0 l.length 11),[.str p.name],stC ⟨nodes,pods,buds⟩ (.msl 6 0 l.length 11),pcs l++Z,(encPd p).cells]) (kk:=6) (kv:=7) (m:=l.length) (q:=(l.takeWhile (before p.name)).length) (p:=p) (by decide) rfl rfl rfl twl (by omega) hZ hZ0
  rw[←hputl]at hin
  have hd':Does cfg (.callM (.c (.func 27 [])) [.c (encSt ⟨nodes,pods,buds⟩),.c (.str p.name)]) ⟨[(encSt ⟨nodes,pods,buds⟩).cells,(encPd p).cells,pzc],[],[]⟩ (stA ⟨nodes,pods,buds⟩ (.msl 6 0 l.length 11)) ⟨[(encSt ⟨nodes,pods,buds⟩).cells,(encPd p).cells,pzc,stC ⟨nodes,pods,buds⟩ (.msl 6 0 l.length 11),[.str p.name],stC ⟨nodes,pods,buds⟩ (.msl 6 0 l.length 11),pcs l++Z],[],[]⟩:=hd
  have hbs':Does cfg (.bsliceM 11 [.c (encPd p)]) ⟨[stC ⟨nodes,pods,buds⟩ (.msl 6 0 l.length 11),(encPd p).cells,pzc,stC ⟨nodes,pods,buds⟩ (.msl 6 0 l.length 11),[.str p.name],stC ⟨nodes,pods,buds⟩ (.msl 6 0 l.length 11),pcs l++Z],[],[]⟩ (.msl 7 0 1 11) ⟨[stC ⟨nodes,pods,buds⟩ (.msl 6 0 l.length 11),(encPd p).cells,pzc,stC ⟨nodes,pods,buds⟩ (.msl 6 0 l.length 11),[.str p.name],stC ⟨nodes,pods,buds⟩ (.msl 6 0 l.length 11),pcs l++Z,(encPd p).cells],[],[]⟩:=hbs
  have hin':Does cfg (.callM (.c (.func 119 [])) [.c (.msl 6 0 l.length 11),.c (.int .i64 ((l.takeWhile (before p.name)).length:Nat)),.c (.msl 7 0 1 11)]) ⟨[stC ⟨nodes,pods,buds⟩ (.msl 6 0 l.length 11),(encPd p).cells,pzc,stC ⟨nodes,pods,buds⟩ (.msl 6 0 l.length 11),[.str p.name],stC ⟨nodes,pods,buds⟩ (.msl 6 0 l.length 11),pcs l++Z,(encPd p).cells],[],[]⟩ (.msl 8 0 (l.length+1) 11) ⟨[stC ⟨nodes,pods,buds⟩ (.msl 6 0 l.length 11),(encPd p).cells,pzc,stC ⟨nodes,pods,buds⟩ (.msl 6 0 l.length 11),[.str p.name],stC ⟨nodes,pods,buds⟩ (.msl 6 0 l.length 11),[],(encPd p).cells,pcs (putL p pods)],[],[]⟩:=hin
  have out:∀b0 b1 b2 b3 b4 b5 b6 b7,RetPut ⟨nodes,pods,buds⟩ p (.ret (stA ⟨nodes,pods,buds⟩ (.msl 8 0 (l.length+1) 11)),⟨[b0,b1,b2,b3,b4,b5,b6,b7,pcs (putL p pods)],[],[]⟩):=fun b0 b1 b2 b3 b4 b5 b6 b7=>⟨8,_,by rw[hlen],rfl⟩
  clear hd hbs hin hT7 hQ hZ0 hl
  generalize(l.takeWhile (before p.name)).length=q at hb hin'
  generalize pcs l++Z=Q at hb hd' hbs' hin'
  generalize pcs (putL p pods)=Q2 at hin' out
  exact let ζ1:List AV:=[.sl .sh (List.map encN {nodes:=nodes,pods:=pods,buds:=buds:St}.nodes),.msl (8:Nat) (0:Nat) (l.length+(1:Nat)) (11:Nat),.sl .sh (List.map encB {nodes:=nodes,pods:=pods,buds:=buds:St}.buds)];let ζ2:Heap:={boxes:=[stC {nodes:=nodes,pods:=pods,buds:=buds:St} (.msl (6:Nat) (0:Nat) l.length (11:Nat)),(encPd p).cells,pzc,stC {nodes:=nodes,pods:=pods,buds:=buds:St} (.msl (6:Nat) (0:Nat) l.length (11:Nat)),[.str p.name],stC {nodes:=nodes,pods:=pods,buds:=buds:St} (.msl (6:Nat) (0:Nat) l.length (11:Nat)),Q],toks:=[],loops:=[]:Heap};let ζ3:List AV:=[.str p.name,.str p.owner,.int .i64 p.prio,.sl .sh (p.need.map encA),.sl .sh (p.labels.map encP),.sl .sh (p.sel.map encM),.sl .sh (p.tols.map encL),.str p.key,.int .i64 p.most,.str p.node,.bool p.hold];let ζ4:List AV:=[.sl .sh (List.map encN {nodes:=nodes,pods:=pods,buds:=buds:St}.nodes),.msl (6:Nat) (0:Nat) l.length (11:Nat),.sl .sh (List.map encB {nodes:=nodes,pods:=pods,buds:=buds:St}.buds)];goG 90 [] trivial (.effY (show Does cfg (.callM (.c (.func (27:FuncId) [])) [.c (encSt {nodes:=nodes,pods:=pods,buds:=buds:St}),.c (.str p.name)]) {boxes:=[(encSt {nodes:=nodes,pods:=pods,buds:=buds:St}).cells,(encPd p).cells,pzc],toks:=[],loops:=[]:Heap} (stA {nodes:=nodes,pods:=pods,buds:=buds:St} (.msl (6:Nat) (0:Nat) l.length (11:Nat))) {boxes:=[(encSt {nodes:=nodes,pods:=pods,buds:=buds:St}).cells,(encPd p).cells,pzc,stC {nodes:=nodes,pods:=pods,buds:=buds:St} (.msl (6:Nat) (0:Nat) l.length (11:Nat)),[.str p.name],stC {nodes:=nodes,pods:=pods,buds:=buds:St} (.msl (6:Nat) (0:Nat) l.length (11:Nat)),Q],toks:=[],loops:=[]:Heap}from hd')<|.effCM [.msl (6:Nat) (0:Nat) l.length (11:Nat),.str p.name,.func (117:Nat) []] (show Does cfg (.callM (.c (.func (116:FuncId) [])) [.c (.msl (6:Nat) (0:Nat) l.length (11:Nat)),.c (.str p.name),.c (.func (117:FuncId) [])]) ζ2 (.tuple [.int .i64 ↑q,.bool f]) ζ2 from hb) rfl<|.effY (show Does cfg (.callM (.c (.func (119:FuncId) [])) [.c (.msl (6:Nat) (0:Nat) l.length (11:Nat)),.c (.int .i64 ↑q),.c (.msl (7:Nat) (0:Nat) (1:Nat) (11:Nat))]) {boxes:=[stC {nodes:=nodes,pods:=pods,buds:=buds:St} (.msl (6:Nat) (0:Nat) l.length (11:Nat)),(encPd p).cells,pzc,stC {nodes:=nodes,pods:=pods,buds:=buds:St} (.msl (6:Nat) (0:Nat) l.length (11:Nat)),[.str p.name],stC {nodes:=nodes,pods:=pods,buds:=buds:St} (.msl (6:Nat) (0:Nat) l.length (11:Nat)),Q,(encPd p).cells],toks:=[],loops:=[]:Heap} (.msl (8:Nat) (0:Nat) (l.length+(1:Nat)) (11:Nat)) {boxes:=[stC {nodes:=nodes,pods:=pods,buds:=buds:St} (.msl (6:Nat) (0:Nat) l.length (11:Nat)),(encPd p).cells,pzc,stC {nodes:=nodes,pods:=pods,buds:=buds:St} (.msl (6:Nat) (0:Nat) l.length (11:Nat)),[.str p.name],stC {nodes:=nodes,pods:=pods,buds:=buds:St} (.msl (6:Nat) (0:Nat) l.length (11:Nat)),[],(encPd p).cells,Q2],toks:=[],loops:=[]:Heap}from hin')<|.fin ((.ret (.agg ζ1),{boxes:=[ζ1,ζ3,ζ1,ζ4,[.str p.name],ζ4,[],ζ3,Q2],toks:=[],loops:=[]:Heap})) (by exact out _ _ _ _ _ _ _ _)) (by kernel_rfl)
 |none h0 hl=>
  obtain⟨nodes,pods,buds⟩:=s
  have hputl:putL p pods=[p]:=by
   have hl':offP p.name pods=[]:=hl
   unfold putL;rw[hl'];rfl
  have hT3:Tame [stC ⟨nodes,pods,buds⟩ (.sl .nil []),(encPd p).cells,pzc]:=fun nb hn=>rfl
  have hb:=bs_nil p.name hT3
  have hbs:Does cfg (.bsliceM 11 [.c (encPd p)]) ⟨[stC ⟨nodes,pods,buds⟩ (.sl .nil []),(encPd p).cells,pzc],[],[]⟩ (.msl 3 0 1 11) ⟨[stC ⟨nodes,pods,buds⟩ (.sl .nil []),(encPd p).cells,pzc,(encPd p).cells],[],[]⟩:=does_bsl p
  have hin:Does cfg (.callM (.c (.func 119 [])) [.c (.sl .nil []),.c (.int .i64 0),.c (.msl 3 0 1 11)]) ⟨[stC ⟨nodes,pods,buds⟩ (.sl .nil []),(encPd p).cells,pzc,(encPd p).cells],[],[]⟩ (.msl 4 0 1 11) ⟨[stC ⟨nodes,pods,buds⟩ (.sl .nil []),(encPd p).cells,pzc,(encPd p).cells,pcs [p]],[],[]⟩:=ins_nil (p:=p) rfl
  have hd':Does cfg (.callM (.c (.func 27 [])) [.c (encSt ⟨nodes,pods,buds⟩),.c (.str p.name)]) ⟨[(encSt ⟨nodes,pods,buds⟩).cells,(encPd p).cells,pzc],[],[]⟩ (stA ⟨nodes,pods,buds⟩ (.sl .nil [])) ⟨[(encSt ⟨nodes,pods,buds⟩).cells,(encPd p).cells,pzc],[],[]⟩:=hd
  have out:∀b0 b1 b2 b3,RetPut ⟨nodes,pods,buds⟩ p (.ret (stA ⟨nodes,pods,buds⟩ (.msl 4 0 1 11)),⟨[b0,b1,b2,b3,pcs [p]],[],[]⟩):=fun b0 b1 b2 b3=>⟨4,_,by rw[hputl];rfl,by rw[hputl];rfl⟩
  generalize pcs [p]=Q2 at hin out
  exact let ζ1:List AV:=[.sl .sh (List.map encN {nodes:=nodes,pods:=pods,buds:=buds:St}.nodes),.msl (4:Nat) (0:Nat) (1:Nat) (11:Nat),.sl .sh (List.map encB {nodes:=nodes,pods:=pods,buds:=buds:St}.buds)];let ζ2:List AV:=[.str p.name,.str p.owner,.int .i64 p.prio,.sl .sh (p.need.map encA),.sl .sh (p.labels.map encP),.sl .sh (p.sel.map encM),.sl .sh (p.tols.map encL),.str p.key,.int .i64 p.most,.str p.node,.bool p.hold];let ζ3:Heap:={boxes:=[stC {nodes:=nodes,pods:=pods,buds:=buds:St} (.sl .nil []),(encPd p).cells,pzc],toks:=[],loops:=[]:Heap};let ζ4:Heap:={boxes:=[(encSt {nodes:=nodes,pods:=pods,buds:=buds:St}).cells,(encPd p).cells,pzc],toks:=[],loops:=[]:Heap};goG 90 [] trivial (.effY (show Does cfg (.callM (.c (.func (27:FuncId) [])) [.c (encSt {nodes:=nodes,pods:=pods,buds:=buds:St}),.c (.str p.name)]) ζ4 (stA {nodes:=nodes,pods:=pods,buds:=buds:St} (.sl .nil [])) ζ4 from hd')<|.effY (show Does cfg (.callM (.c (.func (116:FuncId) [])) [.c (.sl .nil []),.c (.str p.name),.c (.func (117:FuncId) [])]) ζ3 (.tuple [.int .i64 0,.bool false]) ζ3 from hb)<|.effY (show Does cfg (.callM (.c (.func (119:FuncId) [])) [.c (.sl .nil []),.c (.int .i64 0),.c (.msl (3:Nat) (0:Nat) (1:Nat) (11:Nat))]) {boxes:=[stC {nodes:=nodes,pods:=pods,buds:=buds:St} (.sl .nil []),(encPd p).cells,pzc,(encPd p).cells],toks:=[],loops:=[]:Heap} (.msl (4:Nat) (0:Nat) (1:Nat) (11:Nat)) {boxes:=[stC {nodes:=nodes,pods:=pods,buds:=buds:St} (.sl .nil []),(encPd p).cells,pzc,(encPd p).cells,Q2],toks:=[],loops:=[]:Heap}from hin)<|.fin ((.ret (.agg ζ1),{boxes:=[ζ1,ζ2,ζ1,ζ2,Q2],toks:=[],loops:=[]:Heap})) (by exact out _ _ _ _)) (by kernel_rfl)
theorem put_gives(s:St)(p:Pod)(hs:s.pods.length≤1000)(hsrt:srtP s.pods):GivesF cfg 45 [encSt s,encPd p] (encSt (putS s p)):=by
 obtain⟨r,h,k,bs,rfl,hk⟩:=put_goes s p hs hsrt
 exact⟨_,_,(l45 _ _).trans h,out_stA rfl rfl (frz_pods (Z:=[]) (by rw[List.append_nil];exact hk) rfl)⟩
end Go.Aa.T
set_option linter.unusedVariables false
set_option linter.unusedSimpArgs false
set_option maxRecDepth 100000
namespace Go.Aa.T
open Go.Aa Go.Proofs
theorem less_lt{x y:List UInt8}:Op.bytesLess x y=true↔x<y:=by rw[bl_eq,decide_eq_true_eq]
theorem ord_of_not{x y:List UInt8}(h:¬(Op.bytesLess x y||x==y)=true):Op.bytesLess y x=true:=bl_not (by simpa only[Bool.not_eq_true]using h)
theorem ckAl_ordX{X:Type}{ck:X→Int}{nm:X→List UInt8}{s:List X}:∀{post:List X}{i:Nat},ckAl ck nm s i post=0→s.drop i=post→∀(j:Nat)(x p:X),i≤j+1→s[j+1]?=some x→s[j]?=some p→Op.bytesLess (nm p) (nm x)=true
 |[],i,_,hd,j,x,p,hi,hx,hp=>by
  have:=drop_ge hd
  have h2:j+1<s.length:=(List.getElem?_eq_some_iff.1 hx).1
  omega
 |y::post,i,h,hd,j,x,p,hi,hx,hp=>by
  unfold ckAl at h
  split at h
  ·split at h
   ·cases h
   ·rename_i ho
    rcases Nat.lt_or_ge i (j+1)with hlt|hge
    ·exact ckAl_ordX h (drop_next hd) j x p (by omega) hx hp
    ·have e:i=j+1:=by omega
     subst e
     have ey:y=x:=by
      have:=drop_at hd
      rw[hx]at this
      exact(Option.some.inj this).symm
     subst ey
     simp only[ordG,hp,Bool.not_eq_true]at ho
     exact ord_of_not (by rw[ho];decide)
  ·rename_i hx0;exact absurd h hx0
theorem names_ltX{X:Type}{most:Nat}{ck:X→Int}{nm:X→List UInt8}{s:List X}(h:ckAll most ck nm s=0):∀(d i:Nat)(x y:X),s[i]?=some x→s[i+d+1]?=some y→Op.bytesLess (nm x) (nm y)=true:=by
 have h0:ckAl ck nm s 0 s=0:=by
  unfold ckAll at h
  split at h
  ·exact h
  ·cases h
 intro d
 induction d with
 |zero=>intro i x y hx hy;exact ckAl_ordX h0 rfl i y x (by omega) hy hx
 |succ d ih=>
  intro i x y hx hy
  obtain⟨z,hz⟩:∃z,s[i+d+1]?=some z:=⟨s[i+d+1]'(by have:=(List.getElem?_eq_some_iff.1 hy).1;omega),List.getElem?_eq_getElem _⟩
  have a:=less_lt.1 (ih i x z hx hz)
  have b:=less_lt.1 (ckAl_ordX h0 rfl (i+d+1) y z (by omega) hy hz)
  exact less_lt.2 (List.lt_trans a b)
theorem ck_srt{s:St}(h:ckSt s=0):srtP s.pods:=by
 have h1:ckAll 128 ckPd Pod.name s.pods=0:=firstE_zero h _ (by simp)
 refine List.pairwise_iff_getElem.2 fun i j hi hj hij=> ?_
 exact names_ltX h1 (j-i-1) i _ _ (List.getElem?_eq_getElem hi) (by rw[show i+(j-i-1)+1=j by omega];exact List.getElem?_eq_getElem hj)
theorem off_app(nm:List UInt8)(a b:List Pod):offP nm (a++b)=offP nm a++offP nm b:=List.filter_append _ _
theorem off_id{nm:List UInt8}{l:List Pod}(h:∀x∈l,x.name≠nm):offP nm l=l:=List.filter_eq_self.2 fun x hx=>by simpa using h x hx
theorem off_mem{nm:List UInt8}{l:List Pod}{x:Pod}(h:x∈offP nm l):x∈l∧x.name≠nm:=by
 have:=List.mem_filter.1 h
 exact⟨this.1,by simpa using this.2⟩
theorem put_len(p:Pod)(l:List Pod):(putL p l).length=(offP p.name l).length+1:=by
 have he:=congrArg List.length (List.takeWhile_append_dropWhile (p:=before p.name) (l:=offP p.name l))
 unfold putL
 simp only[List.length_append,List.length_cons]at he⊢
 omega
end Go.Aa.T
set_option linter.unusedVariables false
set_option linter.unusedSimpArgs false
set_option maxRecDepth 100000
namespace Go.Aa.T
open Go.Aa Go.Proofs
theorem gfD{g:FuncId}{xs:List AV}{u:AV}(h:GivesF cfg g xs u)(hx:xs.map shutA=xs)(hd:xs.all isData=true)(H:Heap)(T:Env):opStepD (lim cfg) (.call (.c (.func g [])) (xs.map .c)) T H=some (.val u H):=by
 obtain⟨v,H1,h1,h2⟩:=h
 have e:(xs.map Opd.c).map (fun x=>shutA (ev T x))=xs:=by rw[List.map_map];exact hx
 simp only[opStepD,e]
 rw[show ev T (.c (.func g []))=.func g []from rfl]
 simp only[callD,hd,List.all_nil,Bool.and_self,if_true,List.append_nil,h1,h2]
def _root_.Go.Aa.ScrQ.callGF{A:AFunc}{R:ARes×Heap→Prop}{g:FuncId}{u:AV}(xs:List AV)(h:GivesF cfg g xs u)(hx:xs.map shutA=xs)(hd:xs.all isData=true)(H:Heap)(s:ScrQ cfg A R):ScrQ cfg A R:=.effS (.call (.c (.func g [])) (xs.map .c)) H u (gfD h hx hd H) s
end Go.Aa.T
set_option linter.unusedVariables false
set_option linter.unusedSimpArgs false
set_option maxRecDepth 100000
namespace Go.Aa.T
open Go.Aa Go.Proofs
theorem with_any(s:St)(l:List Pod):Gives cfg 120 [encSt s,.sl .sh (l.map encPd)] (encSt {s with pods:=l}):=by
 refine Gives.run (l120 _ _) ?_
 exact let ζ1:List AV:=[.sl .sh (s.nodes.map encN),.sl .sh (l.map encPd),.sl .sh (s.buds.map encB)];goG 60 [] trivial (.fin ((.ret (.agg ζ1),{boxes:=[[.sl .sh (s.nodes.map encN),.sl .sh (s.pods.map encPd),.sl .sh (s.buds.map encB)],ζ1],toks:=[],loops:=[]:Heap})) rfl) (by kernel_rfl)
theorem dropR_loop(s:St)(nm:List UInt8)(hs:s.pods.length≤1000)(b1:List AV):∀(post:List Pod)(i:Nat)(hd:s.pods.drop i=post)(acc:List Pod)(ha:acc.length≤i)(T:Env)
 (hT:Has T [(1,.str nm),(2,.ptr 0 0),(4,.ptr 1 0),(5,rowF encPd acc),(6,.int .i64 i)]),
 Goes cfg a47 k47_0 T ⟨[(encSt s).cells,pzc],tkR encPd acc,[]⟩ (IsRet (encSt {s with pods:=acc++offP nm post})):=by
 intro post
 induction post with
 |nil=>
  intro i hd acc ha T hT
  have hge:=drop_ge hd
  rw[show acc++offP nm []=acc by simp[offP]]
  have w:=with_any s acc
  exact let ζ1:List AV:=[.sl .sh (List.map encN {nodes:=s.nodes,pods:=acc,buds:=s.buds:St}.nodes),.sl .sh (List.map encPd {nodes:=s.nodes,pods:=acc,buds:=s.buds:St}.pods),.sl .sh (List.map encB {nodes:=s.nodes,pods:=acc,buds:=s.buds:St}.buds)];let ζ2:List AV:=[.sl .sh (s.nodes.map encN),.sl .sh (s.pods.map encPd),.sl .sh (s.buds.map encB)];goG 60 _ hT (.len (show lenA false (.sl .sh (s.pods.map encPd))=some (.int .i64 (↑s.pods.length))from len_map _)<|.no (decide_eq_false (p:=(↑i:Int)<(↑s.pods.length:Int)) (by omega))<|.callG ([.agg ζ2,.sl (skF acc) (acc.map encPd)]) (.agg ζ1) (show Gives cfg (120:FuncId) [encSt s,.sl .sh (acc.map encPd)] (encSt {nodes:=s.nodes,pods:=acc,buds:=s.buds:St})from w) Shuts.p ⟨rfl,rfl⟩<|.fin ((.ret (.agg ζ1),{boxes:=[ζ2,ζ1],toks:=tkR encPd acc,loops:=[]:Heap})) rfl) (by kernel_rfl)
 |cons x post ih=>
  intro i hd acc ha T hT
  have hlt:=drop_lt hd
  have hnx:=drop_next hd
  by_cases hq:x.name=nm
  ·have e:acc++offP nm (x::post)=acc++offP nm post:=by simp[offP,hq]
   rw[e]
   have ih':=ih (i+1) hnx acc (by omega)
   exact goG 120 _ hT (.len (show lenA false (.sl .sh (s.pods.map encPd))=some (.int .i64 (↑s.pods.length))from len_map _)<|.yes (decide_eq_true (p:=(↑i:Int)<(↑s.pods.length:Int)) (by omega))<|.idx (show idxA 11 (.sl .sh (s.pods.map encPd)) (.int .i64 ↑i)=some (.ref (encPd x).cells)from idx_row hd (by rfl))<|.no (show(!x.name==nm)=false from by have hh:(x.name==nm)=true:=(by simpa using hq);simp[hh])<|.bin (show binA .add (.int .i64 ↑i) (.int .i64 1)=some (.int .i64 (↑(i+1)))from inc_i (by omega))<|.cutQ k47_0 [(1,.str nm),(2,.ptr 0 0),(4,.ptr 1 0),(5,.sl (skF acc) (acc.map encPd)),(6,.int .i64 (↑(i+1)))] ({boxes:=[[.sl .sh (s.nodes.map encN),.sl .sh (s.pods.map encPd),.sl .sh (s.buds.map encB)],[.sl .full [],.sl .full [],.sl .full []]],toks:=tkR encPd acc,loops:=[]:Heap}) (fun T hT=>(ih' T hT))) (by kernel_rfl)
  ·have e:acc++offP nm (x::post)=(acc++[x])++offP nm post:=by simp[offP,hq]
   rw[e]
   have ih':=ih (i+1) hnx (acc++[x]) (by simp;omega)
   have ap:∀bs ls,appendA 11 184 ⟨bs,tkR encPd acc,ls⟩ (rowF encPd acc) (.sl .full [encPd x])=some (rowF encPd (acc++[x]),⟨bs,tkR encPd (acc++[x]),ls⟩):=fun bs ls=>
    row_append_T encPd (x:=x) (by simp;omega) lenPd rfl rfl
   exact let ζ1:List (List AV):=[[.sl .sh (s.nodes.map encN),.sl .sh (s.pods.map encPd),.sl .sh (s.buds.map encB)],[.sl .full [],.sl .full [],.sl .full []]];let ζ2:Heap:={boxes:=ζ1,toks:=tkR encPd (acc++[x]),loops:=[]:Heap};goG 120 _ hT (.len (show lenA false (.sl .sh (s.pods.map encPd))=some (.int .i64 (↑s.pods.length))from len_map _)<|.yes (decide_eq_true (p:=(↑i:Int)<(↑s.pods.length:Int)) (by omega))<|.idx (show idxA 11 (.sl .sh (s.pods.map encPd)) (.int .i64 ↑i)=some (.ref (encPd x).cells)from idx_row hd (by rfl))<|.yes (show(!x.name==nm)=true from by have hh:¬((x.name==nm)=true):=(by simpa using hq);simp[hh])<|.idx (show idxA 11 (.sl .sh (s.pods.map encPd)) (.int .i64 ↑i)=some (.ref (encPd x).cells)from idx_row hd (by rfl))<|.append (show appendA (11:Nat) (184:Nat) {boxes:=ζ1,toks:=tkR encPd acc,loops:=[]:Heap} (.sl (skF acc) (acc.map encPd)) (.sl .full [.agg [.str x.name,.str x.owner,.int .i64 x.prio,.sl .sh (x.need.map encA),.sl .sh (x.labels.map encP),.sl .sh (x.sel.map encM),.sl .sh (x.tols.map encL),.str x.key,.int .i64 x.most,.str x.node,.bool x.hold]])=some ((rowF encPd (acc++[x]),ζ2))from ap _ _)<|.bin (show binA .add (.int .i64 ↑i) (.int .i64 1)=some (.int .i64 (↑(i+1)))from inc_i (by omega))<|.cutQ k47_0 [(1,.str nm),(2,.ptr 0 0),(4,.ptr 1 0),(5,.sl (skF (acc++[x])) (List.map encPd (acc++[x]))),(6,.int .i64 (↑(i+1)))] (ζ2) (fun T hT=>(ih' T hT))) (by kernel_rfl)
theorem drop_ref(s:St)(nm:List UInt8)(hs:s.pods.length≤1000):Gives cfg 47 [encSt s,.str nm] (encSt (dropS s nm)):=by
 refine Gives.run (l47 _ _) ?_
 have h:=dropR_loop s nm hs [] s.pods 0 rfl [] (by simp)
 have e:rowF encPd ([]:List Pod)=.sl .full []:=rfl
 rw[e,tk_nil,List.nil_append]at h
 have e2:encSt {s with pods:=offP nm s.pods}=encSt (dropS s nm):=rfl
 rw[e2]at h
 exact goG 60 [] trivial (.cutQ k47_0 [(1,.str nm),(2,.ptr 0 0),(4,.ptr 1 0),(5,.sl .full []),(6,.int .i64 0)] ({boxes:=[[.sl .sh (s.nodes.map encN),.sl .sh (s.pods.map encPd),.sl .sh (s.buds.map encB)],[.sl .full [],.sl .full [],.sl .full []]],toks:=[],loops:=[]:Heap}) (fun T hT=>(h T hT))) (by kernel_rfl)
end Go.Aa.T
set_option linter.unusedVariables false
set_option linter.unusedSimpArgs false
set_option maxRecDepth 100000
namespace Go.Aa.T
open Go.Aa Go.Proofs
theorem row_append_L{X:Type}(enc:X→AV){es bytes:Nat}{bs:List (List AV)}{ls:List LRec}{ys m:List X}{k:SK}(h:((ys.map enc).length+(m.map enc).length)*bytes≤140737488355328)(hl:lenOk es (ys.map enc)=true)(hv:lenOk es (m.map enc)=true)(hd:dataOk (m.map enc)=true):
 appendA es bytes ⟨bs,tkR enc ys,ls⟩ (rowF enc ys) (.sl k (m.map enc))=some (rowF enc (ys++m),⟨bs,tkR enc (ys++m),ls⟩):=by
 cases m with
 |nil=>simp[appendA,rowF]
 |cons x m=>
  cases ys with
  |nil=>
   simp only[rowF,skF,List.map_nil,List.map_cons,List.nil_append,appendA,tk_nil,tk_cons]
   rw[if_pos ⟨by simpa using h,hl,hv,hd⟩]
   simp
  |cons y ys=>
   simp only[rowF,skF,List.map_cons,List.cons_append,appendA,tk_cons]
   rw[if_pos ⟨by simpa using h,hl,hv,hd⟩]
   simp
   omega
theorem off_sub{nm:List UInt8}{l:List Pod}(hs:srtP l):(∀x∈l,x.name≠nm)∨∃a x b,l=a++x::b∧x.name=nm∧(∀y∈a,before nm y=true)∧(∀y∈b,y.name≠nm∧before nm y=false):=by
 by_cases h:∀x∈l,x.name≠nm
 ·exact .inl h
 ·refine .inr ?_
  have:∃x,x∈l∧x.name=nm:=Classical.byContradiction fun hn=>h fun x hx e=>hn ⟨x,hx,e⟩
  obtain⟨x,hx,rfl⟩:=this
  obtain⟨a,b,rfl⟩:=List.append_of_mem hx
  obtain⟨s1,s2,s3⟩:=List.pairwise_append.1 hs
  obtain⟨s4,s5⟩:=List.pairwise_cons.1 s2
  refine⟨a,x,b,rfl,rfl,fun y hy=>s3 y hy x (by simp),fun y hy=> ?_⟩
  have h1:=less_lt.1 (s4 y hy)
  refine⟨fun e=> ?_,?_⟩
  ·rw[e]at h1;exact List.lt_irrefl _ h1
  ·cases hb:before x.name y with
   |false=>rfl
   |true=>exact absurd (List.lt_trans h1 (less_lt.1 hb)) (List.lt_irrefl _)
def putR(p:Pod)(l:List Pod):List Pod:=l.takeWhile (before p.name)++p::(match l.dropWhile (before p.name)with
 |[]=>[]
 |x::b=>if x.name=p.name then b else x::b)
theorem put_same{p:Pod}{l:List Pod}(hs:srtP l):putR p l=putL p l:=by
 rcases off_sub (nm:=p.name) hs with h|⟨a,x,b,rfl,hx,ha,hb⟩
 ·unfold putR putL
  rw[off_id h]
  congr 2
  cases hd:l.dropWhile (before p.name)with
  |nil=>rfl
  |cons y b=>
   have hm:y∈l:=(List.dropWhile_sublist _).subset (by rw[hd];simp)
   simp only[if_neg (h y hm)]
 ·have ht:(a++x::b).takeWhile (before p.name)=a:=by
   rw[List.takeWhile_append_of_pos (p:=before p.name) ha]
   have:before p.name x=false:=by unfold before;rw[hx,bl_irrefl]
   simp[List.takeWhile_cons,this]
  have hd:(a++x::b).dropWhile (before p.name)=x::b:=by
   have h1:=List.takeWhile_append_dropWhile (p:=before p.name) (l:=a++x::b)
   rw[ht]at h1
   exact List.append_cancel_left h1
  have ho:offP p.name (a++x::b)=a++b:=by
   rw[off_app,off_id (fun y hy e=>by
    have:=ha y hy
    unfold before at this
    rw[e,bl_irrefl]at this;cases this),show offP p.name (x::b)=offP p.name b by simp[offP,hx],off_id fun y hy=>(hb y hy).1]
  have ht2:(a++b).takeWhile (before p.name)=a:=by
   rw[List.takeWhile_append_of_pos (p:=before p.name) ha]
   cases b with
   |nil=>simp
   |cons y b=>simp[List.takeWhile_cons,(hb y (by simp)).2]
  have hd2:(a++b).dropWhile (before p.name)=b:=by
   have h1:=List.takeWhile_append_dropWhile (p:=before p.name) (l:=a++b)
   rw[ht2]at h1
   exact List.append_cancel_left h1
  unfold putR putL
  rw[ho,ht,hd,ht2,hd2]
  simp only[if_pos hx]
theorem dw_head{X:Type}{f:X→Bool}:∀{l:List X}{x:X}{b:List X},l.dropWhile f=x::b→f x=false
 |y::l,x,b,h=>by
  rw[List.dropWhile_cons]at h
  split at h
  ·exact dw_head h
  ·rename_i hy
   simp only[List.cons.injEq]at h
   rw[←h.1]
   simpa using hy
def RetPR(s:St)(p:Pod):ARes×Heap→Prop:=IsRet (encSt {s with pods:=putR p s.pods})
theorem putR_end(s:St)(p:Pod)(hs:s.pods.length≤1000)(q:Nat)(hq:q=(s.pods.takeWhile (before p.name)).length)(T:Env)
 (hT:Has T [(2,.ptr 0 0),(3,.ptr 1 0),(4,.ptr 2 0),(5,.int .i64 q)]):Goes cfg a46 k46_0 T ⟨[(encSt s).cells,(encPd p).cells,pzc],[],[]⟩ (RetPR s p):=by
 have tw:=tw_take (before p.name) s.pods
 have tl:=tw_len (before p.name) s.pods
 have hqn:q≤s.pods.length:=by omega
 have s1:sliceA 11 (.sl .sh (s.pods.map encPd)) none (some (.int .i64 (q:Int))) none=some (.sl .sh ((s.pods.take q).map encPd)):=slice_to hqn rfl fun _=>rfl
 have a1:∀bs ls,appendA 11 184 ⟨bs,[],ls⟩ (.sl .full []) (.sl .sh ((s.pods.take q).map encPd))=some (rowF encPd (s.pods.take q),⟨bs,tkR encPd (s.pods.take q),ls⟩):=fun bs ls=>by
  have:=row_append_L (es:=11) (bytes:=184) (bs:=bs) (ls:=ls) (ys:=([]:List Pod)) (m:=s.pods.take q) (k:=.sh) encPd (by simp only[List.map_nil,List.length_nil,List.length_map,List.length_take];omega) rfl lenPd (dataOk_map fun _=>rfl)
  exact this
 have a2:∀bs ls,appendA 11 184 ⟨bs,tkR encPd (s.pods.take q),ls⟩ (rowF encPd (s.pods.take q)) (.sl .full [encPd p])=some (rowF encPd (s.pods.take q++[p]),⟨bs,tkR encPd (s.pods.take q++[p]),ls⟩):=fun bs ls=>
  row_append_T encPd (x:=p) (by simp only[List.length_map,List.length_take];omega) lenPd rfl rfl
 have hlen:(s.pods.take q++[p]).length=q+1:=by simp only[List.length_append,List.length_take,List.length_singleton];omega
 cases hd:s.pods.dropWhile (before p.name)with
 |nil=>
  have hqe:q=s.pods.length:=by
   have:=tw.2
   rw[hd,List.drop_eq_nil_iff]at this
   omega
  have s2:sliceA 11 (.sl .sh (s.pods.map encPd)) (some (.int .i64 (q:Int))) none none=some (.sl .sh ((s.pods.drop q).map encPd)):=slice_from hqn rfl fun _=>rfl
  have a3:∀bs ls,appendA 11 184 ⟨bs,tkR encPd (s.pods.take q++[p]),ls⟩ (rowF encPd (s.pods.take q++[p])) (.sl .sh ((s.pods.drop q).map encPd))=some (rowF encPd (s.pods.take q++[p]++s.pods.drop q),⟨bs,tkR encPd (s.pods.take q++[p]++s.pods.drop q),ls⟩):=fun bs ls=>
   row_append_L encPd (by simp only[List.length_map,hlen,List.length_drop];omega) lenPd lenPd (dataOk_map fun _=>rfl)
  have e:putR p s.pods=s.pods.take q++[p]++s.pods.drop q:=by
   unfold putR
   rw[hd,←tw.1,←hq,hqe,List.drop_length];simp
  have w:=with_any s (s.pods.take q++[p]++s.pods.drop q)
  rw[←e]at w a3
  unfold RetPR
  exact let ζ2:List AV:=[.sl .sh (List.map encN {nodes:=s.nodes,pods:=putR p s.pods,buds:=s.buds:St}.nodes),.sl .sh (List.map encPd {nodes:=s.nodes,pods:=putR p s.pods,buds:=s.buds:St}.pods),.sl .sh (List.map encB {nodes:=s.nodes,pods:=putR p s.pods,buds:=s.buds:St}.buds)];let ζ3:List AV:=[.str p.name,.str p.owner,.int .i64 p.prio,.sl .sh (p.need.map encA),.sl .sh (p.labels.map encP),.sl .sh (p.sel.map encM),.sl .sh (p.tols.map encL),.str p.key,.int .i64 p.most,.str p.node,.bool p.hold];let ζ4:List AV:=[.sl .sh (s.nodes.map encN),.sl .sh (s.pods.map encPd),.sl .sh (s.buds.map encB)];let ζ1:List (List AV):=[ζ4,ζ3,[.sl .full [],.sl .full [],.sl .full []]];let ζ5:Heap:={boxes:=ζ1,toks:=tkR encPd (List.take q s.pods++[p]),loops:=[]:Heap};let ζ6:Heap:={boxes:=ζ1,toks:=tkR encPd (List.take q s.pods),loops:=[]:Heap};goG 120 _ hT (.len (show lenA false (.sl .sh (s.pods.map encPd))=some (.int .i64 (↑s.pods.length))from len_map _)<|.no (decide_eq_false (p:=(↑q:Int)<(↑s.pods.length:Int)) (by omega))<|.ff<|.slice (show sliceA (11:Nat) (.sl .sh (s.pods.map encPd)) none (some (.int .i64 ↑q)) none=some (.sl .sh (List.map encPd (List.take q s.pods)))from s1)<|.append (show appendA (11:Nat) (184:Nat) {boxes:=ζ1,toks:=[],loops:=[]:Heap} (.sl .full []) (.sl .sh (List.map encPd (List.take q s.pods)))=some ((rowF encPd (List.take q s.pods),ζ6))from a1 _ _)<|.append (show appendA (11:Nat) (184:Nat) ζ6 (.sl (skF (List.take q s.pods)) (List.map encPd (List.take q s.pods))) (.sl .full [.agg ζ3])=some ((rowF encPd (List.take q s.pods++[p]),ζ5))from a2 _ _)<|.len (show lenA false (.sl .sh (s.pods.map encPd))=some (.int .i64 (↑s.pods.length))from len_map _)<|.no (decide_eq_false (p:=(↑q:Int)<(↑s.pods.length:Int)) (by omega))<|.ff<|.slice (show sliceA (11:Nat) (.sl .sh (s.pods.map encPd)) (some (.int .i64 ↑q)) none none=some (.sl .sh (List.map encPd (List.drop q s.pods)))from s2)<|.append (show appendA (11:Nat) (184:Nat) ζ5 (.sl (skF (List.take q s.pods++[p])) (List.map encPd (List.take q s.pods++[p]))) (.sl .sh (List.map encPd (List.drop q s.pods)))=some ((rowF encPd (putR p s.pods),{boxes:=ζ1,toks:=tkR encPd (putR p s.pods),loops:=[]:Heap}))from a3 _ _)<|.callG ([.agg ζ4,.sl (skF (putR p s.pods)) (List.map encPd (putR p s.pods))]) (.agg ζ2) (show Gives cfg (120:FuncId) [encSt s,.sl .sh (List.map encPd (putR p s.pods))] (encSt {nodes:=s.nodes,pods:=putR p s.pods,buds:=s.buds:St})from w) Shuts.p ⟨rfl,rfl⟩<|.fin ((.ret (.agg ζ2),{boxes:=[ζ4,ζ3,ζ2],toks:=tkR encPd (putR p s.pods),loops:=[]:Heap})) rfl) (by kernel_rfl)
 |cons x b=>
  have hdq:s.pods.drop q=x::b:=by rw[hq,tw.2,hd]
  have hlt:=drop_lt hdq
  have hxi:idxA 11 (.sl .sh (s.pods.map encPd)) (.int .i64 (q:Nat))=some (.ref (encPd x).cells):=idx_row (f:=encPd) hdq rfl
  have hnb:before p.name x=false:=dw_head (f:=before p.name) hd
  have hnb':Op.bytesLess x.name p.name=false:=hnb
  by_cases hn:x.name=p.name
  ·have s2:sliceA 11 (.sl .sh (s.pods.map encPd)) (some (.int .i64 ((q+1:Nat):Int))) none none=some (.sl .sh ((s.pods.drop (q+1)).map encPd)):=slice_from (by omega) rfl fun _=>rfl
   have a3:∀bs ls,appendA 11 184 ⟨bs,tkR encPd (s.pods.take q++[p]),ls⟩ (rowF encPd (s.pods.take q++[p])) (.sl .sh ((s.pods.drop (q+1)).map encPd))=some (rowF encPd (s.pods.take q++[p]++s.pods.drop (q+1)),⟨bs,tkR encPd (s.pods.take q++[p]++s.pods.drop (q+1)),ls⟩):=fun bs ls=>
    row_append_L encPd (by simp only[List.length_map,hlen,List.length_drop];omega) lenPd lenPd (dataOk_map fun _=>rfl)
   have e:putR p s.pods=s.pods.take q++[p]++s.pods.drop (q+1):=by
    unfold putR
    rw[hd,←tw.1,←hq,drop_next hdq];simp[hn]
   have w:=with_any s (s.pods.take q++[p]++s.pods.drop (q+1))
   rw[←e]at w a3
   have inc:=inc_i (i:=q) (by omega)
   unfold RetPR
   exact let ζ2:List AV:=[.sl .sh (List.map encN {nodes:=s.nodes,pods:=putR p s.pods,buds:=s.buds:St}.nodes),.sl .sh (List.map encPd {nodes:=s.nodes,pods:=putR p s.pods,buds:=s.buds:St}.pods),.sl .sh (List.map encB {nodes:=s.nodes,pods:=putR p s.pods,buds:=s.buds:St}.buds)];let ζ3:List AV:=[.str p.name,.str p.owner,.int .i64 p.prio,.sl .sh (p.need.map encA),.sl .sh (p.labels.map encP),.sl .sh (p.sel.map encM),.sl .sh (p.tols.map encL),.str p.key,.int .i64 p.most,.str p.node,.bool p.hold];let ζ4:List AV:=[.sl .sh (s.nodes.map encN),.sl .sh (s.pods.map encPd),.sl .sh (s.buds.map encB)];let ζ1:List (List AV):=[ζ4,ζ3,[.sl .full [],.sl .full [],.sl .full []]];let ζ5:Heap:={boxes:=ζ1,toks:=tkR encPd (List.take q s.pods++[p]),loops:=[]:Heap};let ζ6:Heap:={boxes:=ζ1,toks:=tkR encPd (List.take q s.pods),loops:=[]:Heap};goG 120 _ hT (.len (show lenA false (.sl .sh (s.pods.map encPd))=some (.int .i64 (↑s.pods.length))from len_map _)<|.yes (decide_eq_true (p:=(↑q:Int)<(↑s.pods.length:Int)) (by omega))<|.idx (show idxA 11 (.sl .sh (s.pods.map encPd)) (.int .i64 ↑q)=some (.ref (encPd x).cells)from hxi)<|.no (show(Op.bytesLess x.name p.name)=false from Bool.eq_false_iff.2 (by simp+zetaDelta [hnb']))<|.slice (show sliceA (11:Nat) (.sl .sh (s.pods.map encPd)) none (some (.int .i64 ↑q)) none=some (.sl .sh (List.map encPd (List.take q s.pods)))from s1)<|.append (show appendA (11:Nat) (184:Nat) {boxes:=ζ1,toks:=[],loops:=[]:Heap} (.sl .full []) (.sl .sh (List.map encPd (List.take q s.pods)))=some ((rowF encPd (List.take q s.pods),ζ6))from a1 _ _)<|.append (show appendA (11:Nat) (184:Nat) ζ6 (.sl (skF (List.take q s.pods)) (List.map encPd (List.take q s.pods))) (.sl .full [.agg ζ3])=some ((rowF encPd (List.take q s.pods++[p]),ζ5))from a2 _ _)<|.len (show lenA false (.sl .sh (s.pods.map encPd))=some (.int .i64 (↑s.pods.length))from len_map _)<|.yes (decide_eq_true (p:=(↑q:Int)<(↑s.pods.length:Int)) (by omega))<|.idx (show idxA 11 (.sl .sh (s.pods.map encPd)) (.int .i64 ↑q)=some (.ref (encPd x).cells)from hxi)<|.yes (show(x.name==p.name)=true from(by simpa using hn))<|.bin (show binA .add (.int .i64 ↑q) (.int .i64 1)=some (.int .i64 (↑(q+(1:Nat)):Int))from inc)<|.slice (show sliceA (11:Nat) (.sl .sh (s.pods.map encPd)) (some (.int .i64 (↑(q+(1:Nat)):Int))) none none=some (.sl .sh (List.map encPd (List.drop (q+(1:Nat)) s.pods)))from s2)<|.append (show appendA (11:Nat) (184:Nat) ζ5 (.sl (skF (List.take q s.pods++[p])) (List.map encPd (List.take q s.pods++[p]))) (.sl .sh (List.map encPd (List.drop (q+(1:Nat)) s.pods)))=some ((rowF encPd (putR p s.pods),{boxes:=ζ1,toks:=tkR encPd (putR p s.pods),loops:=[]:Heap}))from a3 _ _)<|.callG ([.agg ζ4,.sl (skF (putR p s.pods)) (List.map encPd (putR p s.pods))]) (.agg ζ2) (show Gives cfg (120:FuncId) [encSt s,.sl .sh (List.map encPd (putR p s.pods))] (encSt {nodes:=s.nodes,pods:=putR p s.pods,buds:=s.buds:St})from w) Shuts.p ⟨rfl,rfl⟩<|.fin ((.ret (.agg ζ2),{boxes:=[ζ4,ζ3,ζ2],toks:=tkR encPd (putR p s.pods),loops:=[]:Heap})) rfl) (by kernel_rfl)
  ·have s2:sliceA 11 (.sl .sh (s.pods.map encPd)) (some (.int .i64 (q:Int))) none none=some (.sl .sh ((s.pods.drop q).map encPd)):=slice_from hqn rfl fun _=>rfl
   have a3:∀bs ls,appendA 11 184 ⟨bs,tkR encPd (s.pods.take q++[p]),ls⟩ (rowF encPd (s.pods.take q++[p])) (.sl .sh ((s.pods.drop q).map encPd))=some (rowF encPd (s.pods.take q++[p]++s.pods.drop q),⟨bs,tkR encPd (s.pods.take q++[p]++s.pods.drop q),ls⟩):=fun bs ls=>
    row_append_L encPd (by simp only[List.length_map,hlen,List.length_drop];omega) lenPd lenPd (dataOk_map fun _=>rfl)
   have e:putR p s.pods=s.pods.take q++[p]++s.pods.drop q:=by
    unfold putR
    rw[hd,←tw.1,←hq,hdq];simp[hn]
   have w:=with_any s (s.pods.take q++[p]++s.pods.drop q)
   rw[←e]at w a3
   unfold RetPR
   exact let ζ2:List AV:=[.sl .sh (List.map encN {nodes:=s.nodes,pods:=putR p s.pods,buds:=s.buds:St}.nodes),.sl .sh (List.map encPd {nodes:=s.nodes,pods:=putR p s.pods,buds:=s.buds:St}.pods),.sl .sh (List.map encB {nodes:=s.nodes,pods:=putR p s.pods,buds:=s.buds:St}.buds)];let ζ3:List AV:=[.str p.name,.str p.owner,.int .i64 p.prio,.sl .sh (p.need.map encA),.sl .sh (p.labels.map encP),.sl .sh (p.sel.map encM),.sl .sh (p.tols.map encL),.str p.key,.int .i64 p.most,.str p.node,.bool p.hold];let ζ4:List AV:=[.sl .sh (s.nodes.map encN),.sl .sh (s.pods.map encPd),.sl .sh (s.buds.map encB)];let ζ1:List (List AV):=[ζ4,ζ3,[.sl .full [],.sl .full [],.sl .full []]];let ζ5:Heap:={boxes:=ζ1,toks:=tkR encPd (List.take q s.pods++[p]),loops:=[]:Heap};let ζ6:Heap:={boxes:=ζ1,toks:=tkR encPd (List.take q s.pods),loops:=[]:Heap};goG 120 _ hT (.len (show lenA false (.sl .sh (s.pods.map encPd))=some (.int .i64 (↑s.pods.length))from len_map _)<|.yes (decide_eq_true (p:=(↑q:Int)<(↑s.pods.length:Int)) (by omega))<|.idx (show idxA 11 (.sl .sh (s.pods.map encPd)) (.int .i64 ↑q)=some (.ref (encPd x).cells)from hxi)<|.no (show(Op.bytesLess x.name p.name)=false from Bool.eq_false_iff.2 (by simp+zetaDelta [hnb']))<|.slice (show sliceA (11:Nat) (.sl .sh (s.pods.map encPd)) none (some (.int .i64 ↑q)) none=some (.sl .sh (List.map encPd (List.take q s.pods)))from s1)<|.append (show appendA (11:Nat) (184:Nat) {boxes:=ζ1,toks:=[],loops:=[]:Heap} (.sl .full []) (.sl .sh (List.map encPd (List.take q s.pods)))=some ((rowF encPd (List.take q s.pods),ζ6))from a1 _ _)<|.append (show appendA (11:Nat) (184:Nat) ζ6 (.sl (skF (List.take q s.pods)) (List.map encPd (List.take q s.pods))) (.sl .full [.agg ζ3])=some ((rowF encPd (List.take q s.pods++[p]),ζ5))from a2 _ _)<|.len (show lenA false (.sl .sh (s.pods.map encPd))=some (.int .i64 (↑s.pods.length))from len_map _)<|.yes (decide_eq_true (p:=(↑q:Int)<(↑s.pods.length:Int)) (by omega))<|.idx (show idxA 11 (.sl .sh (s.pods.map encPd)) (.int .i64 ↑q)=some (.ref (encPd x).cells)from hxi)<|.no (show(x.name==p.name)=false from Bool.eq_false_iff.2 (by simpa using hn))<|.slice (show sliceA (11:Nat) (.sl .sh (s.pods.map encPd)) (some (.int .i64 ↑q)) none none=some (.sl .sh (List.map encPd (List.drop q s.pods)))from s2)<|.append (show appendA (11:Nat) (184:Nat) ζ5 (.sl (skF (List.take q s.pods++[p])) (List.map encPd (List.take q s.pods++[p]))) (.sl .sh (List.map encPd (List.drop q s.pods)))=some ((rowF encPd (putR p s.pods),{boxes:=ζ1,toks:=tkR encPd (putR p s.pods),loops:=[]:Heap}))from a3 _ _)<|.callG ([.agg ζ4,.sl (skF (putR p s.pods)) (List.map encPd (putR p s.pods))]) (.agg ζ2) (show Gives cfg (120:FuncId) [encSt s,.sl .sh (List.map encPd (putR p s.pods))] (encSt {nodes:=s.nodes,pods:=putR p s.pods,buds:=s.buds:St})from w) Shuts.p ⟨rfl,rfl⟩<|.fin ((.ret (.agg ζ2),{boxes:=[ζ4,ζ3,ζ2],toks:=tkR encPd (putR p s.pods),loops:=[]:Heap})) rfl) (by kernel_rfl)
theorem putR_loop(s:St)(p:Pod)(hs:s.pods.length≤1000):∀(d i:Nat)(hd:i+d=(s.pods.takeWhile (before p.name)).length)(T:Env)
 (hT:Has T [(2,.ptr 0 0),(3,.ptr 1 0),(4,.ptr 2 0),(5,.int .i64 i)]),Goes cfg a46 k46_0 T ⟨[(encSt s).cells,(encPd p).cells,pzc],[],[]⟩ (RetPR s p):=by
 intro d
 induction d with
 |zero=>intro i hd T hT;exact putR_end s p hs i (by omega) T hT
 |succ d ih=>
  intro i hd T hT
  have tl:=tw_len (before p.name) s.pods
  obtain⟨x,hx⟩:∃x,s.pods[i]?=some x:=⟨s.pods[i]'(by omega),List.getElem?_eq_getElem (by omega)⟩
  have hb:Op.bytesLess x.name p.name=true:=tw_below (before p.name) s.pods i x hx (by omega)
  have hxi:idxA 11 (.sl .sh (s.pods.map encPd)) (.int .i64 (i:Nat))=some (.ref (encPd x).cells):=idx_at (i:=i) (by simp[hx]) rfl
  have ih':=ih (i+1) (by omega)
  have inc:=inc_i (i:=i) (by omega)
  exact goG 120 _ hT (.len (show lenA false (.sl .sh (s.pods.map encPd))=some (.int .i64 (↑s.pods.length))from len_map _)<|.yes (decide_eq_true (p:=(↑i:Int)<(↑s.pods.length:Int)) (by omega))<|.idx (show idxA 11 (.sl .sh (s.pods.map encPd)) (.int .i64 ↑i)=some (.ref (encPd x).cells)from hxi)<|.yes (show(Op.bytesLess x.name p.name)=true from(by omega))<|.bin (show binA .add (.int .i64 ↑i) (.int .i64 1)=some (.int .i64 (↑(i+1)))from inc)<|.cutQ k46_0 [(2,.ptr 0 0),(3,.ptr 1 0),(4,.ptr 2 0),(5,.int .i64 (↑(i+1)))] ({boxes:=[[.sl .sh (s.nodes.map encN),.sl .sh (s.pods.map encPd),.sl .sh (s.buds.map encB)],[.str p.name,.str p.owner,.int .i64 p.prio,.sl .sh (p.need.map encA),.sl .sh (p.labels.map encP),.sl .sh (p.sel.map encM),.sl .sh (p.tols.map encL),.str p.key,.int .i64 p.most,.str p.node,.bool p.hold],[.sl .full [],.sl .full [],.sl .full []]],toks:=[],loops:=[]:Heap}) (fun T hT=>(ih' T hT))) (by kernel_rfl)
theorem put_ref(s:St)(p:Pod)(hs:s.pods.length≤1000)(hsrt:srtP s.pods):Gives cfg 46 [encSt s,encPd p] (encSt (putS s p)):=by
 refine Gives.run (l46 _ _) ?_
 have h:=putR_loop s p hs (s.pods.takeWhile (before p.name)).length 0 (by omega)
 have e:RetPR s p=IsRet (encSt (putS s p)):=by
  unfold RetPR putS
  rw[put_same hsrt]
 rw[e]at h
 exact goG 60 [] trivial (.cutQ k46_0 [(2,.ptr 0 0),(3,.ptr 1 0),(4,.ptr 2 0),(5,.int .i64 0)] ({boxes:=[[.sl .sh (s.nodes.map encN),.sl .sh (s.pods.map encPd),.sl .sh (s.buds.map encB)],[.str p.name,.str p.owner,.int .i64 p.prio,.sl .sh (p.need.map encA),.sl .sh (p.labels.map encP),.sl .sh (p.sel.map encM),.sl .sh (p.tols.map encL),.str p.key,.int .i64 p.most,.str p.node,.bool p.hold],[.sl .full [],.sl .full [],.sl .full []]],toks:=[],loops:=[]:Heap}) (fun T hT=>(h T hT))) (by kernel_rfl)
end Go.Aa.T
set_option linter.unusedVariables false
set_option linter.unusedSimpArgs false
set_option maxRecDepth 100000
namespace Go.Aa.T
open Go.Aa Go.Proofs
def mvP(nm nd:List UInt8)(p:Pod):Pod:=if p.name=nm then{p with node:=nd}else p
def moveS(s:St)(nm nd:List UInt8):St:={s with pods:=s.pods.map (mvP nm nd)}
theorem pcs_set9(nd:List UInt8):∀(C:List Pod)(j:Nat)(p:Pod),C[j]?=some p→(pcs C).take (j*11+9)++[.str nd]++(pcs C).drop (j*11+9+1)=pcs (C.set j {p with node:=nd})
 |[],j,p,h=>by simp at h
 |c::C,0,p,h=>by
  have hc:c=p:=by simpa using h
  subst hc
  have e1:pcs (c::C)=(encPd c).cells++pcs C:=by simp[pcs,rowCells]
  have e2:pcs ((c::C).set 0 {c with node:=nd})=(encPd {c with node:=nd}).cells++pcs C:=by simp[pcs,rowCells]
  rw[e1,e2]
  rfl
 |c::C,j+1,p,h=>by
  have e1:pcs (c::C)=(encPd c).cells++pcs C:=by simp[pcs,rowCells]
  have e2:pcs ((c::C).set (j+1) {p with node:=nd})=(encPd c).cells++pcs (C.set j {p with node:=nd}):=by simp[pcs,rowCells]
  have ih:=pcs_set9 nd C j p (by simpa using h)
  have e3:(encPd c).cells.length=11:=rfl
  rw[e1,e2,←ih,List.take_append,e3,List.take_of_length_le (by rw[e3];omega),show(j+1)*11+9-11=j*11+9 by omega,List.drop_append,e3,List.drop_eq_nil_of_le (by rw[e3];omega),List.nil_append,show(j+1)*11+9+1-11=j*11+9+1 by omega]
  simp only[List.append_assoc]
theorem store9{B:List (List AV)}{kk:Nat}{C:List Pod}{j:Nat}{p:Pod}(nd:List UInt8)(hk:B[kk]?=some (pcs C))(hp:C[j]?=some p):Does cfg (.store 1 (.c (.ptr kk (0+j*11+9))) (.c (.str nd))) ⟨B,[],[]⟩ .undef ⟨B.set kk (pcs (C.set j {p with node:=nd})),[],[]⟩:=fun T=>by
 have hl:=pcs_len C
 have hj:=(List.getElem?_eq_some_iff.1 hp).1
 have:storeA 1 ⟨B,[],[]⟩ (.ptr kk (0+j*11+9)) (.str nd)=some ⟨B.set kk (pcs (C.set j {p with node:=nd})),[],[]⟩:=by
  simp only[storeA,hk,Nat.zero_add]
  rw[if_pos ⟨by omega,rfl,rfl,by omega⟩,paste_spec _ _ _ (by simp[AV.cells];omega)]
  rw[show(AV.str nd).cells=[.str nd]from rfl,show [AV.str nd].length=1 from rfl,pcs_set9 nd C j p hp]
 simp only[opStep,ev,this]
theorem load0{B:List (List AV)}{kk:Nat}{C:List Pod}{j:Nat}{p:Pod}(hk:B[kk]?=some (pcs C))(hp:C[j]?=some p):Does cfg (.load false 1 (.c (.ptr kk (0+j*11+0)))) ⟨B,[],[]⟩ (.str p.name) ⟨B,[],[]⟩:=fun T=>by
 have hl:=pcs_len C
 have hj:=(List.getElem?_eq_some_iff.1 hp).1
 obtain⟨h1,h2⟩:=cells_at (es:=11) (i:=j) (encPd_el C) (x:=encPd p) (by simp[hp])
 change((pcs C).drop (j*11)).take 11=_ at h1
 have h3:(pcs C)[j*11]?=some (.str p.name):=by
  have:(((pcs C).drop (j*11)).take 11)[0]?=some (.str p.name):=by rw[h1];rfl
  rw[List.getElem?_take_of_lt (by decide),List.getElem?_drop]at this
  exact this
 have:loadA false 1 ⟨B,[],[]⟩ (.ptr kk (0+j*11+0))=some (.str p.name):=by
  simp only[loadA,hk,Nat.zero_add,Nat.add_zero]
  rw[if_pos (by omega),if_neg (by decide),if_pos trivial,h3]
 simp only[opStep,ev,this]
def mvC(nm nd:List UInt8)(l:List Pod)(i:Nat):List Pod:=(l.take i).map (mvP nm nd)++l.drop i
theorem mvC_at{nm nd:List UInt8}{l:List Pod}{i:Nat}{x:Pod}{post:List Pod}(hd:l.drop i=x::post):(mvC nm nd l i)[i]?=some x∧mvC nm nd l (i+1)=(mvC nm nd l i).set i (mvP nm nd x):=by
 have hlt:=drop_lt hd
 have hl:((l.take i).map (mvP nm nd)).length=i:=by simp;omega
 have hx:=drop_at hd
 constructor
 ·unfold mvC
  rw[List.getElem?_append_right (by omega),hl,Nat.sub_self,hd];rfl
 ·unfold mvC
  rw[List.set_append_right _ _ (by omega),hl,Nat.sub_self,hd,drop_next hd,List.take_add_one,hx]
  simp
theorem mvC_end{nm nd:List UInt8}{l:List Pod}{i:Nat}(h:l.length≤i):mvC nm nd l i=l.map (mvP nm nd):=by
 unfold mvC;rw[List.take_of_length_le h,List.drop_eq_nil_of_le h,List.append_nil]
def RetMv(s:St)(l:List Pod)(r:ARes×Heap):Prop:=∃bs,r=(.ret (stA s (.msl 2 0 l.length 11)),⟨bs,[],[]⟩)∧bs[2]?=some (pcs l)
theorem move_loop(s:St)(nm nd:List UInt8)(hs:s.pods.length≤1000):∀(post:List Pod)(i:Nat)(ex:List (List AV))(hd:s.pods.drop i=post)(T:Env)
 (hT:Has T [(1,.str nm),(2,.str nd),(3,.ptr 0 0),(6,.ptr 1 0),(14,.msl 2 0 s.pods.length 11),(15,.int .i64 s.pods.length),(16,.int .i64 i)]),
 Goes cfg a48 k48_0 T ⟨stC s (.msl 2 0 s.pods.length 11)::pzc::pcs (mvC nm nd s.pods i)::ex,[],[]⟩ (RetMv s (s.pods.map (mvP nm nd))):=by
 intro post
 induction post with
 |nil=>
  intro i ex hd T hT
  have hge:=drop_ge hd
  rw[mvC_end hge]
  have out:∀b0 b1,RetMv s (s.pods.map (mvP nm nd)) (.ret (stA s (.msl 2 0 s.pods.length 11)),⟨b0::b1::pcs (s.pods.map (mvP nm nd))::ex,[],[]⟩):=fun b0 b1=>⟨_,by rw[List.length_map],rfl⟩
  generalize pcs (s.pods.map (mvP nm nd))=Q at out⊢
  exact let ζ1:List AV:=[.sl .sh (s.nodes.map encN),.msl (2:Nat) (0:Nat) s.pods.length (11:Nat),.sl .sh (s.buds.map encB)];let ζ2:Heap:={boxes:=ζ1::[.sl .full [],.sl .full [],.sl .full []]::Q::ex,toks:=[],loops:=[]:Heap};let ζ3:Heap:={boxes:=ζ1::ζ1::Q::ex,toks:=[],loops:=[]:Heap};goG 90 _ hT (.no (decide_eq_false (p:=(↑i:Int)<(↑s.pods.length:Int)) (by omega))<|.load (show loadA true 3 ζ2 (.ptr 0 0)=some (.agg ζ1)from load_box (cs:=ζ1) (by simp+zetaDelta) rfl)<|.store (show storeA 3 ζ2 (.ptr 1 0) (.agg ζ1)=some (ζ3)from store_box2 (cs:=[.sl .full [],.sl .full [],.sl .full []]) (cs':=ζ1) (by simp+zetaDelta) rfl (by simp+zetaDelta [List.set_append]))<|.fin ((.ret (.agg ζ1),ζ3)) (by exact out _ _)) (by kernel_rfl)
 |cons x post ih=>
  intro i ex hd T hT
  have hlt:=drop_lt hd
  have hnx:=drop_next hd
  obtain⟨hat,hst⟩:=mvC_at (nm:=nm) (nd:=nd) hd
  have ld:=loadP (B:=stC s (.msl 2 0 s.pods.length 11)::pzc::pcs (mvC nm nd s.pods i)::ex) (kk:=2) (Z:=[]) (by rw[List.append_nil];rfl) hat
  have i1:idxA 11 (.msl 2 0 s.pods.length 11) (.int .i64 (i:Nat))=some (.ptr 2 (0+i*11)):=idx_msl (by omega)
  have inc:=inc_i (i:=i) (by omega)
  have ih':=fun ex=>ih (i+1) ex hnx
  by_cases h:x.name=nm
  ·have em:mvP nm nd x={x with node:=nd}:=if_pos h
   rw[em]at hst
   have st:=fun(ex:List (List AV))=>store9 (B:=stC s (.msl 2 0 s.pods.length 11)::pzc::pcs (mvC nm nd s.pods i)::ex) (kk:=2) nd rfl hat
   rw[←hst]at st
   have st':∀ex,Does cfg (.store 1 (.c (.ptr 2 (0+i*11+9))) (.c (.str nd))) ⟨stC s (.msl 2 0 s.pods.length 11)::pzc::pcs (mvC nm nd s.pods i)::ex,[],[]⟩ .undef ⟨stC s (.msl 2 0 s.pods.length 11)::pzc::pcs (mvC nm nd s.pods (i+1))::ex,[],[]⟩:=st
   generalize pcs (mvC nm nd s.pods i)=Q at*
   generalize pcs (mvC nm nd s.pods (i+1))=Q2 at*
   exact let ζ1:List AV:=[.str x.name,.str x.owner,.int .i64 x.prio,.sl .sh (x.need.map encA),.sl .sh (x.labels.map encP),.sl .sh (x.sel.map encM),.sl .sh (x.tols.map encL),.str x.key,.int .i64 x.most,.str x.node,.bool x.hold];let ζ2:List AV:=[.sl .sh (s.nodes.map encN),.msl (2:Nat) (0:Nat) s.pods.length (11:Nat),.sl .sh (s.buds.map encB)];let ζ3:List AV:=[.sl .full [],.sl .full [],.sl .full []];let ζ4:List AV:=[.str [],.str [],.int .i64 0,.sl .full [],.sl .full [],.sl .full [],.sl .full [],.str [],.int .i64 0,.str [],.bool false];let ζ5:Heap:={boxes:=ζ2::ζ3::Q::(ex++[ζ1]),toks:=[],loops:=[]:Heap};let ζ6:Heap:={boxes:=stC s (.msl (2:Nat) (0:Nat) s.pods.length (11:Nat))::pzc::Q::ex,toks:=[],loops:=[]:Heap};goG 120 _ hT (.yes (decide_eq_true (p:=(↑i:Int)<(↑s.pods.length:Int)) (by omega))<|.idx (show idxA 11 (.msl (2:Nat) (0:Nat) s.pods.length (11:Nat)) (.int .i64 ↑i)=some (.ptr (2:Nat) ((0:Nat)+i*(11:Nat)))from i1)<|.effY (show Does cfg (.load true (11:Nat) (.c (.ptr (2:Nat) ((0:Nat)+i*(11:Nat))))) ζ6 (encPd x) ζ6 from ld)<|.store (show storeA 11 {boxes:=ζ2::ζ3::Q::(ex++[ζ4]),toks:=[],loops:=[]:Heap} (.ptr (ζ2::ζ3::Q::ex).length (0:Nat)) (.agg ζ1)=some (ζ5)from store_box2 (cs:=ζ4) (cs':=ζ1) (by simp+zetaDelta) rfl (by simp+zetaDelta [List.set_append]))<|.load (show loadA false 1 ζ5 (.ptr (ζ2::ζ3::Q::ex).length (0:Nat))=some (.str x.name)from load_box (cs:=ζ1) (by simp+zetaDelta) rfl)<|.yes (show(x.name==nm)=true from(by simpa using h))<|.load (show loadA false 1 ζ5 (.ptr 0 1)=some (.msl (2:Nat) (0:Nat) s.pods.length (11:Nat))from load_box (cs:=ζ2) (by simp+zetaDelta) rfl)<|.idx (show idxA 11 (.msl (2:Nat) (0:Nat) s.pods.length (11:Nat)) (.int .i64 ↑i)=some (.ptr (2:Nat) ((0:Nat)+i*(11:Nat)))from i1)<|.effY (show Does cfg (.store (1:Nat) (.c (.ptr (2:Nat) ((0:Nat)+i*(11:Nat)+(9:Nat)))) (.c (.str nd))) {boxes:=stC s (.msl (2:Nat) (0:Nat) s.pods.length (11:Nat))::pzc::Q::(ex++[ζ1]),toks:=[],loops:=[]:Heap} .undef {boxes:=stC s (.msl (2:Nat) (0:Nat) s.pods.length (11:Nat))::pzc::Q2::(ex++[ζ1]),toks:=[],loops:=[]:Heap}from st' _)<|.bin (show binA .add (.int .i64 ↑i) (.int .i64 1)=some (.int .i64 (↑(i+1)))from inc)<|.cutQ k48_0 [(1,.str nm),(2,.str nd),(3,.ptr 0 0),(6,.ptr 1 0),(14,.msl (2:Nat) (0:Nat) s.pods.length (11:Nat)),(15,.int .i64 (↑s.pods.length)),(16,.int .i64 (↑(i+1)))] ({boxes:=ζ2::ζ3::Q2::(ex++[ζ1]),toks:=[],loops:=[]:Heap}) (fun T hT=>(ih' (ex++[ζ1]) T hT))) (by kernel_rfl)
  ·have em:mvP nm nd x=x:=if_neg h
   have e2:mvC nm nd s.pods (i+1)=mvC nm nd s.pods i:=by
    rw[hst,em]
    obtain⟨h1,h2⟩:=List.getElem?_eq_some_iff.1 hat
    conv=>rhs;rw[←List.set_getElem_self h1]
    rw[h2]
   rw[e2]at ih'
   generalize pcs (mvC nm nd s.pods i)=Q at*
   exact let ζ1:List AV:=[.str x.name,.str x.owner,.int .i64 x.prio,.sl .sh (x.need.map encA),.sl .sh (x.labels.map encP),.sl .sh (x.sel.map encM),.sl .sh (x.tols.map encL),.str x.key,.int .i64 x.most,.str x.node,.bool x.hold];let ζ2:List AV:=[.sl .sh (s.nodes.map encN),.msl (2:Nat) (0:Nat) s.pods.length (11:Nat),.sl .sh (s.buds.map encB)];let ζ4:List AV:=[.str [],.str [],.int .i64 0,.sl .full [],.sl .full [],.sl .full [],.sl .full [],.str [],.int .i64 0,.str [],.bool false];let ζ5:Heap:={boxes:=stC s (.msl (2:Nat) (0:Nat) s.pods.length (11:Nat))::pzc::Q::ex,toks:=[],loops:=[]:Heap};let ζ6:List AV:=[.sl .full [],.sl .full [],.sl .full []];let ζ3:Heap:={boxes:=ζ2::ζ6::Q::(ex++[ζ1]),toks:=[],loops:=[]:Heap};goG 120 _ hT (.yes (decide_eq_true (p:=(↑i:Int)<(↑s.pods.length:Int)) (by omega))<|.idx (show idxA 11 (.msl (2:Nat) (0:Nat) s.pods.length (11:Nat)) (.int .i64 ↑i)=some (.ptr (2:Nat) ((0:Nat)+i*(11:Nat)))from i1)<|.effY (show Does cfg (.load true (11:Nat) (.c (.ptr (2:Nat) ((0:Nat)+i*(11:Nat))))) ζ5 (encPd x) ζ5 from ld)<|.store (show storeA 11 {boxes:=ζ2::ζ6::Q::(ex++[ζ4]),toks:=[],loops:=[]:Heap} (.ptr (ζ2::ζ6::Q::ex).length (0:Nat)) (.agg ζ1)=some (ζ3)from store_box2 (cs:=ζ4) (cs':=ζ1) (by simp+zetaDelta) rfl (by simp+zetaDelta [List.set_append]))<|.load (show loadA false 1 ζ3 (.ptr (ζ2::ζ6::Q::ex).length (0:Nat))=some (.str x.name)from load_box (cs:=ζ1) (by simp+zetaDelta) rfl)<|.no (show(x.name==nm)=false from Bool.eq_false_iff.2 (by simpa using h))<|.bin (show binA .add (.int .i64 ↑i) (.int .i64 1)=some (.int .i64 (↑(i+1)))from inc)<|.cutQ k48_0 [(1,.str nm),(2,.str nd),(3,.ptr 0 0),(6,.ptr 1 0),(14,.msl (2:Nat) (0:Nat) s.pods.length (11:Nat)),(15,.int .i64 (↑s.pods.length)),(16,.int .i64 (↑(i+1)))] (ζ3) (fun T hT=>(ih' (ex++[ζ1]) T hT))) (by kernel_rfl)
end Go.Aa.T
set_option linter.unusedVariables false
set_option linter.unusedSimpArgs false
set_option maxRecDepth 100000
namespace Go.Aa.T
open Go.Aa Go.Proofs
theorem move_gives(s:St)(nm nd:List UInt8)(hs:s.pods.length≤1000):GivesF cfg 48 [encSt s,.str nm,.str nd] (encSt (moveS s nm nd)):=by
 obtain⟨nodes,pods,buds⟩:=s
 have hT:Tame [(encSt ⟨nodes,pods,buds⟩).cells,pzc]:=tame_data rfl
 by_cases hp:pods=[]
 ·subst hp
  have h1:=clone_none [(encSt ⟨nodes,[],buds⟩).cells,pzc] hT
  have lp:∀(T:Env)(hT:Has T [(1,.str nm),(2,.str nd),(3,.ptr 0 0),(6,.ptr 1 0),(14,.sl .nil []),(15,.int .i64 ((([]:List AV).length:Nat):Int)),(16,.int .i64 0)]),Goes cfg a48 k48_0 T ⟨[stC ⟨nodes,[],buds⟩ (.sl .nil []),pzc],[],[]⟩ (fun r=>∃bs,r=(.ret (stA ⟨nodes,[],buds⟩ (.sl .nil [])),⟨bs,[],[]⟩)):=by
   intro T hT
   exact let ζ1:List AV:=[.sl .sh (List.map encN {nodes:=nodes,pods:=[],buds:=buds:St}.nodes),.sl .nil [],.sl .sh (List.map encB {nodes:=nodes,pods:=[],buds:=buds:St}.buds)];goG 60 _ hT (.ff<|.fin ((.ret (.agg ζ1),{boxes:=[ζ1,ζ1],toks:=[],loops:=[]:Heap})) (by exact⟨_,rfl⟩)) (by kernel_rfl)
  have key:Goes cfg a48 [.c c48] (initEnv [encSt ⟨nodes,[],buds⟩,.str nm,.str nd]) Heap.nil (fun r=>∃bs,r=(.ret (stA ⟨nodes,[],buds⟩ (.sl .nil [])),⟨bs,[],[]⟩)):=by
   exact let ζ1:Heap:={boxes:=[(encSt {nodes:=nodes,pods:=[],buds:=buds:St}).cells,pzc],toks:=[],loops:=[]:Heap};goG 60 [] trivial (.effY (show Does cfg (.callM (.c (.func (90:FuncId) [])) [.c (.sl .sh [])]) ζ1 (.sl .nil []) ζ1 from h1)<|.len (show lenA false (.sl .nil [])=some (.int .i64 (↑[].length:Int))from len_sl _ _)<|.cutQ k48_0 [(1,.str nm),(2,.str nd),(3,.ptr 0 0),(6,.ptr 1 0),(14,.sl .nil []),(15,.int .i64 (↑[].length:Int)),(16,.int .i64 0)] ({boxes:=[[.sl .sh (List.map encN {nodes:=nodes,pods:=[],buds:=buds:St}.nodes),.sl .nil [],.sl .sh (List.map encB {nodes:=nodes,pods:=[],buds:=buds:St}.buds)],[.sl .full [],.sl .full [],.sl .full []]],toks:=[],loops:=[]:Heap}) (fun T hT=>(lp T hT))) (by kernel_rfl)
  obtain⟨r,h,bs,rfl⟩:=key
  exact⟨_,_,(l48 _ _).trans h,out_stA rfl rfl rfl⟩
 ·have h1:Does cfg (.callM (.c (.func 90 [])) [.c (.sl .sh (pods.map encPd))]) ⟨[(encSt ⟨nodes,pods,buds⟩).cells,pzc],[],[]⟩ (.msl 2 0 pods.length 11) ⟨[(encSt ⟨nodes,pods,buds⟩).cells,pzc,pcs pods],[],[]⟩:=clone_any hp (by simp only at hs;omega) [(encSt ⟨nodes,pods,buds⟩).cells,pzc]
  have lp:=move_loop ⟨nodes,pods,buds⟩ nm nd hs pods 0 [] rfl
  have e0:mvC nm nd pods 0=pods:=by simp[mvC]
  have e1:mvC nm nd (St.mk nodes pods buds).pods 0=pods:=e0
  rw[e1]at lp
  have key:Goes cfg a48 [.c c48] (initEnv [encSt ⟨nodes,pods,buds⟩,.str nm,.str nd]) Heap.nil (RetMv ⟨nodes,pods,buds⟩ (pods.map (mvP nm nd))):=by
   generalize pcs pods=Q at h1 lp
   exact goG 60 [] trivial (.effY (show Does cfg (.callM (.c (.func (90:FuncId) [])) [.c (.sl .sh (pods.map encPd))]) {boxes:=[(encSt {nodes:=nodes,pods:=pods,buds:=buds:St}).cells,pzc],toks:=[],loops:=[]:Heap} (.msl (2:Nat) (0:Nat) pods.length (11:Nat)) {boxes:=[(encSt {nodes:=nodes,pods:=pods,buds:=buds:St}).cells,pzc,Q],toks:=[],loops:=[]:Heap}from h1)<|.len (rfl:lenA false (.msl (2:Nat) (0:Nat) pods.length (11:Nat))=some (.int .i64 (↑pods.length)))<|.cutQ k48_0 [(1,.str nm),(2,.str nd),(3,.ptr 0 0),(6,.ptr 1 0),(14,.msl (2:Nat) (0:Nat) pods.length (11:Nat)),(15,.int .i64 (↑pods.length)),(16,.int .i64 0)] ({boxes:=[[.sl .sh (List.map encN {nodes:=nodes,pods:=pods,buds:=buds:St}.nodes),.msl (2:Nat) (0:Nat) pods.length (11:Nat),.sl .sh (List.map encB {nodes:=nodes,pods:=pods,buds:=buds:St}.buds)],[.sl .full [],.sl .full [],.sl .full []],Q],toks:=[],loops:=[]:Heap}) (fun T hT=>(lp T hT))) (by kernel_rfl)
  obtain⟨r,h,bs,rfl,hk⟩:=key
  exact⟨_,_,(l48 _ _).trans h,out_stA rfl rfl (frz_pods (Z:=[]) (by rw[List.append_nil];exact hk) rfl)⟩
theorem moveR_loop(s:St)(nm nd:List UInt8)(hs:s.pods.length≤1000)(hw:∀l:List Pod,l.length=s.pods.length→Does cfg (.callM (.c (.func 120 [])) [.c (encSt s),.c (.msl 2 0 s.pods.length 11)]) ⟨[(encSt s).cells,pzc,pcs l],[],[]⟩ (stA s (.msl 2 0 s.pods.length 11)) ⟨[(encSt s).cells,pzc,pcs l],[],[]⟩):∀(post:List Pod)(i:Nat)(hd:s.pods.drop i=post)(T:Env)
 (hT:Has T [(1,.str nm),(2,.str nd),(3,.ptr 0 0),(6,.ptr 1 0),(7,.msl 2 0 s.pods.length 11),(8,.int .i64 i)]),
 Goes cfg a49 k49_0 T ⟨[(encSt s).cells,pzc,pcs (mvC nm nd s.pods i)],[],[]⟩ (RetMv s (s.pods.map (mvP nm nd))):=by
 intro post
 induction post with
 |nil=>
  intro i hd T hT
  have hge:=drop_ge hd
  rw[mvC_end hge]
  have w:=hw (s.pods.map (mvP nm nd)) (by simp)
  have out:∀b0 b1,RetMv s (s.pods.map (mvP nm nd)) (.ret (stA s (.msl 2 0 s.pods.length 11)),⟨[b0,b1,pcs (s.pods.map (mvP nm nd))],[],[]⟩):=fun b0 b1=>⟨_,by rw[List.length_map],rfl⟩
  generalize pcs (s.pods.map (mvP nm nd))=Q at out w⊢
  exact let ζ1:List AV:=[.sl .sh (s.nodes.map encN),.msl (2:Nat) (0:Nat) s.pods.length (11:Nat),.sl .sh (s.buds.map encB)];let ζ2:List AV:=[.sl .sh (s.nodes.map encN),.sl .sh (s.pods.map encPd),.sl .sh (s.buds.map encB)];let ζ3:Heap:={boxes:=[(encSt s).cells,pzc,Q],toks:=[],loops:=[]:Heap};goG 90 _ hT (.len (rfl:lenA false (.msl (2:Nat) (0:Nat) s.pods.length (11:Nat))=some (.int .i64 (↑s.pods.length)))<|.no (decide_eq_false (p:=(↑i:Int)<(↑s.pods.length:Int)) (by omega))<|.effCM [.agg ζ2,.msl (2:Nat) (0:Nat) s.pods.length (11:Nat)] (show Does cfg (.callM (.c (.func (120:FuncId) [])) [.c (encSt s),.c (.msl (2:Nat) (0:Nat) s.pods.length (11:Nat))]) ζ3 (stA s (.msl (2:Nat) (0:Nat) s.pods.length (11:Nat))) ζ3 from w) rfl<|.fin ((.ret (.agg ζ1),{boxes:=[ζ2,ζ1,Q],toks:=[],loops:=[]:Heap})) (by exact out _ _)) (by kernel_rfl)
 |cons x post ih=>
  intro i hd T hT
  have hlt:=drop_lt hd
  have hnx:=drop_next hd
  obtain⟨hat,hst⟩:=mvC_at (nm:=nm) (nd:=nd) hd
  have ld:=load0 (B:=[(encSt s).cells,pzc,pcs (mvC nm nd s.pods i)]) (kk:=2) rfl hat
  have i1:idxA 11 (.msl 2 0 s.pods.length 11) (.int .i64 (i:Nat))=some (.ptr 2 (0+i*11)):=idx_msl (by omega)
  have inc:=inc_i (i:=i) (by omega)
  have ih':=ih (i+1) hnx
  by_cases h:x.name=nm
  ·have em:mvP nm nd x={x with node:=nd}:=if_pos h
   rw[em]at hst
   have st:=store9 (B:=[(encSt s).cells,pzc,pcs (mvC nm nd s.pods i)]) (kk:=2) nd rfl hat
   rw[←hst]at st
   have st':Does cfg (.store 1 (.c (.ptr 2 (0+i*11+9))) (.c (.str nd))) ⟨[(encSt s).cells,pzc,pcs (mvC nm nd s.pods i)],[],[]⟩ .undef ⟨[(encSt s).cells,pzc,pcs (mvC nm nd s.pods (i+1))],[],[]⟩:=st
   generalize pcs (mvC nm nd s.pods i)=Q at*
   generalize pcs (mvC nm nd s.pods (i+1))=Q2 at*
   exact let ζ1:Heap:={boxes:=[(encSt s).cells,pzc,Q],toks:=[],loops:=[]:Heap};goG 120 _ hT (.len (rfl:lenA false (.msl (2:Nat) (0:Nat) s.pods.length (11:Nat))=some (.int .i64 (↑s.pods.length)))<|.yes (decide_eq_true (p:=(↑i:Int)<(↑s.pods.length:Int)) (by omega))<|.idx (show idxA 11 (.msl (2:Nat) (0:Nat) s.pods.length (11:Nat)) (.int .i64 ↑i)=some (.ptr (2:Nat) ((0:Nat)+i*(11:Nat)))from i1)<|.effY (show Does cfg (.load false (1:Nat) (.c (.ptr (2:Nat) ((0:Nat)+i*(11:Nat)+(0:Nat))))) ζ1 (.str x.name) ζ1 from ld)<|.yes (show(x.name==nm)=true from(by simpa using h))<|.idx (show idxA 11 (.msl (2:Nat) (0:Nat) s.pods.length (11:Nat)) (.int .i64 ↑i)=some (.ptr (2:Nat) ((0:Nat)+i*(11:Nat)))from i1)<|.effY (show Does cfg (.store (1:Nat) (.c (.ptr (2:Nat) ((0:Nat)+i*(11:Nat)+(9:Nat)))) (.c (.str nd))) ζ1 .undef {boxes:=[(encSt s).cells,pzc,Q2],toks:=[],loops:=[]:Heap}from st')<|.bin (show binA .add (.int .i64 ↑i) (.int .i64 1)=some (.int .i64 (↑(i+1)))from inc)<|.cutQ k49_0 [(1,.str nm),(2,.str nd),(3,.ptr 0 0),(6,.ptr 1 0),(7,.msl (2:Nat) (0:Nat) s.pods.length (11:Nat)),(8,.int .i64 (↑(i+1)))] ({boxes:=[[.sl .sh (s.nodes.map encN),.sl .sh (s.pods.map encPd),.sl .sh (s.buds.map encB)],[.sl .full [],.sl .full [],.sl .full []],Q2],toks:=[],loops:=[]:Heap}) (fun T hT=>(ih' T hT))) (by kernel_rfl)
  ·have em:mvP nm nd x=x:=if_neg h
   have e2:mvC nm nd s.pods (i+1)=mvC nm nd s.pods i:=by
    rw[hst,em]
    obtain⟨h1,h2⟩:=List.getElem?_eq_some_iff.1 hat
    conv=>rhs;rw[←List.set_getElem_self h1]
    rw[h2]
   rw[e2]at ih'
   generalize pcs (mvC nm nd s.pods i)=Q at*
   exact let ζ1:Heap:={boxes:=[(encSt s).cells,pzc,Q],toks:=[],loops:=[]:Heap};goG 120 _ hT (.len (rfl:lenA false (.msl (2:Nat) (0:Nat) s.pods.length (11:Nat))=some (.int .i64 (↑s.pods.length)))<|.yes (decide_eq_true (p:=(↑i:Int)<(↑s.pods.length:Int)) (by omega))<|.idx (show idxA 11 (.msl (2:Nat) (0:Nat) s.pods.length (11:Nat)) (.int .i64 ↑i)=some (.ptr (2:Nat) ((0:Nat)+i*(11:Nat)))from i1)<|.effY (show Does cfg (.load false (1:Nat) (.c (.ptr (2:Nat) ((0:Nat)+i*(11:Nat)+(0:Nat))))) ζ1 (.str x.name) ζ1 from ld)<|.no (show(x.name==nm)=false from Bool.eq_false_iff.2 (by simpa using h))<|.bin (show binA .add (.int .i64 ↑i) (.int .i64 1)=some (.int .i64 (↑(i+1)))from inc)<|.cutQ k49_0 [(1,.str nm),(2,.str nd),(3,.ptr 0 0),(6,.ptr 1 0),(7,.msl (2:Nat) (0:Nat) s.pods.length (11:Nat)),(8,.int .i64 (↑(i+1)))] ({boxes:=[[.sl .sh (s.nodes.map encN),.sl .sh (s.pods.map encPd),.sl .sh (s.buds.map encB)],[.sl .full [],.sl .full [],.sl .full []],Q],toks:=[],loops:=[]:Heap}) (fun T hT=>(ih' T hT))) (by kernel_rfl)
theorem withM(s:St)(l:List Pod)(n:Nat):Does cfg (.callM (.c (.func 120 [])) [.c (encSt s),.c (.msl 2 0 n 11)]) ⟨[(encSt s).cells,pzc,pcs l],[],[]⟩ (stA s (.msl 2 0 n 11)) ⟨[(encSt s).cells,pzc,pcs l],[],[]⟩:=by
 have hB:Tame [(encSt s).cells,pzc,pcs l]:=tame_app (B:=[(encSt s).cells,pzc]) (ex:=[pcs l]) (tame_data rfl) (by simp[pcs_data])
 generalize pcs l=Q at hB⊢
 have key:Goes cfg a120 [.c c120] (initEnv [encSt s,.msl 2 0 n 11]) ⟨[(encSt s).cells,pzc,Q],[],[]⟩ (fun r=>∃c3 c4,r=(.ret (stA s (.msl 2 0 n 11)),⟨[(encSt s).cells,pzc,Q,c3,c4],[],[]⟩)):=by
  exact let ζ1:List AV:=[.sl .sh (s.nodes.map encN),.msl (2:Nat) (0:Nat) n (11:Nat),.sl .sh (s.buds.map encB)];let ζ2:List AV:=[.sl .sh (s.nodes.map encN),.sl .sh (s.pods.map encPd),.sl .sh (s.buds.map encB)];goG 60 [] trivial (.fin ((.ret (.agg ζ1),{boxes:=[ζ2,[.sl .full [],.sl .full [],.sl .full []],Q,ζ2,ζ1],toks:=[],loops:=[]:Heap})) (by exact⟨_,_,rfl⟩)) (by kernel_rfl)
 obtain⟨r,h,c3,c4,rfl⟩:=key
 have h':lim cfg (.fn 120) [encSt s,.msl 2 0 n 11] ⟨[(encSt s).cells,pzc,Q],[],[]⟩=some (.ret (stA s (.msl 2 0 n 11)),⟨[(encSt s).cells,pzc,Q,c3,c4],[],[]⟩):=by rw[l120];exact h
 have hd:=does_callM (xs:=[encSt s,.msl 2 0 n 11]) h' rfl rfl
 have e:=trunc_tame (B:=[(encSt s).cells,pzc,Q]) (ex:=[c3,c4]) (v:=stA s (.msl 2 0 n 11)) hB (by simp[stA,within,in2,in1,in0])
 rw[show(⟨[(encSt s).cells,pzc,Q],[],[]⟩:Heap).boxes.length=[(encSt s).cells,pzc,Q].length from rfl,show(⟨[(encSt s).cells,pzc,Q],[],[]⟩:Heap).toks.length=0 from rfl,show shutA (stA s (.msl 2 0 n 11))=stA s (.msl 2 0 n 11)from rfl,show([(encSt s).cells,pzc,Q,c3,c4]:List (List AV))=[(encSt s).cells,pzc,Q]++[c3,c4]from rfl,e]at hd
 exact hd
theorem withN(s:St):Does cfg (.callM (.c (.func 120 [])) [.c (encSt s),.c (.sl .nil [])]) ⟨[(encSt s).cells,pzc],[],[]⟩ (stA s (.sl .nil [])) ⟨[(encSt s).cells,pzc],[],[]⟩:=by
 have hB:Tame [(encSt s).cells,pzc]:=tame_data rfl
 have key:Goes cfg a120 [.c c120] (initEnv [encSt s,.sl .nil []]) ⟨[(encSt s).cells,pzc],[],[]⟩ (fun r=>∃c3 c4,r=(.ret (stA s (.sl .nil [])),⟨[(encSt s).cells,pzc,c3,c4],[],[]⟩)):=by
  exact let ζ1:List AV:=[.sl .sh (s.nodes.map encN),.sl .sh (s.pods.map encPd),.sl .sh (s.buds.map encB)];let ζ2:List AV:=[.sl .sh (s.nodes.map encN),.sl .nil [],.sl .sh (s.buds.map encB)];goG 60 [] trivial (.fin ((.ret (.agg ζ2),{boxes:=[ζ1,[.sl .full [],.sl .full [],.sl .full []],ζ1,ζ2],toks:=[],loops:=[]:Heap})) (by exact⟨_,_,rfl⟩)) (by kernel_rfl)
 obtain⟨r,h,c3,c4,rfl⟩:=key
 have h':lim cfg (.fn 120) [encSt s,.sl .nil []] ⟨[(encSt s).cells,pzc],[],[]⟩=some (.ret (stA s (.sl .nil [])),⟨[(encSt s).cells,pzc,c3,c4],[],[]⟩):=by rw[l120];exact h
 have hd:=does_callM (xs:=[encSt s,.sl .nil []]) h' rfl rfl
 have e:=trunc_tame (B:=[(encSt s).cells,pzc]) (ex:=[c3,c4]) (v:=stA s (.sl .nil [])) hB rfl
 rw[show(⟨[(encSt s).cells,pzc],[],[]⟩:Heap).boxes.length=[(encSt s).cells,pzc].length from rfl,show(⟨[(encSt s).cells,pzc],[],[]⟩:Heap).toks.length=0 from rfl,show shutA (stA s (.sl .nil []))=stA s (.sl .nil [])from rfl,show([(encSt s).cells,pzc,c3,c4]:List (List AV))=[(encSt s).cells,pzc]++[c3,c4]from rfl,e]at hd
 exact hd
theorem move_ref(s:St)(nm nd:List UInt8)(hs:s.pods.length≤1000):GivesF cfg 49 [encSt s,.str nm,.str nd] (encSt (moveS s nm nd)):=by
 obtain⟨nodes,pods,buds⟩:=s
 by_cases hp:pods=[]
 ·subst hp
  have h1:Does cfg (.appendM 11 184 (.c (.sl .full [])) (.c (.sl .sh []))) ⟨[(encSt ⟨nodes,[],buds⟩).cells,pzc],[],[]⟩ (.sl .nil []) ⟨[(encSt ⟨nodes,[],buds⟩).cells,pzc],[],[]⟩:=fun T=>rfl
  have w:=withN ⟨nodes,[],buds⟩
  have lp:∀(T:Env)(hT:Has T [(1,.str nm),(2,.str nd),(3,.ptr 0 0),(6,.ptr 1 0),(7,.sl .nil []),(8,.int .i64 0)]),Goes cfg a49 k49_0 T ⟨[(encSt ⟨nodes,[],buds⟩).cells,pzc],[],[]⟩ (fun r=>∃bs,r=(.ret (stA ⟨nodes,[],buds⟩ (.sl .nil [])),⟨bs,[],[]⟩)):=by
   intro T hT
   exact let ζ1:List AV:=[.sl .sh (List.map encN {nodes:=nodes,pods:=[],buds:=buds:St}.nodes),.sl .nil [],.sl .sh (List.map encB {nodes:=nodes,pods:=[],buds:=buds:St}.buds)];let ζ2:Heap:={boxes:=[(encSt {nodes:=nodes,pods:=[],buds:=buds:St}).cells,pzc],toks:=[],loops:=[]:Heap};goG 60 _ hT (.len (show lenA false (.sl .nil [])=some (.int .i64 (↑[].length:Int))from len_sl _ _)<|.ff<|.effY (show Does cfg (.callM (.c (.func (120:FuncId) [])) [.c (encSt {nodes:=nodes,pods:=[],buds:=buds:St}),.c (.sl .nil [])]) ζ2 (stA {nodes:=nodes,pods:=[],buds:=buds:St} (.sl .nil [])) ζ2 from w)<|.fin ((.ret (.agg ζ1),{boxes:=[[.sl .sh (List.map encN {nodes:=nodes,pods:=[],buds:=buds:St}.nodes),.sl .sh [],.sl .sh (List.map encB {nodes:=nodes,pods:=[],buds:=buds:St}.buds)],ζ1],toks:=[],loops:=[]:Heap})) (by exact⟨_,rfl⟩)) (by kernel_rfl)
  have key:Goes cfg a49 [.c c49] (initEnv [encSt ⟨nodes,[],buds⟩,.str nm,.str nd]) Heap.nil (fun r=>∃bs,r=(.ret (stA ⟨nodes,[],buds⟩ (.sl .nil [])),⟨bs,[],[]⟩)):=by
   exact let ζ1:Heap:={boxes:=[(encSt {nodes:=nodes,pods:=[],buds:=buds:St}).cells,pzc],toks:=[],loops:=[]:Heap};goG 60 [] trivial (.effY (show Does cfg (.appendM (11:Nat) (184:Nat) (.c (.sl .full [])) (.c (.sl .sh []))) ζ1 (.sl .nil []) ζ1 from h1)<|.cutQ k49_0 [(1,.str nm),(2,.str nd),(3,.ptr 0 0),(6,.ptr 1 0),(7,.sl .nil []),(8,.int .i64 0)] ({boxes:=[[.sl .sh (List.map encN {nodes:=nodes,pods:=[],buds:=buds:St}.nodes),.sl .sh [],.sl .sh (List.map encB {nodes:=nodes,pods:=[],buds:=buds:St}.buds)],[.sl .full [],.sl .full [],.sl .full []]],toks:=[],loops:=[]:Heap}) (fun T hT=>(lp T hT))) (by kernel_rfl)
  obtain⟨r,h,bs,rfl⟩:=key
  exact⟨_,_,(l49 _ _).trans h,out_stA rfl rfl rfl⟩
 ·have h1:Does cfg (.appendM 11 184 (.c (.sl .full [])) (.c (.sl .sh (pods.map encPd)))) ⟨[(encSt ⟨nodes,pods,buds⟩).cells,pzc],[],[]⟩ (.msl 2 0 pods.length 11) ⟨[(encSt ⟨nodes,pods,buds⟩).cells,pzc,pcs pods],[],[]⟩:=fun T=>by
   have h:=clone_lim hp (by simp only at hs;omega) [(encSt ⟨nodes,pods,buds⟩).cells,pzc]
   rw[lim_ext (g:=cloneE 11 184) rfl rfl]at h
   simp only[cloneE]at h
   simp only[opStep,ev]
   cases ha:appendMA 11 184 ⟨[(encSt ⟨nodes,pods,buds⟩).cells,pzc],[],[]⟩ (.sl .full []) (.sl .sh (pods.map encPd))with
   |none=>rw[ha]at h;cases h
   |some q=>
    obtain⟨v,H⟩:=q
    rw[ha]at h
    simp only[Option.map_some,Option.some.injEq,Prod.mk.injEq,ARes.ret.injEq]at h
    obtain⟨rfl,rfl⟩:=h
    rfl
  have lp:=moveR_loop ⟨nodes,pods,buds⟩ nm nd hs (fun l hl=>withM _ l _) pods 0 rfl
  have e1:mvC nm nd (St.mk nodes pods buds).pods 0=pods:=by simp[mvC]
  rw[e1]at lp
  have key:Goes cfg a49 [.c c49] (initEnv [encSt ⟨nodes,pods,buds⟩,.str nm,.str nd]) Heap.nil (RetMv ⟨nodes,pods,buds⟩ (pods.map (mvP nm nd))):=by
   generalize pcs pods=Q at h1 lp
   exact goG 60 [] trivial (.effY (show Does cfg (.appendM (11:Nat) (184:Nat) (.c (.sl .full [])) (.c (.sl .sh (pods.map encPd)))) {boxes:=[(encSt {nodes:=nodes,pods:=pods,buds:=buds:St}).cells,pzc],toks:=[],loops:=[]:Heap} (.msl (2:Nat) (0:Nat) pods.length (11:Nat)) {boxes:=[(encSt {nodes:=nodes,pods:=pods,buds:=buds:St}).cells,pzc,Q],toks:=[],loops:=[]:Heap}from h1)<|.cutQ k49_0 [(1,.str nm),(2,.str nd),(3,.ptr 0 0),(6,.ptr 1 0),(7,.msl (2:Nat) (0:Nat) pods.length (11:Nat)),(8,.int .i64 0)] ({boxes:=[[.sl .sh (List.map encN {nodes:=nodes,pods:=pods,buds:=buds:St}.nodes),.sl .sh (List.map encPd {nodes:=nodes,pods:=pods,buds:=buds:St}.pods),.sl .sh (List.map encB {nodes:=nodes,pods:=pods,buds:=buds:St}.buds)],[.sl .full [],.sl .full [],.sl .full []],Q],toks:=[],loops:=[]:Heap}) (fun T hT=>(lp T hT))) (by kernel_rfl)
  obtain⟨r,h,bs,rfl,hk⟩:=key
  exact⟨_,_,(l49 _ _).trans h,out_stA rfl rfl (frz_pods (Z:=[]) (by rw[List.append_nil];exact hk) rfl)⟩
end Go.Aa.T
