/-
  WHAT THE LAW LEANS ON, part 11 of 12: a machine of values and its soundness; the functions of the law upon it; what they come to.
-/
import Derived.Test.YtjoblbpgpmknmaaGreatDoorXany2j
set_option linter.unusedVariables false
set_option linter.unusedSimpArgs false
set_option maxRecDepth 100000
namespace Go.Aa.T
open Go.Aa Go.Proofs
structure VOk(v:List Amount):Prop where
 len:v.length≤8
 name:∀x∈v,isName x.name=true
 pos:∀x∈v,0<x.n
 rise:Rise (nms v)
theorem ckVl_ok{s:List Amount}:∀{post:List Amount}{i:Nat},ckVl s i post=0→s.drop i=post→(∀x∈post,isName x.name=true∧0<x.n)∧Rise (nms post)∧∀j p,i=j+1→s[j]?=some p→Rise (p.name::nms post)
 |[],i,h,hd=>⟨by simp,by simp[Rise],fun j p _ _=>by simp[Rise]⟩
 |x::post,i,h,hd=>by
  unfold ckVl at h
  split at h
  ·rename_i hn
   split at h
   ·cases h
   ·rename_i hp
    split at h
    ·cases h
    ·rename_i ho
     obtain⟨h1,h2,h3⟩:=ckVl_ok h (drop_next hd)
     have h4:=h3 i x rfl (drop_at hd)
     refine⟨fun y hy=> ?_,h4,fun j p hj hp'=> ?_⟩
     ·rcases List.mem_cons.1 hy with rfl|hy
      ·exact⟨hn,by omega⟩
      ·exact h1 y hy
     ·subst hj
      simp only[ordV,hp',Bool.not_eq_true]at ho
      have h5:=bl_not ho
      refine List.Pairwise.cons (fun z hz=> ?_) h4
      rcases List.mem_cons.1 hz with rfl|hz
      ·exact h5
      ·exact bl_trans h5 (List.rel_of_pairwise_cons h4 hz)
  ·cases h
theorem vOk{v:List Amount}(h:ckV v=0):VOk v:=by
 unfold ckV at h
 split at h
 ·rename_i hl
  obtain⟨h1,h2,-⟩:=ckVl_ok h rfl
  exact⟨hl,fun x hx=>(h1 x hx).1,fun x hx=>(h1 x hx).2,h2⟩
 ·cases h
theorem getQ_none{v:List Amount}{s:List UInt8}(h:s∉nms v):getQ v s=0:=by
 unfold getQ
 have:v.find? (fun x=>x.name==s)=none:=by
  rw[List.find?_eq_none]
  intro x hx e
  exact h (List.mem_map.2 ⟨x,hx,by simpa using e⟩)
 rw[this]
theorem getQ_some{v:List Amount}{s:List UInt8}(h:s∈nms v):∃x∈v,x.name=s∧getQ v s=x.n:=by
 unfold getQ
 cases hf:v.find? (fun x=>x.name==s)with
 |none=>
  obtain⟨x,hx,rfl⟩:=List.mem_map.1 h
  have:=List.find?_eq_none.1 hf x hx
  simp at this
 |some x=>exact⟨x,List.mem_of_find?_eq_some hf,by simpa using List.find?_some hf,rfl⟩
theorem getQ_pos{v:List Amount}(h:VOk v){s:List UInt8}(hs:s∈nms v):0<getQ v s:=by
 obtain⟨x,hx,-,e⟩:=getQ_some hs
 rw[e];exact h.pos x hx
theorem getQ_nn{v:List Amount}(h:VOk v)(s:List UInt8):0≤getQ v s:=by
 by_cases hs:s∈nms v
 ·have:=getQ_pos h hs;omega
 ·rw[getQ_none hs];exact Int.le_refl _
def madeA(g:OfQ):List (List UInt8)→List Amount→List Amount×Int
 |[],acc=>(acc,0)
 |s::r,acc=>if(g s).2=0 then madeA g r (acc++[⟨s,(g s).1⟩])else([],(g s).2)
theorem madeA_eq(g:OfQ):∀(l:List (List UInt8))(acc:List Amount),(∀s∈l,(g s).2=0→0<(g s).1)→madeA g l acc=madeF g l acc
 |[],acc,_=>rfl
 |s::r,acc,h=>by
  unfold madeA madeF
  split
  ·rename_i h0
   rw[if_pos (h s (by simp) h0)]
   exact madeA_eq g r _ fun t ht=>h t (by simp[ht])
  ·rfl
theorem both_ref(a b:List Amount):Gives cfg 178 [.sl .sh (a.map encA),.sl .sh (b.map encA)] (.int .i64 (firstE [ckV a,ckV b])):=by
 refine Gives.run (l178 _ _) ?_
 have h1:=ckV_ref a
 have h2:=ckV_ref b
 generalize ckV a=p at h1⊢
 generalize ckV b=q at h2⊢
 by_cases h0:p=0
 ·have e:firstE [p,q]=q:=by simp only[firstE,h0,if_true];split<;>simp_all
  rw[e]
  exact goG 60 [] trivial (.callI h1<|.no (show(p !=(0:Int))=false from Bool.eq_false_iff.2 (by simpa using h0))<|.callI h2<|.fin ((.ret (.int .i64 q),{boxes:=[],toks:=[],loops:=[]:Heap})) rfl) (by kernel_rfl)
 ·have e:firstE [p,q]=p:=by simp[firstE,h0]
  rw[e]
  exact goG 60 [] trivial (.callI h1<|.yes (show(p !=(0:Int))=true from(by simpa using h0))<|.fin ((.ret (.int .i64 p),{boxes:=[],toks:=[],loops:=[]:Heap})) rfl) (by kernel_rfl)
theorem whole_ok(l:List Amount)(hl:l.length≤8):Gives cfg 181 [.sl .sh (l.map encA)] (.tuple [.sl .sh (l.map encA),.int .i64 0]):=by
 refine Gives.run (l181 _ _) ?_
 exact goG 60 [] trivial (.len (show lenA false (.sl .sh (l.map encA))=some (.int .i64 (↑l.length))from len_map _)<|.no (decide_eq_false (p:=(8:Int)<(↑l.length:Int)) (by omega))<|.fin ((.ret (.tuple [.sl .sh (l.map encA),.int .i64 0]),{boxes:=[],toks:=[],loops:=[]:Heap})) rfl) (by kernel_rfl)
theorem whole_long(l:List Amount)(hl:8<l.length):Gives cfg 181 [.sl .sh (l.map encA)] (.tuple [.sl .full [],.int .i64 4]):=by
 refine Gives.run (l181 _ _) ?_
 exact goG 60 [] trivial (.len (show lenA false (.sl .sh (l.map encA))=some (.int .i64 (↑l.length))from len_map _)<|.yes (decide_eq_true (p:=(8:Int)<(↑l.length:Int)) (by omega))<|.fin ((.ret (.tuple [.sl .full [],.int .i64 4]),{boxes:=[],toks:=[],loops:=[]:Heap})) rfl) (by kernel_rfl)
def kq:Bool→SK
 |true=>.sh
 |false=>.full
instance(c:Bool)(l:List AV):Shut (.sl (kq c) l) (.sl .sh l):=⟨by cases c<;>exact⟨rfl,rfl⟩⟩
def resV(c:Bool)(p:List Amount×Int):AV:=.tuple [.sl (kq c) (p.1.map encA),.int .i64 p.2]
instance(c:Bool)(p:List Amount×Int):Res (resV c p) (.tuple [.sl .sh (p.1.map encA),.int .i64 p.2]):=⟨by
 cases c<;>exact⟨rfl,rfl⟩⟩
def resW(c:Bool)(l:List Amount)(e:Int):AV:=.tuple [.sl (kq c) (l.map encA),.int .i64 e]
instance(c:Bool)(l:List Amount)(e:Int):Res (resW c l e) (.tuple [.sl .sh (l.map encA),.int .i64 e]):=⟨by
 cases c<;>exact⟨rfl,rfl⟩⟩
def RetV(p:List Amount×Int)(r:ARes×Heap):Prop:=∃c,IsRet (resV c p) r
theorem RetV.gives{g:FuncId}{xs:List AV}{p:List Amount×Int}{A:AFunc}{k:List AIt}{T:Env}(e:lim cfg (.fn g) xs Heap.nil=runL cfg A k T Heap.nil)(h:Goes cfg A k T Heap.nil (RetV p)):∃c,Gives cfg g xs (resV c p):=by
 obtain⟨r,h1,c,h2⟩:=h
 exact⟨c,Gives.run e ⟨r,h1,h2⟩⟩
theorem fin_no(e:Int)(h:e≠0):finV ([],e)=([],e):=by simp[finV,h]
theorem addR_loop(a b:List Amount)(la:a.length<9223372036854775807)(lb:b.length<9223372036854775807)(ra:∀s,inI (getQ a s))(rb:∀s,inI (getQ b s))(ns:List (List UInt8))(hns:ns.length≤100000):∀(post:List (List UInt8))(i:Nat)(hd:ns.drop i=post)(acc:List Amount)(ha:acc.length≤i)(T:Env)
 (hT:Has T [(0,.sl .sh (a.map encA)),(1,.sl .sh (b.map encA)),(7,.sl .sh (ns.map .str)),(8,rowS Heap.nil (acc.map encA)),(9,.int .i64 i)]),
 Goes cfg a108 k108_0 T (rowH Heap.nil (acc.map encA)) (RetV (finV (madeA (fun s=>addQ (getQ a s) (getQ b s)) post acc))):=by
 intro post
 induction post with
 |nil=>
  intro i hd acc ha T hT
  have hge:=drop_ge hd
  have e:madeA (fun s=>addQ (getQ a s) (getQ b s)) [] acc=(acc,0):=rfl
  rw[e]
  by_cases h8:8<acc.length
  ·have e:finV (acc,0)=([],4):=by simp[finV,h8]
   rw[e]
   have hw:=whole_long acc h8
   exact goG 90 _ hT (.len (show lenA false (.sl .sh (List.map .str ns))=some (.int .i64 (↑ns.length))from len_map _)<|.no (decide_eq_false (p:=(↑i:Int)<(↑ns.length:Int)) (by omega))<|.callG ([rowS Heap.nil (acc.map encA)]) (.tuple [.sl .sh [],.int .i64 4]) (show Gives cfg (181:FuncId) [.sl .sh (acc.map encA)] (.tuple [.sl .full [],.int .i64 4])from hw) Shuts.p ⟨rfl,rfl⟩<|.fin ((.ret (.tuple [.sl .sh [],.int .i64 4]),rowH Heap.nil (acc.map encA))) (by exact⟨true,rfl⟩)) (by kernel_rfl)
  ·have e:finV (acc,0)=(acc,0):=by simp[finV,h8]
   rw[e]
   have hw:=whole_ok acc (by omega)
   exact let ζ1:List AV:=[.sl .sh (acc.map encA),.int .i64 0];goG 90 _ hT (.len (show lenA false (.sl .sh (List.map .str ns))=some (.int .i64 (↑ns.length))from len_map _)<|.no (decide_eq_false (p:=(↑i:Int)<(↑ns.length:Int)) (by omega))<|.callG ([rowS Heap.nil (acc.map encA)]) (.tuple ζ1) (show Gives cfg (181:FuncId) [.sl .sh (acc.map encA)] (.tuple ζ1)from hw) Shuts.p ⟨rfl,rfl⟩<|.fin ((.ret (.tuple ζ1),rowH Heap.nil (acc.map encA))) (by exact⟨true,rfl⟩)) (by kernel_rfl)
 |cons s post ih=>
  intro i hd acc ha T hT
  have hlt:=drop_lt hd
  have hnx:=drop_next hd
  have hx:idxA 1 (.sl .sh (ns.map .str)) (.int .i64 (i:Nat))=some (.ref [.str s]):=idx_row (f:=AV.str) hd rfl
  have g1:=getQ_ref a s la
  have g2:=getQ_ref b s lb
  have g3:=qadd_ref _ _ (ra s) (rb s)
  have e:madeA (fun s=>addQ (getQ a s) (getQ b s)) (s::post) acc=if(addQ (getQ a s) (getQ b s)).2=0 then madeA (fun s=>addQ (getQ a s) (getQ b s)) post (acc++[⟨s,(addQ (getQ a s) (getQ b s)).1⟩])else([],(addQ (getQ a s) (getQ b s)).2):=rfl
  rw[e]
  have ih1:=fun acc'=>ih (i+1) hnx acc'
  generalize getQ a s=p at g1 g3⊢
  generalize getQ b s=q at g2 g3⊢
  generalize addQ p q=z at g3⊢
  obtain⟨n,er⟩:=z
  simp only at g3⊢
  by_cases h0:er=0
  ·subst h0
   rw[if_pos rfl]
   have ap:∀H,appendA 2 24 (rowH H (acc.map encA)) (rowS H (acc.map encA)) (.sl .full [.agg [.str s,.int .i64 n]])=some (rowS H ((acc++[(⟨s,n⟩:Amount)]).map encA),rowH H ((acc++[(⟨s,n⟩:Amount)]).map encA)):=fun H=>row_append_map (f:=encA) (x:=(⟨s,n⟩:Amount)) (ys:=acc) (by simp;omega) lenA2 rfl rfl
   have ih':=ih1 (acc++[(⟨s,n⟩:Amount)]) (by simp;omega)
   exact let ζ1:Heap:=(roomH (rowH Heap.nil (acc.map encA)) (resvCells [mV 28 0,mV 29 7,mV 30 9,⟨some 31,.idx (1:Nat) (.t 29) (.t 30),none,[2,1]⟩,⟨some 32,.load false (1:Nat) (.t 31),none,[1,2,3]⟩,⟨some 33,.call (.c (.func (56:FuncId) [])) [.t 28,.t 32],none,[3,2,1,4,0]⟩,mV 34 1,mV 35 7,mV 36 9,⟨some 37,.idx (1:Nat) (.t 35) (.t 36),none,[8,7]⟩,⟨some 38,.load false (1:Nat) (.t 37),none,[7,8,9]⟩,⟨some 39,.call (.c (.func (56:FuncId) [])) [.t 34,.t 38],none,[0,4,1,2,3,5,9,8,7,10,6]⟩,⟨some 40,.call (.c (.func (180:FuncId) [])) [.t 33,.t 39],none,[6,10,7,8,9,11,0,4,1,2,3,5]⟩,⟨some 27,.mov (.t 40),none,[5,3,2,1,4,0,11,9,8,7,10,6,12]⟩,⟨some 41,.extract (.t 27) (0:Nat),none,[12,6,10,7,8,9,11,0,4,1,2,3,5,13]⟩,⟨some 42,.extract (.t 27) (1:Nat),none,[12,6,10,7,8,9,11,0,4,1,2,3,5,13]⟩,⟨some 10,.mov (.t 41),none,[13,5,3,2,1,4,0,11,9,8,7,10,6,12,14]⟩,⟨some 11,.mov (.t 42),none,[14,16,13,5,3,2,1,4,0,11,9,8,7,10,6,12,15]⟩]));let ζ2:List AV:=[.sl .sh (a.map encA),.str s];let ζ3:List AV:=[.sl .sh (b.map encA),.str s];goG 120 _ hT (.len (show lenA false (.sl .sh (List.map .str ns))=some (.int .i64 (↑ns.length))from len_map _)<|.yes (decide_eq_true (p:=(↑i:Int)<(↑ns.length:Int)) (by omega))<|.idx (show idxA 1 (.sl .sh (List.map .str ns)) (.int .i64 ↑i)=some (.ref [.str s])from hx)<|.load (rfl:loadA false 1 ζ1 (.ref [.str s])=some (.str s))<|.callK (ζ2) (.int .i64 p) (show Gives cfg (56:FuncId) ζ2 (.int .i64 p)from g1)<|.idx (show idxA 1 (.sl .sh (List.map .str ns)) (.int .i64 ↑i)=some (.ref [.str s])from hx)<|.load (rfl:loadA false 1 ζ1 (.ref [.str s])=some (.str s))<|.callK (ζ3) (.int .i64 q) (show Gives cfg (56:FuncId) ζ3 (.int .i64 q)from g2)<|.callI g3<|.ff<|.idx (show idxA 1 (.sl .sh (List.map .str ns)) (.int .i64 ↑i)=some (.ref [.str s])from hx)<|.load (rfl:loadA false 1 ζ1 (.ref [.str s])=some (.str s))<|.append (show appendA (2:Nat) (24:Nat) ζ1 (rowS Heap.nil (acc.map encA)) (.sl .full [.agg [.str s,.int .i64 n]])=some ((rowS Heap.nil (List.map encA (acc++[{name:=s,n:=n:Amount}])),rowH Heap.nil (List.map encA (acc++[{name:=s,n:=n:Amount}]))))from ap _)<|.bin (show binA .add (.int .i64 ↑i) (.int .i64 1)=some (.int .i64 (↑(i+1)))from inc_i (by omega))<|.cutQ k108_0 [(0,.sl .sh (a.map encA)),(1,.sl .sh (b.map encA)),(7,.sl .sh (List.map .str ns)),(8,rowS Heap.nil (List.map encA (acc++[{name:=s,n:=n:Amount}]))),(9,.int .i64 (↑(i+1)))] (rowH Heap.nil (List.map encA (acc++[{name:=s,n:=n:Amount}]))) (fun T hT=>(ih' T hT))) (by kernel_rfl)
  ·rw[if_neg h0,fin_no _ h0]
   exact let ζ1:Heap:=(roomH (rowH Heap.nil (acc.map encA)) (resvCells [mV 28 0,mV 29 7,mV 30 9,⟨some 31,.idx (1:Nat) (.t 29) (.t 30),none,[2,1]⟩,⟨some 32,.load false (1:Nat) (.t 31),none,[1,2,3]⟩,⟨some 33,.call (.c (.func (56:FuncId) [])) [.t 28,.t 32],none,[3,2,1,4,0]⟩,mV 34 1,mV 35 7,mV 36 9,⟨some 37,.idx (1:Nat) (.t 35) (.t 36),none,[8,7]⟩,⟨some 38,.load false (1:Nat) (.t 37),none,[7,8,9]⟩,⟨some 39,.call (.c (.func (56:FuncId) [])) [.t 34,.t 38],none,[0,4,1,2,3,5,9,8,7,10,6]⟩,⟨some 40,.call (.c (.func (180:FuncId) [])) [.t 33,.t 39],none,[6,10,7,8,9,11,0,4,1,2,3,5]⟩,⟨some 27,.mov (.t 40),none,[5,3,2,1,4,0,11,9,8,7,10,6,12]⟩,⟨some 41,.extract (.t 27) (0:Nat),none,[12,6,10,7,8,9,11,0,4,1,2,3,5,13]⟩,⟨some 42,.extract (.t 27) (1:Nat),none,[12,6,10,7,8,9,11,0,4,1,2,3,5,13]⟩,⟨some 10,.mov (.t 41),none,[13,5,3,2,1,4,0,11,9,8,7,10,6,12,14]⟩,⟨some 11,.mov (.t 42),none,[14,16,13,5,3,2,1,4,0,11,9,8,7,10,6,12,15]⟩]));let ζ2:List AV:=[.sl .sh (a.map encA),.str s];let ζ3:List AV:=[.sl .sh (b.map encA),.str s];goG 120 _ hT (.len (show lenA false (.sl .sh (List.map .str ns))=some (.int .i64 (↑ns.length))from len_map _)<|.yes (decide_eq_true (p:=(↑i:Int)<(↑ns.length:Int)) (by omega))<|.idx (show idxA 1 (.sl .sh (List.map .str ns)) (.int .i64 ↑i)=some (.ref [.str s])from hx)<|.load (rfl:loadA false 1 ζ1 (.ref [.str s])=some (.str s))<|.callK (ζ2) (.int .i64 p) (show Gives cfg (56:FuncId) ζ2 (.int .i64 p)from g1)<|.idx (show idxA 1 (.sl .sh (List.map .str ns)) (.int .i64 ↑i)=some (.ref [.str s])from hx)<|.load (rfl:loadA false 1 ζ1 (.ref [.str s])=some (.str s))<|.callK (ζ3) (.int .i64 q) (show Gives cfg (56:FuncId) ζ3 (.int .i64 q)from g2)<|.callI g3<|.yes (show(er !=(0:Int))=true from(by simpa using h0))<|.fin ((.ret (.tuple [.sl .full [],.int .i64 er]),roomH (rowH Heap.nil (acc.map encA)) (resvCells [mV 28 0,mV 29 7,mV 30 9,⟨some 31,.idx (1:Nat) (.t 29) (.t 30),none,[2,1]⟩,⟨some 32,.load false (1:Nat) (.t 31),none,[1,2,3]⟩,⟨some 33,.call (.c (.func (56:FuncId) [])) [.t 28,.t 32],none,[3,2,1,4,0]⟩,mV 34 1,mV 35 7,mV 36 9,⟨some 37,.idx (1:Nat) (.t 35) (.t 36),none,[8,7]⟩,⟨some 38,.load false (1:Nat) (.t 37),none,[7,8,9]⟩,⟨some 39,.call (.c (.func (56:FuncId) [])) [.t 34,.t 38],none,[0,4,1,2,3,5,9,8,7,10,6]⟩,⟨some 40,.call (.c (.func (180:FuncId) [])) [.t 33,.t 39],none,[6,10,7,8,9,11,0,4,1,2,3,5]⟩,⟨some 27,.mov (.t 40),none,[5,3,2,1,4,0,11,9,8,7,10,6,12]⟩,⟨some 41,.extract (.t 27) (0:Nat),none,[12,6,10,7,8,9,11,0,4,1,2,3,5,13]⟩,⟨some 42,.extract (.t 27) (1:Nat),none,[12,6,10,7,8,9,11,0,4,1,2,3,5,13]⟩,⟨some 10,.mov (.t 41),none,[13,5,3,2,1,4,0,11,9,8,7,10,6,12,14]⟩,⟨some 11,.mov (.t 42),none,[14,16,13,5,3,2,1,4,0,11,9,8,7,10,6,12,15]⟩]))) (by exact⟨false,rfl⟩)) (by kernel_rfl)
theorem subR_loop(a b:List Amount)(la:a.length<9223372036854775807)(lb:b.length<9223372036854775807)(ra:∀s,inI (getQ a s))(rb:∀s,inI (getQ b s))(ns:List (List UInt8))(hns:ns.length≤100000):∀(post:List (List UInt8))(i:Nat)(hd:ns.drop i=post)(acc:List Amount)(ha:acc.length≤i)(T:Env)
 (hT:Has T [(0,.sl .sh (a.map encA)),(1,.sl .sh (b.map encA)),(7,.sl .sh (ns.map .str)),(8,rowS Heap.nil (acc.map encA)),(9,.int .i64 i)]),
 Goes cfg a110 k110_0 T (rowH Heap.nil (acc.map encA)) (RetV (finV (madeF (fun s=>subQ (getQ a s) (getQ b s)) post acc))):=by
 intro post
 induction post with
 |nil=>
  intro i hd acc ha T hT
  have hge:=drop_ge hd
  have e:madeF (fun s=>subQ (getQ a s) (getQ b s)) [] acc=(acc,0):=rfl
  rw[e]
  by_cases h8:8<acc.length
  ·have e:finV (acc,0)=([],4):=by simp[finV,h8]
   rw[e]
   have hw:=whole_long acc h8
   exact goG 90 _ hT (.len (show lenA false (.sl .sh (List.map .str ns))=some (.int .i64 (↑ns.length))from len_map _)<|.no (decide_eq_false (p:=(↑i:Int)<(↑ns.length:Int)) (by omega))<|.callG ([rowS Heap.nil (acc.map encA)]) (.tuple [.sl .sh [],.int .i64 4]) (show Gives cfg (181:FuncId) [.sl .sh (acc.map encA)] (.tuple [.sl .full [],.int .i64 4])from hw) Shuts.p ⟨rfl,rfl⟩<|.fin ((.ret (.tuple [.sl .sh [],.int .i64 4]),rowH Heap.nil (acc.map encA))) (by exact⟨true,rfl⟩)) (by kernel_rfl)
  ·have e:finV (acc,0)=(acc,0):=by simp[finV,h8]
   rw[e]
   have hw:=whole_ok acc (by omega)
   exact let ζ1:List AV:=[.sl .sh (acc.map encA),.int .i64 0];goG 90 _ hT (.len (show lenA false (.sl .sh (List.map .str ns))=some (.int .i64 (↑ns.length))from len_map _)<|.no (decide_eq_false (p:=(↑i:Int)<(↑ns.length:Int)) (by omega))<|.callG ([rowS Heap.nil (acc.map encA)]) (.tuple ζ1) (show Gives cfg (181:FuncId) [.sl .sh (acc.map encA)] (.tuple ζ1)from hw) Shuts.p ⟨rfl,rfl⟩<|.fin ((.ret (.tuple ζ1),rowH Heap.nil (acc.map encA))) (by exact⟨true,rfl⟩)) (by kernel_rfl)
 |cons s post ih=>
  intro i hd acc ha T hT
  have hlt:=drop_lt hd
  have hnx:=drop_next hd
  have hx:idxA 1 (.sl .sh (ns.map .str)) (.int .i64 (i:Nat))=some (.ref [.str s]):=idx_row (f:=AV.str) hd rfl
  have g1:=getQ_ref a s la
  have g2:=getQ_ref b s lb
  have g3:=qsub_ref _ _ (ra s) (rb s)
  have e:madeF (fun s=>subQ (getQ a s) (getQ b s)) (s::post) acc=if(subQ (getQ a s) (getQ b s)).2=0 then madeF (fun s=>subQ (getQ a s) (getQ b s)) post (if 0<(subQ (getQ a s) (getQ b s)).1 then acc++[⟨s,(subQ (getQ a s) (getQ b s)).1⟩]else acc)else([],(subQ (getQ a s) (getQ b s)).2):=rfl
  rw[e]
  have ih1:=fun acc'=>ih (i+1) hnx acc'
  generalize getQ a s=p at g1 g3⊢
  generalize getQ b s=q at g2 g3⊢
  generalize subQ p q=z at g3⊢
  obtain⟨n,er⟩:=z
  simp only at g3⊢
  by_cases h0:er=0
  ·subst h0
   rw[if_pos rfl]
   by_cases hp:0<n
   ·rw[if_pos hp]
    have ap:∀H,appendA 2 24 (rowH H (acc.map encA)) (rowS H (acc.map encA)) (.sl .full [.agg [.str s,.int .i64 n]])=some (rowS H ((acc++[(⟨s,n⟩:Amount)]).map encA),rowH H ((acc++[(⟨s,n⟩:Amount)]).map encA)):=fun H=>row_append_map (f:=encA) (x:=(⟨s,n⟩:Amount)) (ys:=acc) (by simp;omega) lenA2 rfl rfl
    have ih':=ih1 (acc++[(⟨s,n⟩:Amount)]) (by simp;omega)
    exact let ζ1:Heap:=(roomH (rowH Heap.nil (acc.map encA)) (resvCells [mV 28 0,mV 29 7,mV 30 9,⟨some 31,.idx (1:Nat) (.t 29) (.t 30),none,[2,1]⟩,⟨some 32,.load false (1:Nat) (.t 31),none,[1,2,3]⟩,⟨some 33,.call (.c (.func (56:FuncId) [])) [.t 28,.t 32],none,[3,2,1,4,0]⟩,mV 34 1,mV 35 7,mV 36 9,⟨some 37,.idx (1:Nat) (.t 35) (.t 36),none,[8,7]⟩,⟨some 38,.load false (1:Nat) (.t 37),none,[7,8,9]⟩,⟨some 39,.call (.c (.func (56:FuncId) [])) [.t 34,.t 38],none,[0,4,1,2,3,5,9,8,7,10,6]⟩,⟨some 40,.call (.c (.func (184:FuncId) [])) [.t 33,.t 39],none,[6,10,7,8,9,11,0,4,1,2,3,5]⟩,⟨some 27,.mov (.t 40),none,[5,3,2,1,4,0,11,9,8,7,10,6,12]⟩,⟨some 41,.extract (.t 27) (0:Nat),none,[12,6,10,7,8,9,11,0,4,1,2,3,5,13]⟩,⟨some 42,.extract (.t 27) (1:Nat),none,[12,6,10,7,8,9,11,0,4,1,2,3,5,13]⟩,⟨some 10,.mov (.t 41),none,[13,5,3,2,1,4,0,11,9,8,7,10,6,12,14]⟩,⟨some 11,.mov (.t 42),none,[14,16,13,5,3,2,1,4,0,11,9,8,7,10,6,12,15]⟩]));let ζ2:List AV:=[.sl .sh (a.map encA),.str s];let ζ3:List AV:=[.sl .sh (b.map encA),.str s];goG 120 _ hT (.len (show lenA false (.sl .sh (List.map .str ns))=some (.int .i64 (↑ns.length))from len_map _)<|.yes (decide_eq_true (p:=(↑i:Int)<(↑ns.length:Int)) (by omega))<|.idx (show idxA 1 (.sl .sh (List.map .str ns)) (.int .i64 ↑i)=some (.ref [.str s])from hx)<|.load (rfl:loadA false 1 ζ1 (.ref [.str s])=some (.str s))<|.callK (ζ2) (.int .i64 p) (show Gives cfg (56:FuncId) ζ2 (.int .i64 p)from g1)<|.idx (show idxA 1 (.sl .sh (List.map .str ns)) (.int .i64 ↑i)=some (.ref [.str s])from hx)<|.load (rfl:loadA false 1 ζ1 (.ref [.str s])=some (.str s))<|.callK (ζ3) (.int .i64 q) (show Gives cfg (56:FuncId) ζ3 (.int .i64 q)from g2)<|.callI g3<|.ff<|.yes (decide_eq_true (p:=(0:Int)<n) (by exact hp))<|.idx (show idxA 1 (.sl .sh (List.map .str ns)) (.int .i64 ↑i)=some (.ref [.str s])from hx)<|.load (rfl:loadA false 1 ζ1 (.ref [.str s])=some (.str s))<|.append (show appendA (2:Nat) (24:Nat) ζ1 (rowS Heap.nil (acc.map encA)) (.sl .full [.agg [.str s,.int .i64 n]])=some ((rowS Heap.nil (List.map encA (acc++[{name:=s,n:=n:Amount}])),rowH Heap.nil (List.map encA (acc++[{name:=s,n:=n:Amount}]))))from ap _)<|.bin (show binA .add (.int .i64 ↑i) (.int .i64 1)=some (.int .i64 (↑(i+1)))from inc_i (by omega))<|.cutQ k110_0 [(0,.sl .sh (a.map encA)),(1,.sl .sh (b.map encA)),(7,.sl .sh (List.map .str ns)),(8,rowS Heap.nil (List.map encA (acc++[{name:=s,n:=n:Amount}]))),(9,.int .i64 (↑(i+1)))] (rowH Heap.nil (List.map encA (acc++[{name:=s,n:=n:Amount}]))) (fun T hT=>(ih' T hT))) (by kernel_rfl)
   ·rw[if_neg hp]
    have ih':=ih1 acc (by omega)
    exact let ζ1:Heap:=(roomH (rowH Heap.nil (acc.map encA)) (resvCells [mV 28 0,mV 29 7,mV 30 9,⟨some 31,.idx (1:Nat) (.t 29) (.t 30),none,[2,1]⟩,⟨some 32,.load false (1:Nat) (.t 31),none,[1,2,3]⟩,⟨some 33,.call (.c (.func (56:FuncId) [])) [.t 28,.t 32],none,[3,2,1,4,0]⟩,mV 34 1,mV 35 7,mV 36 9,⟨some 37,.idx (1:Nat) (.t 35) (.t 36),none,[8,7]⟩,⟨some 38,.load false (1:Nat) (.t 37),none,[7,8,9]⟩,⟨some 39,.call (.c (.func (56:FuncId) [])) [.t 34,.t 38],none,[0,4,1,2,3,5,9,8,7,10,6]⟩,⟨some 40,.call (.c (.func (184:FuncId) [])) [.t 33,.t 39],none,[6,10,7,8,9,11,0,4,1,2,3,5]⟩,⟨some 27,.mov (.t 40),none,[5,3,2,1,4,0,11,9,8,7,10,6,12]⟩,⟨some 41,.extract (.t 27) (0:Nat),none,[12,6,10,7,8,9,11,0,4,1,2,3,5,13]⟩,⟨some 42,.extract (.t 27) (1:Nat),none,[12,6,10,7,8,9,11,0,4,1,2,3,5,13]⟩,⟨some 10,.mov (.t 41),none,[13,5,3,2,1,4,0,11,9,8,7,10,6,12,14]⟩,⟨some 11,.mov (.t 42),none,[14,16,13,5,3,2,1,4,0,11,9,8,7,10,6,12,15]⟩]));let ζ2:List AV:=[.sl .sh (a.map encA),.str s];let ζ3:List AV:=[.sl .sh (b.map encA),.str s];goG 120 _ hT (.len (show lenA false (.sl .sh (List.map .str ns))=some (.int .i64 (↑ns.length))from len_map _)<|.yes (decide_eq_true (p:=(↑i:Int)<(↑ns.length:Int)) (by omega))<|.idx (show idxA 1 (.sl .sh (List.map .str ns)) (.int .i64 ↑i)=some (.ref [.str s])from hx)<|.load (rfl:loadA false 1 ζ1 (.ref [.str s])=some (.str s))<|.callK (ζ2) (.int .i64 p) (show Gives cfg (56:FuncId) ζ2 (.int .i64 p)from g1)<|.idx (show idxA 1 (.sl .sh (List.map .str ns)) (.int .i64 ↑i)=some (.ref [.str s])from hx)<|.load (rfl:loadA false 1 ζ1 (.ref [.str s])=some (.str s))<|.callK (ζ3) (.int .i64 q) (show Gives cfg (56:FuncId) ζ3 (.int .i64 q)from g2)<|.callI g3<|.ff<|.no (decide_eq_false (p:=(0:Int)<n) (by exact hp))<|.bin (show binA .add (.int .i64 ↑i) (.int .i64 1)=some (.int .i64 (↑(i+1)))from inc_i (by omega))<|.cutQ k110_0 [(0,.sl .sh (a.map encA)),(1,.sl .sh (b.map encA)),(7,.sl .sh (List.map .str ns)),(8,rowS Heap.nil (acc.map encA)),(9,.int .i64 (↑(i+1)))] ζ1 (fun T hT=>(ih' T hT))) (by kernel_rfl)
  ·rw[if_neg h0,fin_no _ h0]
   exact let ζ1:Heap:=(roomH (rowH Heap.nil (acc.map encA)) (resvCells [mV 28 0,mV 29 7,mV 30 9,⟨some 31,.idx (1:Nat) (.t 29) (.t 30),none,[2,1]⟩,⟨some 32,.load false (1:Nat) (.t 31),none,[1,2,3]⟩,⟨some 33,.call (.c (.func (56:FuncId) [])) [.t 28,.t 32],none,[3,2,1,4,0]⟩,mV 34 1,mV 35 7,mV 36 9,⟨some 37,.idx (1:Nat) (.t 35) (.t 36),none,[8,7]⟩,⟨some 38,.load false (1:Nat) (.t 37),none,[7,8,9]⟩,⟨some 39,.call (.c (.func (56:FuncId) [])) [.t 34,.t 38],none,[0,4,1,2,3,5,9,8,7,10,6]⟩,⟨some 40,.call (.c (.func (184:FuncId) [])) [.t 33,.t 39],none,[6,10,7,8,9,11,0,4,1,2,3,5]⟩,⟨some 27,.mov (.t 40),none,[5,3,2,1,4,0,11,9,8,7,10,6,12]⟩,⟨some 41,.extract (.t 27) (0:Nat),none,[12,6,10,7,8,9,11,0,4,1,2,3,5,13]⟩,⟨some 42,.extract (.t 27) (1:Nat),none,[12,6,10,7,8,9,11,0,4,1,2,3,5,13]⟩,⟨some 10,.mov (.t 41),none,[13,5,3,2,1,4,0,11,9,8,7,10,6,12,14]⟩,⟨some 11,.mov (.t 42),none,[14,16,13,5,3,2,1,4,0,11,9,8,7,10,6,12,15]⟩]));let ζ2:List AV:=[.sl .sh (a.map encA),.str s];let ζ3:List AV:=[.sl .sh (b.map encA),.str s];goG 120 _ hT (.len (show lenA false (.sl .sh (List.map .str ns))=some (.int .i64 (↑ns.length))from len_map _)<|.yes (decide_eq_true (p:=(↑i:Int)<(↑ns.length:Int)) (by omega))<|.idx (show idxA 1 (.sl .sh (List.map .str ns)) (.int .i64 ↑i)=some (.ref [.str s])from hx)<|.load (rfl:loadA false 1 ζ1 (.ref [.str s])=some (.str s))<|.callK (ζ2) (.int .i64 p) (show Gives cfg (56:FuncId) ζ2 (.int .i64 p)from g1)<|.idx (show idxA 1 (.sl .sh (List.map .str ns)) (.int .i64 ↑i)=some (.ref [.str s])from hx)<|.load (rfl:loadA false 1 ζ1 (.ref [.str s])=some (.str s))<|.callK (ζ3) (.int .i64 q) (show Gives cfg (56:FuncId) ζ3 (.int .i64 q)from g2)<|.callI g3<|.yes (show(er !=(0:Int))=true from(by simpa using h0))<|.fin ((.ret (.tuple [.sl .full [],.int .i64 er]),roomH (rowH Heap.nil (acc.map encA)) (resvCells [mV 28 0,mV 29 7,mV 30 9,⟨some 31,.idx (1:Nat) (.t 29) (.t 30),none,[2,1]⟩,⟨some 32,.load false (1:Nat) (.t 31),none,[1,2,3]⟩,⟨some 33,.call (.c (.func (56:FuncId) [])) [.t 28,.t 32],none,[3,2,1,4,0]⟩,mV 34 1,mV 35 7,mV 36 9,⟨some 37,.idx (1:Nat) (.t 35) (.t 36),none,[8,7]⟩,⟨some 38,.load false (1:Nat) (.t 37),none,[7,8,9]⟩,⟨some 39,.call (.c (.func (56:FuncId) [])) [.t 34,.t 38],none,[0,4,1,2,3,5,9,8,7,10,6]⟩,⟨some 40,.call (.c (.func (184:FuncId) [])) [.t 33,.t 39],none,[6,10,7,8,9,11,0,4,1,2,3,5]⟩,⟨some 27,.mov (.t 40),none,[5,3,2,1,4,0,11,9,8,7,10,6,12]⟩,⟨some 41,.extract (.t 27) (0:Nat),none,[12,6,10,7,8,9,11,0,4,1,2,3,5,13]⟩,⟨some 42,.extract (.t 27) (1:Nat),none,[12,6,10,7,8,9,11,0,4,1,2,3,5,13]⟩,⟨some 10,.mov (.t 41),none,[13,5,3,2,1,4,0,11,9,8,7,10,6,12,14]⟩,⟨some 11,.mov (.t 42),none,[14,16,13,5,3,2,1,4,0,11,9,8,7,10,6,12,15]⟩]))) (by exact⟨false,rfl⟩)) (by kernel_rfl)
theorem names_two{a b:List Amount}(ha:ckV a=0)(hb:ckV b=0):namesOf (allNames [a,b])=mergeN (nms a) (nms b):=by
 have e:allNames [a,b]=nms a++nms b:=by simp[allNames]
 rw[e]
 exact merge_names (vOk ha).rise (vOk hb).rise
theorem two_ok{a b:List Amount}(h:firstE [ckV a,ckV b]=0):ckV a=0∧ckV b=0:=by
 have:=firstE_zero h
 simpa using this
theorem merge_len(a b:List (List UInt8)):(mergeN a b).length≤a.length+b.length:=by
 have:∀(n:Nat)(a b:List (List UInt8)),a.length+b.length≤n→(mergeN a b).length≤a.length+b.length:=by
  intro n
  induction n with
  |zero=>
   intro a b h
   obtain rfl:a=[]:=List.length_eq_zero_iff.1 (by omega)
   simp[merge_nil]
  |succ n ih=>
   intro a b h
   cases a with
   |nil=>simp[merge_nil]
   |cons p a=>
    cases b with
    |nil=>simp[merge_nil2]
    |cons q b=>
     simp only[List.length_cons]at h
     rw[mergeN]
     split
     ·have:=ih a (q::b) (by simp;omega)
      simp at this⊢;omega
     ·split
      ·have:=ih (p::a) b (by simp;omega)
       simp at this⊢;omega
      ·have:=ih a b (by omega)
       simp;omega
 exact this _ a b (Nat.le_refl _)
instance(l:List (List UInt8)):Shut (rowT l) (.sl .sh (l.map .str)):=inferInstanceAs(Shut (rowS Heap.nil (l.map .str)) _)
theorem addQ_pos{a b:List Amount}(ha:VOk a)(hb:VOk b){s:List UInt8}(hs:s∈mergeN (nms a) (nms b))(h0:(addQ (getQ a s) (getQ b s)).2=0):0<(addQ (getQ a s) (getQ b s)).1:=by
 have p:=getQ_nn ha s
 have q:=getQ_nn hb s
 have hpq:0<getQ a s+getQ b s:=by
  rcases(merge_mem _ _ _ (Nat.le_refl _) s).1 hs with h|h
  ·have:=getQ_pos ha h;omega
  ·have:=getQ_pos hb h;omega
 have hb0:bothE (getQ a s) (getQ b s)=0:=by
  unfold bothE;rw[if_neg (by omega),if_neg (by omega)]
 unfold addQ at h0⊢
 rw[if_neg (by simp[hb0])]at h0⊢
 unfold toldQ at h0⊢
 split
 ·rename_i h;rw[if_pos h]at h0;cases h0
 ·exact hpq
theorem addR(a b:List Amount)(la:a.length<9223372036854775807)(lb:b.length<9223372036854775807)(ra:rgA a)(rb:rgA b):∃c,Gives cfg 108 [.sl .sh (a.map encA),.sl .sh (b.map encA)] (resV c (addV a b)):=by
 refine RetV.gives (l108 _ _) ?_
 have h0:=both_ref a b
 have e:addV a b=if firstE [ckV a,ckV b]=0 then finV (madeF (fun s=>addQ (getQ a s) (getQ b s)) (namesOf (allNames [a,b])) [])else([],firstE [ckV a,ckV b]):=rfl
 rw[e]
 by_cases hc:firstE [ckV a,ckV b]=0
 ·rw[if_pos hc]
  rw[hc]at h0
  obtain⟨ca,cb⟩:=two_ok hc
  have oa:=vOk ca
  have ob:=vOk cb
  have hn:=names_ref a b (by have:=oa.len;omega) (by have:=ob.len;omega)
  rw[names_two ca cb]
  have hml:(mergeN (nms a) (nms b)).length≤100000:=by
   have:=merge_len (nms a) (nms b)
   have:=oa.len;have:=ob.len
   simp only[List.length_map]at*
   omega
  have hl:=addR_loop a b la lb (rg_get ra) (rg_get rb) (mergeN (nms a) (nms b)) hml (mergeN (nms a) (nms b)) 0 rfl [] (by simp)
  rw[madeA_eq _ _ _ fun s hs h=>addQ_pos oa ob hs h]at hl
  generalize mergeN (nms a) (nms b)=ns at hn hl⊢
  exact let ζ1:List AV:=[.sl .sh (a.map encA),.sl .sh (b.map encA)];goG 90 [] trivial (.callK (ζ1) (.int .i64 0) (show Gives cfg (178:FuncId) ζ1 (.int .i64 0)from h0)<|.ff<|.callG (ζ1) (.sl .sh (List.map .str ns)) (show Gives cfg (179:FuncId) ζ1 (rowT ns)from hn) ⟨rfl,rfl⟩ Res.p<|.cutQ k108_0 [(0,.sl .sh (a.map encA)),(1,.sl .sh (b.map encA)),(7,.sl .sh (List.map .str ns)),(8,.sl .full []),(9,.int .i64 0)] ({boxes:=[],toks:=[],loops:=[]:Heap}) (fun T hT=>(hl T hT))) (by kernel_rfl)
 ·rw[if_neg hc]
  generalize firstE [ckV a,ckV b]=c at h0 hc⊢
  exact let ζ1:List AV:=[.sl .sh (a.map encA),.sl .sh (b.map encA)];goG 90 [] trivial (.callK (ζ1) (.int .i64 c) (show Gives cfg (178:FuncId) ζ1 (.int .i64 c)from h0)<|.yes (show(c !=(0:Int))=true from(by simpa using hc))<|.fin ((.ret (.tuple [.sl .full [],.int .i64 c]),{boxes:=[],toks:=[],loops:=[]:Heap})) (by exact⟨false,rfl⟩)) (by kernel_rfl)
theorem subR(a b:List Amount)(la:a.length<9223372036854775807)(lb:b.length<9223372036854775807)(ra:rgA a)(rb:rgA b):∃c,Gives cfg 110 [.sl .sh (a.map encA),.sl .sh (b.map encA)] (resV c (subV a b)):=by
 refine RetV.gives (l110 _ _) ?_
 have h0:=both_ref a b
 have e:subV a b=if firstE [ckV a,ckV b]=0 then finV (madeF (fun s=>subQ (getQ a s) (getQ b s)) (namesOf (allNames [a,b])) [])else([],firstE [ckV a,ckV b]):=rfl
 rw[e]
 by_cases hc:firstE [ckV a,ckV b]=0
 ·rw[if_pos hc]
  rw[hc]at h0
  obtain⟨ca,cb⟩:=two_ok hc
  have oa:=vOk ca
  have ob:=vOk cb
  have hn:=names_ref a b (by have:=oa.len;omega) (by have:=ob.len;omega)
  rw[names_two ca cb]
  have hml:(mergeN (nms a) (nms b)).length≤100000:=by
   have:=merge_len (nms a) (nms b)
   have:=oa.len;have:=ob.len
   simp only[List.length_map]at*
   omega
  have hl:=subR_loop a b la lb (rg_get ra) (rg_get rb) (mergeN (nms a) (nms b)) hml (mergeN (nms a) (nms b)) 0 rfl [] (by simp)
  generalize mergeN (nms a) (nms b)=ns at hn hl⊢
  exact let ζ1:List AV:=[.sl .sh (a.map encA),.sl .sh (b.map encA)];goG 90 [] trivial (.callK (ζ1) (.int .i64 0) (show Gives cfg (178:FuncId) ζ1 (.int .i64 0)from h0)<|.ff<|.callG (ζ1) (.sl .sh (List.map .str ns)) (show Gives cfg (179:FuncId) ζ1 (rowT ns)from hn) ⟨rfl,rfl⟩ Res.p<|.cutQ k110_0 [(0,.sl .sh (a.map encA)),(1,.sl .sh (b.map encA)),(7,.sl .sh (List.map .str ns)),(8,.sl .full []),(9,.int .i64 0)] ({boxes:=[],toks:=[],loops:=[]:Heap}) (fun T hT=>(hl T hT))) (by kernel_rfl)
 ·rw[if_neg hc]
  generalize firstE [ckV a,ckV b]=c at h0 hc⊢
  exact let ζ1:List AV:=[.sl .sh (a.map encA),.sl .sh (b.map encA)];goG 90 [] trivial (.callK (ζ1) (.int .i64 c) (show Gives cfg (178:FuncId) ζ1 (.int .i64 c)from h0)<|.yes (show(c !=(0:Int))=true from(by simpa using hc))<|.fin ((.ret (.tuple [.sl .full [],.int .i64 c]),{boxes:=[],toks:=[],loops:=[]:Heap})) (by exact⟨false,rfl⟩)) (by kernel_rfl)
end Go.Aa.T
set_option linter.unusedVariables false
set_option linter.unusedSimpArgs false
set_option maxRecDepth 100000
namespace Go.Aa.T
open Go.Aa Go.Proofs
structure St where
 nodes:List Node
 pods:List Pod
 buds:List Bud
def encSt(s:St):AV:=.agg [.sl .sh (s.nodes.map encN),.sl .sh (s.pods.map encPd),.sl .sh (s.buds.map encB)]
instance(s:St):Dat (encSt s):=⟨rfl,rfl⟩
def onP(name:List UInt8)(p:Pod):Bool:=p.node==name&& !(name==[])
def onS(s:St)(name:List UInt8):List Pod:=s.pods.filter (onP name)
def sumG:List Amount→List (List Amount)→List Amount×Int
 |acc,[]=>(acc,0)
 |acc,v::vs=>if(addV acc v).2=0 then sumG (addV acc v).1 vs else([],(addV acc v).2)
theorem addQ_in(a b:Int):inI (addQ a b).1:=by
 unfold addQ
 split
 ·unfold inI;omega
 ·rename_i h
  have:=both_ok (a:=a) (b:=b) (by simpa using h)
  unfold toldQ
  split
  ·unfold inI;omega
  ·unfold inI;simp only;omega
theorem subQ_in{a b:Int}(ha:inI a):inI (subQ a b).1:=by
 unfold inI at ha
 unfold subQ
 split
 ·unfold inI;omega
 ·rename_i h
  have:=both_ok (a:=a) (b:=b) (by simpa using h)
  split
  ·unfold inI;omega
  ·unfold inI;simp only;omega
theorem madeF_rg{g:OfQ}(hg:∀s,inI (g s).1):∀(l:List (List UInt8))(acc:List Amount),rgA acc→rgA (madeF g l acc).1
 |[],acc,h=>h
 |s::r,acc,h=>by
  unfold madeF
  split
  ·refine madeF_rg hg r _ ?_
   split
   ·intro x hx
    rcases List.mem_append.1 hx with hx|hx
    ·exact h x hx
    ·rw[List.mem_singleton.1 hx];exact hg s
   ·exact h
  ·intro x hx;cases hx
theorem madeV_rg{g:OfQ}(hg:∀s,inI (g s).1)(vs:List (List Amount)):rgA (madeV g vs).1∧(madeV g vs).1.length≤8:=by
 unfold madeV
 split
 ·unfold finV
  split
  ·split
   ·exact⟨fun x hx=>(by cases hx),by simp⟩
   ·exact⟨madeF_rg hg _ _ (fun x hx=>by cases hx),by simp only;omega⟩
  ·exact⟨fun x hx=>(by cases hx),by simp⟩
 ·exact⟨fun x hx=>(by cases hx),by simp⟩
theorem addV_rg(a b:List Amount):rgA (addV a b).1∧(addV a b).1.length≤8:=madeV_rg (fun s=>addQ_in _ _) _
theorem subV_rg{a b:List Amount}(ra:rgA a):rgA (subV a b).1∧(subV a b).1.length≤8:=madeV_rg (fun s=>subQ_in (rg_get ra s)) _
theorem sumG_err:∀(vs:List (List Amount))(acc:List Amount),(sumG acc vs).2≠0→(sumG acc vs).1=[]
 |[],acc,h=>absurd rfl h
 |v::vs,acc,h=>by
  unfold sumG at h⊢
  split
  ·rename_i h0;rw[if_pos h0]at h;exact sumG_err vs _ h
  ·rfl
theorem take_A(l:List AV):Gives cfg 105 [.sl .sh l,.int .i64 0] (.sl .sh l):=by
 refine Gives.run (l105 _ _) ?_
 exact goG 60 [] trivial (.callI stop_ok<|.fin ((.ret (.sl .sh l),{boxes:=[],toks:=[],loops:=[]:Heap})) rfl) (by kernel_rfl)
theorem takeN_A(l:List AV){e:Int}(he:¬e=0):Pans cfg 105 [.sl .sh l,.int .i64 e] (stopV e):=by
 have h:=stop_pan he
 refine Pans.run (l105 _ _) ?_
 exact goG 60 [] trivial (.callP ([.int .i64 e]) ({boxes:=[],toks:=[],loops:=[]:Heap}) (show Pans cfg (101:FuncId) [.int .i64 e] (stopV e)from h) ⟨rfl,rfl⟩ rfl rfl) (by kernel_rfl)
theorem trunc_ex{bs0 ex:List (List AV)}{tk:List Nat}{v:AV}(hv:∀nb nt,within nb nt v=true)(hb:∀nb nt,bs0.all (·.all (in2 nb nt))=true):trunc bs0.length 0 v ⟨bs0++ex,tk,[]⟩=⟨bs0,[],[]⟩:=by
 unfold trunc
 simp only[List.take_left,List.all_nil,Bool.true_and,hv,hb,Bool.and_self,if_true,List.take_zero]
structure Vin(v:List Amount):Prop where
 len:v.length<9223372036854775807
 rg:rgA v
def SumR(L fv:AV)(p:List Amount×Int)(r:ARes×Heap):Prop:=(p.2=0∧∃c ex,r=(.ret (.tuple []),⟨[L]::[fv]::[.sl (kq c) (p.1.map encA)]::ex,[],[]⟩))∨(p.2≠0∧r.1=.pan (stopV p.2))
theorem sumP_of(x:Pod):Gives cfg 107 [encPd x] (.sl .sh (x.need.map encA)):=by
 refine Gives.run (l107 _ _) ?_
 exact goG 60 [] trivial (.fin ((.ret (.sl .sh (x.need.map encA)),{boxes:=[[.str x.name,.str x.owner,.int .i64 x.prio,.sl .sh (x.need.map encA),.sl .sh (x.labels.map encP),.sl .sh (x.sel.map encM),.sl .sh (x.tols.map encL),.str x.key,.int .i64 x.most,.str x.node,.bool x.hold]],toks:=[],loops:=[]:Heap})) rfl) (by kernel_rfl)
theorem sumP_loop(l:List Pod)(hn:l.length<9223372036854775807)(hv:∀x∈l,Vin x.need):∀(post:List Pod)(i:Nat)(hd:l.drop i=post)(acc:List Amount)(ha:acc.length≤8∧rgA acc)(c:Bool)(ex:List (List AV))(T:Env)
 (hT:Has T [(1,.ptr 2 0),(2,.ptr 1 0),(5,.sl .sh (l.map encPd)),(6,.int .i64 l.length),(7,.int .i64 i)]),
 Goes cfg a177 k177_0 T ⟨[.sl .sh (l.map encPd)]::[.func 107 []]::[.sl (kq c) (acc.map encA)]::ex,[],[]⟩ (SumR (.sl .sh (l.map encPd)) (.func 107 []) (sumG acc (post.map (·.need)))):=by
 intro post
 induction post with
 |nil=>
  intro i hd acc ha c ex T hT
  have hge:=drop_ge hd
  exact goG 60 _ hT (.no (decide_eq_false (p:=(↑i:Int)<(↑l.length:Int)) (by omega))<|.fin ((.ret (.tuple []),{boxes:=[.sl .sh (l.map encPd)]::[.func (107:Nat) []]::[.sl (kq c) (acc.map encA)]::ex,toks:=[],loops:=[]:Heap})) (by exact .inl ⟨rfl,c,ex,rfl⟩)) (by kernel_rfl)
 |cons x post ih=>
  intro i hd acc ha c ex T hT
  have hlt:=drop_lt hd
  have hnx:=drop_next hd
  have hx:=hv x (drop_mem hd)
  have h1:=sumP_of x
  have h2:=addV_any acc x.need (by omega) hx.len ha.2 hx.rg
  have hr:=addV_rg acc x.need
  have e:sumG acc ((x::post).map (·.need))=if(addV acc x.need).2=0 then sumG (addV acc x.need).1 (post.map (·.need))else([],(addV acc x.need).2):=rfl
  rw[e]
  generalize addV acc x.need=z at h2 hr⊢
  obtain⟨w,er⟩:=z
  simp only at h2 hr⊢
  by_cases h0:er=0
  ·subst h0
   rw[if_pos rfl]
   have h3:=take_A (w.map encA)
   have ih':=ih (i+1) hnx w ⟨hr.2,hr.1⟩ true (ex++[(encPd x).cells])
   have ek:kq true=.sh:=rfl
   rw[ek]at ih'
   exact let ζ1:List AV:=[.str x.name,.str x.owner,.int .i64 x.prio,.sl .sh (x.need.map encA),.sl .sh (x.labels.map encP),.sl .sh (x.sel.map encM),.sl .sh (x.tols.map encL),.str x.key,.int .i64 x.most,.str x.node,.bool x.hold];let ζ2:Heap:={boxes:=[.sl .sh (l.map encPd)]::[.func (107:Nat) []]::[.sl (kq c) (acc.map encA)]::(ex++[ζ1]),toks:=[],loops:=[]:Heap};let ζ3:List AV:=[.str [],.str [],.int .i64 0,.sl .full [],.sl .full [],.sl .full [],.sl .full [],.str [],.int .i64 0,.str [],.bool false];let ζ4:Heap:={boxes:=[.sl .sh (l.map encPd)]::[.func (107:Nat) []]::[.sl .sh (w.map encA)]::(ex++[ζ1]),toks:=[],loops:=[]:Heap};let ζ5:List AV:=[.sl .sh (w.map encA),.int .i64 0];goG 120 _ hT (.yes (decide_eq_true (p:=(↑i:Int)<(↑l.length:Int)) (by omega))<|.idx (show idxA 11 (.sl .sh (l.map encPd)) (.int .i64 ↑i)=some (.ref (encPd x).cells)from idx_row hd (by rfl))<|.load (rfl:loadA true 11 {boxes:=[.sl .sh (l.map encPd)]::[.func (107:Nat) []]::[.sl (kq c) (acc.map encA)]::ex,toks:=[],loops:=[]:Heap} (.ref ζ1)=some (.agg ζ1))<|.store (show storeA 11 {boxes:=[.sl .sh (l.map encPd)]::[.func (107:Nat) []]::[.sl (kq c) (acc.map encA)]::(ex++[ζ3]),toks:=[],loops:=[]:Heap} (.ptr ([.sl .sh (l.map encPd)]::[.func (107:Nat) []]::[.sl (kq c) (acc.map encA)]::ex).length (0:Nat)) (.agg ζ1)=some (ζ2)from store_box2 (cs:=ζ3) (cs':=ζ1) (by simp+zetaDelta) rfl (by simp+zetaDelta [List.set_append]))<|.load (show loadA false 1 ζ2 (.ptr 2 0)=some (.sl (kq c) (acc.map encA))from load_box (cs:=[.sl (kq c) (acc.map encA)]) (by simp+zetaDelta) rfl)<|.load (show loadA false 1 ζ2 (.ptr 1 0)=some (.func (107:Nat) [])from load_box (cs:=[.func (107:Nat) []]) (by simp+zetaDelta) rfl)<|.load (show loadA true 11 ζ2 (.ptr ([.sl .sh (l.map encPd)]::[.func (107:Nat) []]::[.sl (kq c) (acc.map encA)]::ex).length (0:Nat))=some (.agg ζ1)from load_box (cs:=ζ1) (by simp+zetaDelta) rfl)<|.callI h1<|.callG ([.sl (kq c) (acc.map encA),.sl .sh (x.need.map encA)]) (.tuple ζ5) (show Gives cfg (52:FuncId) [.sl .sh (acc.map encA),.sl .sh (x.need.map encA)] (.tuple ζ5)from h2) Shuts.p ⟨rfl,rfl⟩<|.callK (ζ5) (.sl .sh (w.map encA)) (show Gives cfg (105:FuncId) ζ5 (.sl .sh (w.map encA))from h3)<|.store (show storeA 1 ζ2 (.ptr 2 0) (.sl .sh (w.map encA))=some (ζ4)from store_box2 (cs:=[.sl (kq c) (acc.map encA)]) (cs':=[.sl .sh (w.map encA)]) (by simp+zetaDelta) rfl (by simp+zetaDelta [List.set_append]))<|.bin (show binA .add (.int .i64 ↑i) (.int .i64 1)=some (.int .i64 (↑(i+1)))from inc_i (by omega))<|.cutQ k177_0 [(1,.ptr 2 0),(2,.ptr 1 0),(5,.sl .sh (l.map encPd)),(6,.int .i64 (↑l.length)),(7,.int .i64 (↑(i+1)))] (ζ4) (fun T hT=>(ih' T hT))) (by kernel_rfl)
  ·rw[if_neg h0]
   have h3:=takeN_A (w.map encA) h0
   exact let ζ1:List AV:=[.str x.name,.str x.owner,.int .i64 x.prio,.sl .sh (x.need.map encA),.sl .sh (x.labels.map encP),.sl .sh (x.sel.map encM),.sl .sh (x.tols.map encL),.str x.key,.int .i64 x.most,.str x.node,.bool x.hold];let ζ2:Heap:={boxes:=[.sl .sh (l.map encPd)]::[.func (107:Nat) []]::[.sl (kq c) (acc.map encA)]::(ex++[ζ1]),toks:=[],loops:=[]:Heap};let ζ3:List AV:=[.str [],.str [],.int .i64 0,.sl .full [],.sl .full [],.sl .full [],.sl .full [],.str [],.int .i64 0,.str [],.bool false];let ζ4:List AV:=[.sl .sh (w.map encA),.int .i64 er];goG 120 _ hT (.yes (decide_eq_true (p:=(↑i:Int)<(↑l.length:Int)) (by omega))<|.idx (show idxA 11 (.sl .sh (l.map encPd)) (.int .i64 ↑i)=some (.ref (encPd x).cells)from idx_row hd (by rfl))<|.load (rfl:loadA true 11 {boxes:=[.sl .sh (l.map encPd)]::[.func (107:Nat) []]::[.sl (kq c) (acc.map encA)]::ex,toks:=[],loops:=[]:Heap} (.ref ζ1)=some (.agg ζ1))<|.store (show storeA 11 {boxes:=[.sl .sh (l.map encPd)]::[.func (107:Nat) []]::[.sl (kq c) (acc.map encA)]::(ex++[ζ3]),toks:=[],loops:=[]:Heap} (.ptr ([.sl .sh (l.map encPd)]::[.func (107:Nat) []]::[.sl (kq c) (acc.map encA)]::ex).length (0:Nat)) (.agg ζ1)=some (ζ2)from store_box2 (cs:=ζ3) (cs':=ζ1) (by simp+zetaDelta) rfl (by simp+zetaDelta [List.set_append]))<|.load (show loadA false 1 ζ2 (.ptr 2 0)=some (.sl (kq c) (acc.map encA))from load_box (cs:=[.sl (kq c) (acc.map encA)]) (by simp+zetaDelta) rfl)<|.load (show loadA false 1 ζ2 (.ptr 1 0)=some (.func (107:Nat) [])from load_box (cs:=[.func (107:Nat) []]) (by simp+zetaDelta) rfl)<|.load (show loadA true 11 ζ2 (.ptr ([.sl .sh (l.map encPd)]::[.func (107:Nat) []]::[.sl (kq c) (acc.map encA)]::ex).length (0:Nat))=some (.agg ζ1)from load_box (cs:=ζ1) (by simp+zetaDelta) rfl)<|.callI h1<|.callG ([.sl (kq c) (acc.map encA),.sl .sh (x.need.map encA)]) (.tuple ζ4) (show Gives cfg (52:FuncId) [.sl .sh (acc.map encA),.sl .sh (x.need.map encA)] (.tuple ζ4)from h2) Shuts.p ⟨rfl,rfl⟩<|.callP (ζ4) (ζ2) (show Pans cfg (105:FuncId) ζ4 (stopV er)from h3) ⟨rfl,rfl⟩ rfl (by exact .inr ⟨h0,rfl⟩)) (by kernel_rfl)
theorem sumP_any(l:List Pod)(hn:l.length<9223372036854775807)(hv:∀x∈l,Vin x.need):∃c,Gives cfg 106 [.sl .sh (l.map encPd),.func 107 []] (resV c (sumG [] (l.map (·.need)))):=by
 have h1:=sumP_loop l hn hv l 0 rfl [] ⟨by simp,fun x hx=>by cases hx⟩ false []
 have ek:kq false=.full:=rfl
 rw[ek]at h1
 have key:Goes cfg a177 [.c c177] (initEnv [.ptr 0 0,.ptr 2 0,.ptr 1 0]) ⟨[[.sl .sh (l.map encPd)],[.func 107 []],[.sl .full []]],[],[]⟩ (SumR (.sl .sh (l.map encPd)) (.func 107 []) (sumG [] (l.map (·.need)))):=by
  exact goG 60 [] trivial (.len (show lenA false (.sl .sh (l.map encPd))=some (.int .i64 (↑l.length))from len_map _)<|.cutQ k177_0 [(1,.ptr 2 0),(2,.ptr 1 0),(5,.sl .sh (l.map encPd)),(6,.int .i64 (↑l.length)),(7,.int .i64 0)] ({boxes:=[[.sl .sh (l.map encPd)],[.func (107:Nat) []],[.sl .full []]],toks:=[],loops:=[]:Heap}) (fun T hT=>(h1 T hT))) (by kernel_rfl)
 obtain⟨⟨a,H1⟩,hr,hR⟩:=key
 have hz:=sumG_err (l.map (·.need)) []
 generalize sumG [] (l.map (·.need))=z at hR hz⊢
 obtain⟨w,er⟩:=z
 rcases hR with⟨he,c,ex,hR⟩|⟨he,hR⟩
 ·simp only at he
  subst he
  simp only[Prod.mk.injEq]at hR
  obtain⟨rfl,rfl⟩:=hR
  have ht:lim cfg (.fn 77) [.func 177 [.ptr 0 0,.ptr 2 0,.ptr 1 0]] ⟨[[.sl .sh (l.map encPd)],[.func 107 []],[.sl .full []]],[],[]⟩=some (.ret (.int .i64 0),⟨[.sl .sh (l.map encPd)]::[.func 107 []]::[.sl (kq c) (w.map encA)]::ex,[],[]⟩):=by
   rw[lim_try rfl,l177,hr];rfl
  have hd:=does_callE (xs:=[.func 177 [.ptr 0 0,.ptr 2 0,.ptr 1 0]]) (caps:=[]) ht rfl rfl
  have et:trunc 3 0 (.int .i64 0) ⟨[.sl .sh (l.map encPd)]::[.func 107 []]::[.sl (kq c) (w.map encA)]::ex,[],[]⟩=⟨[[.sl .sh (l.map encPd)],[.func 107 []],[.sl (kq c) (w.map encA)]],[],[]⟩:=
   trunc_ex (bs0:=[[.sl .sh (l.map encPd)],[.func 107 []],[.sl (kq c) (w.map encA)]]) (fun _ _=>rfl) (fun _ _=>by cases c<;>rfl)
  have hd':Does cfg (.call (.c (.func 77 [])) [.c (.func 177 [.ptr 0 0,.ptr 2 0,.ptr 1 0])]) ⟨[[.sl .sh (l.map encPd)],[.func 107 []],[.sl .full []]],[],[]⟩ (.int .i64 0) ⟨[[.sl .sh (l.map encPd)],[.func 107 []],[.sl (kq c) (w.map encA)]],[],[]⟩:=by
   rw[←et];exact hd
  refine⟨c,Gives.run (l106 _ _) ?_⟩
  exact goG 60 [] trivial (.effY (show Does cfg (.call (.c (.func (77:FuncId) [])) [.c (.func (177:FuncId) [.ptr 0 0,.ptr 2 0,.ptr 1 0])]) {boxes:=[[.sl .sh (l.map encPd)],[.func (107:FuncId) []],[.sl .full []]],toks:=[],loops:=[]:Heap} (.int .i64 0) {boxes:=[[.sl .sh (l.map encPd)],[.func (107:FuncId) []],[.sl (kq c) (w.map encA)]],toks:=[],loops:=[]:Heap}from hd')<|.ff<|.fin ((.ret (.tuple [.sl (kq c) (w.map encA),.int .i64 0]),{boxes:=[[.sl .sh (l.map encPd)],[.func (107:Nat) []],[.sl (kq c) (w.map encA)]],toks:=[],loops:=[]:Heap})) rfl) (by kernel_rfl)
 ·simp only at he hR
  subst hR
  have e0:w=[]:=hz he
  subst e0
  have ht:lim cfg (.fn 77) [.func 177 [.ptr 0 0,.ptr 2 0,.ptr 1 0]] ⟨[[.sl .sh (l.map encPd)],[.func 107 []],[.sl .full []]],[],[]⟩=some (.ret (.int .i64 er),H1):=by
   rw[lim_try rfl,l177,hr];rfl
  have hd:=does_callE (xs:=[.func 177 [.ptr 0 0,.ptr 2 0,.ptr 1 0]]) (caps:=[]) ht rfl rfl
  generalize trunc _ _ _ H1=H2 at hd
  refine⟨false,Gives.run (l106 _ _) ?_⟩
  exact goG 60 [] trivial (.effY (show Does cfg (.call (.c (.func (77:FuncId) [])) (List.map .c [.func (177:FuncId) [.ptr 0 0,.ptr 2 0,.ptr 1 0]])) {boxes:=[[.sl .sh (l.map encPd)],[.func (107:FuncId) []],[.sl .full []]],toks:=[],loops:=[]:Heap} (shutA (.int .i64 er)) H2 from hd)<|.yes (show(er !=(0:Int))=true from(by simpa using he))<|.fin ((.ret (.tuple [.sl .full [],.int .i64 er]),H2)) rfl) (by kernel_rfl)
theorem sumN_of(x:Node):Gives cfg 112 [encN x] (.sl .sh (x.cap.map encA)):=by
 refine Gives.run (l112 _ _) ?_
 exact goG 60 [] trivial (.fin ((.ret (.sl .sh (x.cap.map encA)),{boxes:=[[.str x.name,.sl .sh (x.cap.map encA),.sl .sh (x.labels.map encP),.sl .sh (x.taints.map encT),.bool x.cordon]],toks:=[],loops:=[]:Heap})) rfl) (by kernel_rfl)
theorem sumN_loop(l:List Node)(hn:l.length<9223372036854775807)(hv:∀x∈l,Vin x.cap):∀(post:List Node)(i:Nat)(hd:l.drop i=post)(acc:List Amount)(ha:acc.length≤8∧rgA acc)(c:Bool)(ex:List (List AV))(T:Env)
 (hT:Has T [(1,.ptr 2 0),(2,.ptr 1 0),(5,.sl .sh (l.map encN)),(6,.int .i64 l.length),(7,.int .i64 i)]),
 Goes cfg a185 k185_0 T ⟨[.sl .sh (l.map encN)]::[.func 112 []]::[.sl (kq c) (acc.map encA)]::ex,[],[]⟩ (SumR (.sl .sh (l.map encN)) (.func 112 []) (sumG acc (post.map (·.cap)))):=by
 intro post
 induction post with
 |nil=>
  intro i hd acc ha c ex T hT
  have hge:=drop_ge hd
  exact goG 60 _ hT (.no (decide_eq_false (p:=(↑i:Int)<(↑l.length:Int)) (by omega))<|.fin ((.ret (.tuple []),{boxes:=[.sl .sh (l.map encN)]::[.func (112:Nat) []]::[.sl (kq c) (acc.map encA)]::ex,toks:=[],loops:=[]:Heap})) (by exact .inl ⟨rfl,c,ex,rfl⟩)) (by kernel_rfl)
 |cons x post ih=>
  intro i hd acc ha c ex T hT
  have hlt:=drop_lt hd
  have hnx:=drop_next hd
  have hx:=hv x (drop_mem hd)
  have h1:=sumN_of x
  have h2:=addV_any acc x.cap (by omega) hx.len ha.2 hx.rg
  have hr:=addV_rg acc x.cap
  have e:sumG acc ((x::post).map (·.cap))=if(addV acc x.cap).2=0 then sumG (addV acc x.cap).1 (post.map (·.cap))else([],(addV acc x.cap).2):=rfl
  rw[e]
  generalize addV acc x.cap=z at h2 hr⊢
  obtain⟨w,er⟩:=z
  simp only at h2 hr⊢
  by_cases h0:er=0
  ·subst h0
   rw[if_pos rfl]
   have h3:=take_A (w.map encA)
   have ih':=ih (i+1) hnx w ⟨hr.2,hr.1⟩ true (ex++[(encN x).cells])
   have ek:kq true=.sh:=rfl
   rw[ek]at ih'
   exact let ζ1:List AV:=[.str x.name,.sl .sh (x.cap.map encA),.sl .sh (x.labels.map encP),.sl .sh (x.taints.map encT),.bool x.cordon];let ζ2:Heap:={boxes:=[.sl .sh (l.map encN)]::[.func (112:Nat) []]::[.sl (kq c) (acc.map encA)]::(ex++[ζ1]),toks:=[],loops:=[]:Heap};let ζ3:Heap:={boxes:=[.sl .sh (l.map encN)]::[.func (112:Nat) []]::[.sl .sh (w.map encA)]::(ex++[ζ1]),toks:=[],loops:=[]:Heap};let ζ4:List AV:=[.sl .sh (w.map encA),.int .i64 0];let ζ5:List AV:=[.str [],.sl .full [],.sl .full [],.sl .full [],.bool false];goG 120 _ hT (.yes (decide_eq_true (p:=(↑i:Int)<(↑l.length:Int)) (by omega))<|.idx (show idxA 5 (.sl .sh (l.map encN)) (.int .i64 ↑i)=some (.ref (encN x).cells)from idx_row hd (by rfl))<|.load (rfl:loadA true 5 {boxes:=[.sl .sh (l.map encN)]::[.func (112:Nat) []]::[.sl (kq c) (acc.map encA)]::ex,toks:=[],loops:=[]:Heap} (.ref ζ1)=some (.agg ζ1))<|.store (show storeA 5 {boxes:=[.sl .sh (l.map encN)]::[.func (112:Nat) []]::[.sl (kq c) (acc.map encA)]::(ex++[ζ5]),toks:=[],loops:=[]:Heap} (.ptr ([.sl .sh (l.map encN)]::[.func (112:Nat) []]::[.sl (kq c) (acc.map encA)]::ex).length (0:Nat)) (.agg ζ1)=some (ζ2)from store_box2 (cs:=ζ5) (cs':=ζ1) (by simp+zetaDelta) rfl (by simp+zetaDelta [List.set_append]))<|.load (show loadA false 1 ζ2 (.ptr 2 0)=some (.sl (kq c) (acc.map encA))from load_box (cs:=[.sl (kq c) (acc.map encA)]) (by simp+zetaDelta) rfl)<|.load (show loadA false 1 ζ2 (.ptr 1 0)=some (.func (112:Nat) [])from load_box (cs:=[.func (112:Nat) []]) (by simp+zetaDelta) rfl)<|.load (show loadA true 5 ζ2 (.ptr ([.sl .sh (l.map encN)]::[.func (112:Nat) []]::[.sl (kq c) (acc.map encA)]::ex).length (0:Nat))=some (.agg ζ1)from load_box (cs:=ζ1) (by simp+zetaDelta) rfl)<|.callI h1<|.callG ([.sl (kq c) (acc.map encA),.sl .sh (x.cap.map encA)]) (.tuple ζ4) (show Gives cfg (52:FuncId) [.sl .sh (acc.map encA),.sl .sh (x.cap.map encA)] (.tuple ζ4)from h2) Shuts.p ⟨rfl,rfl⟩<|.callK (ζ4) (.sl .sh (w.map encA)) (show Gives cfg (105:FuncId) ζ4 (.sl .sh (w.map encA))from h3)<|.store (show storeA 1 ζ2 (.ptr 2 0) (.sl .sh (w.map encA))=some (ζ3)from store_box2 (cs:=[.sl (kq c) (acc.map encA)]) (cs':=[.sl .sh (w.map encA)]) (by simp+zetaDelta) rfl (by simp+zetaDelta [List.set_append]))<|.bin (show binA .add (.int .i64 ↑i) (.int .i64 1)=some (.int .i64 (↑(i+1)))from inc_i (by omega))<|.cutQ k185_0 [(1,.ptr 2 0),(2,.ptr 1 0),(5,.sl .sh (l.map encN)),(6,.int .i64 (↑l.length)),(7,.int .i64 (↑(i+1)))] (ζ3) (fun T hT=>(ih' T hT))) (by kernel_rfl)
  ·rw[if_neg h0]
   have h3:=takeN_A (w.map encA) h0
   exact let ζ1:List AV:=[.str x.name,.sl .sh (x.cap.map encA),.sl .sh (x.labels.map encP),.sl .sh (x.taints.map encT),.bool x.cordon];let ζ2:Heap:={boxes:=[.sl .sh (l.map encN)]::[.func (112:Nat) []]::[.sl (kq c) (acc.map encA)]::(ex++[ζ1]),toks:=[],loops:=[]:Heap};let ζ3:List AV:=[.sl .sh (w.map encA),.int .i64 er];let ζ4:List AV:=[.str [],.sl .full [],.sl .full [],.sl .full [],.bool false];goG 120 _ hT (.yes (decide_eq_true (p:=(↑i:Int)<(↑l.length:Int)) (by omega))<|.idx (show idxA 5 (.sl .sh (l.map encN)) (.int .i64 ↑i)=some (.ref (encN x).cells)from idx_row hd (by rfl))<|.load (rfl:loadA true 5 {boxes:=[.sl .sh (l.map encN)]::[.func (112:Nat) []]::[.sl (kq c) (acc.map encA)]::ex,toks:=[],loops:=[]:Heap} (.ref ζ1)=some (.agg ζ1))<|.store (show storeA 5 {boxes:=[.sl .sh (l.map encN)]::[.func (112:Nat) []]::[.sl (kq c) (acc.map encA)]::(ex++[ζ4]),toks:=[],loops:=[]:Heap} (.ptr ([.sl .sh (l.map encN)]::[.func (112:Nat) []]::[.sl (kq c) (acc.map encA)]::ex).length (0:Nat)) (.agg ζ1)=some (ζ2)from store_box2 (cs:=ζ4) (cs':=ζ1) (by simp+zetaDelta) rfl (by simp+zetaDelta [List.set_append]))<|.load (show loadA false 1 ζ2 (.ptr 2 0)=some (.sl (kq c) (acc.map encA))from load_box (cs:=[.sl (kq c) (acc.map encA)]) (by simp+zetaDelta) rfl)<|.load (show loadA false 1 ζ2 (.ptr 1 0)=some (.func (112:Nat) [])from load_box (cs:=[.func (112:Nat) []]) (by simp+zetaDelta) rfl)<|.load (show loadA true 5 ζ2 (.ptr ([.sl .sh (l.map encN)]::[.func (112:Nat) []]::[.sl (kq c) (acc.map encA)]::ex).length (0:Nat))=some (.agg ζ1)from load_box (cs:=ζ1) (by simp+zetaDelta) rfl)<|.callI h1<|.callG ([.sl (kq c) (acc.map encA),.sl .sh (x.cap.map encA)]) (.tuple ζ3) (show Gives cfg (52:FuncId) [.sl .sh (acc.map encA),.sl .sh (x.cap.map encA)] (.tuple ζ3)from h2) Shuts.p ⟨rfl,rfl⟩<|.callP (ζ3) (ζ2) (show Pans cfg (105:FuncId) ζ3 (stopV er)from h3) ⟨rfl,rfl⟩ rfl (by exact .inr ⟨h0,rfl⟩)) (by kernel_rfl)
theorem sumN_any(l:List Node)(hn:l.length<9223372036854775807)(hv:∀x∈l,Vin x.cap):∃c,Gives cfg 111 [.sl .sh (l.map encN),.func 112 []] (resV c (sumG [] (l.map (·.cap)))):=by
 have h1:=sumN_loop l hn hv l 0 rfl [] ⟨by simp,fun x hx=>by cases hx⟩ false []
 have ek:kq false=.full:=rfl
 rw[ek]at h1
 have key:Goes cfg a185 [.c c185] (initEnv [.ptr 0 0,.ptr 2 0,.ptr 1 0]) ⟨[[.sl .sh (l.map encN)],[.func 112 []],[.sl .full []]],[],[]⟩ (SumR (.sl .sh (l.map encN)) (.func 112 []) (sumG [] (l.map (·.cap)))):=by
  exact goG 60 [] trivial (.len (show lenA false (.sl .sh (l.map encN))=some (.int .i64 (↑l.length))from len_map _)<|.cutQ k185_0 [(1,.ptr 2 0),(2,.ptr 1 0),(5,.sl .sh (l.map encN)),(6,.int .i64 (↑l.length)),(7,.int .i64 0)] ({boxes:=[[.sl .sh (l.map encN)],[.func (112:Nat) []],[.sl .full []]],toks:=[],loops:=[]:Heap}) (fun T hT=>(h1 T hT))) (by kernel_rfl)
 obtain⟨⟨a,H1⟩,hr,hR⟩:=key
 have hz:=sumG_err (l.map (·.cap)) []
 generalize sumG [] (l.map (·.cap))=z at hR hz⊢
 obtain⟨w,er⟩:=z
 rcases hR with⟨he,c,ex,hR⟩|⟨he,hR⟩
 ·simp only at he
  subst he
  simp only[Prod.mk.injEq]at hR
  obtain⟨rfl,rfl⟩:=hR
  have ht:lim cfg (.fn 77) [.func 185 [.ptr 0 0,.ptr 2 0,.ptr 1 0]] ⟨[[.sl .sh (l.map encN)],[.func 112 []],[.sl .full []]],[],[]⟩=some (.ret (.int .i64 0),⟨[.sl .sh (l.map encN)]::[.func 112 []]::[.sl (kq c) (w.map encA)]::ex,[],[]⟩):=by
   rw[lim_try rfl,l185,hr];rfl
  have hd:=does_callE (xs:=[.func 185 [.ptr 0 0,.ptr 2 0,.ptr 1 0]]) (caps:=[]) ht rfl rfl
  have et:trunc 3 0 (.int .i64 0) ⟨[.sl .sh (l.map encN)]::[.func 112 []]::[.sl (kq c) (w.map encA)]::ex,[],[]⟩=⟨[[.sl .sh (l.map encN)],[.func 112 []],[.sl (kq c) (w.map encA)]],[],[]⟩:=
   trunc_ex (bs0:=[[.sl .sh (l.map encN)],[.func 112 []],[.sl (kq c) (w.map encA)]]) (fun _ _=>rfl) (fun _ _=>by cases c<;>rfl)
  have hd':Does cfg (.call (.c (.func 77 [])) [.c (.func 185 [.ptr 0 0,.ptr 2 0,.ptr 1 0])]) ⟨[[.sl .sh (l.map encN)],[.func 112 []],[.sl .full []]],[],[]⟩ (.int .i64 0) ⟨[[.sl .sh (l.map encN)],[.func 112 []],[.sl (kq c) (w.map encA)]],[],[]⟩:=by
   rw[←et];exact hd
  refine⟨c,Gives.run (l111 _ _) ?_⟩
  exact goG 60 [] trivial (.effY (show Does cfg (.call (.c (.func (77:FuncId) [])) [.c (.func (185:FuncId) [.ptr 0 0,.ptr 2 0,.ptr 1 0])]) {boxes:=[[.sl .sh (l.map encN)],[.func (112:FuncId) []],[.sl .full []]],toks:=[],loops:=[]:Heap} (.int .i64 0) {boxes:=[[.sl .sh (l.map encN)],[.func (112:FuncId) []],[.sl (kq c) (w.map encA)]],toks:=[],loops:=[]:Heap}from hd')<|.ff<|.fin ((.ret (.tuple [.sl (kq c) (w.map encA),.int .i64 0]),{boxes:=[[.sl .sh (l.map encN)],[.func (112:Nat) []],[.sl (kq c) (w.map encA)]],toks:=[],loops:=[]:Heap})) rfl) (by kernel_rfl)
 ·simp only at he hR
  subst hR
  have e0:w=[]:=hz he
  subst e0
  have ht:lim cfg (.fn 77) [.func 185 [.ptr 0 0,.ptr 2 0,.ptr 1 0]] ⟨[[.sl .sh (l.map encN)],[.func 112 []],[.sl .full []]],[],[]⟩=some (.ret (.int .i64 er),H1):=by
   rw[lim_try rfl,l185,hr];rfl
  have hd:=does_callE (xs:=[.func 185 [.ptr 0 0,.ptr 2 0,.ptr 1 0]]) (caps:=[]) ht rfl rfl
  generalize trunc _ _ _ H1=H2 at hd
  refine⟨false,Gives.run (l111 _ _) ?_⟩
  exact goG 60 [] trivial (.effY (show Does cfg (.call (.c (.func (77:FuncId) [])) (List.map .c [.func (185:FuncId) [.ptr 0 0,.ptr 2 0,.ptr 1 0]])) {boxes:=[[.sl .sh (l.map encN)],[.func (112:FuncId) []],[.sl .full []]],toks:=[],loops:=[]:Heap} (shutA (.int .i64 er)) H2 from hd)<|.yes (show(er !=(0:Int))=true from(by simpa using he))<|.fin ((.ret (.tuple [.sl .full [],.int .i64 er]),H2)) rfl) (by kernel_rfl)
end Go.Aa.T
set_option linter.unusedVariables false
set_option linter.unusedSimpArgs false
set_option maxRecDepth 100000
namespace Go.Aa.T
open Go.Aa Go.Proofs
structure StIn(s:St):Prop where
 nodes:s.nodes.length<9223372036854775807
 pods:s.pods.length≤1000
 cap:∀n∈s.nodes,Vin n.cap
 need:∀p∈s.pods,Vin p.need
theorem lenPd{l:List Pod}:lenOk 11 (l.map encPd)=true:=lenOk_map fun _=>rfl
theorem on_loop(s:St)(name:List UInt8)(hs:s.pods.length≤1000):∀(post:List Pod)(i:Nat)(hd:s.pods.drop i=post)(acc:List Pod)(ha:acc.length≤i)(ex:List (List AV))(T:Env)
 (hT:Has T [(1,.str name),(5,rowF encPd acc),(9,.sl .sh (s.pods.map encPd)),(10,.int .i64 s.pods.length),(11,.int .i64 i)]),
 Goes cfg a41 k41_0 T ⟨(encSt s).cells::ex,tkR encPd acc,[]⟩ (IsRet (rowF encPd (acc++post.filter (onP name)))):=by
 intro post
 induction post with
 |nil=>
  intro i hd acc ha ex T hT
  have hge:=drop_ge hd
  rw[show acc++([]:List Pod).filter (onP name)=acc by simp]
  exact goG 60 _ hT (.no (decide_eq_false (p:=(↑i:Int)<(↑s.pods.length:Int)) (by omega))<|.fin ((.ret (.sl (skF acc) (acc.map encPd)),{boxes:=[.sl .sh (s.nodes.map encN),.sl .sh (s.pods.map encPd),.sl .sh (s.buds.map encB)]::ex,toks:=tkR encPd acc,loops:=[]:Heap})) rfl) (by kernel_rfl)
 |cons x post ih=>
  intro i hd acc ha ex T hT
  have hlt:=drop_lt hd
  have hnx:=drop_next hd
  by_cases hq:onP name x=true
  ·have e:acc++(x::post).filter (onP name)=(acc++[x])++post.filter (onP name):=by simp[List.filter_cons,hq]
   rw[e]
   have ih':=ih (i+1) hnx (acc++[x]) (by simp;omega) (ex++[(encPd x).cells])
   have ap:∀bs ls,appendA 11 184 ⟨bs,tkR encPd acc,ls⟩ (rowF encPd acc) (.sl .full [encPd x])=some (rowF encPd (acc++[x]),⟨bs,tkR encPd (acc++[x]),ls⟩):=fun bs ls=>
    row_append_T encPd (x:=x) (by simp;omega) lenPd rfl rfl
   unfold onP at hq
   simp only[Bool.and_eq_true,beq_iff_eq,Bool.not_eq_true',beq_eq_false_iff_ne]at hq
   obtain⟨q1,q2⟩:=hq
   exact let ζ1:List AV:=[.str x.name,.str x.owner,.int .i64 x.prio,.sl .sh (x.need.map encA),.sl .sh (x.labels.map encP),.sl .sh (x.sel.map encM),.sl .sh (x.tols.map encL),.str x.key,.int .i64 x.most,.str x.node,.bool x.hold];let ζ2:List AV:=[.sl .sh (s.nodes.map encN),.sl .sh (s.pods.map encPd),.sl .sh (s.buds.map encB)];let ζ3:Heap:={boxes:=ζ2::(ex++[ζ1]),toks:=tkR encPd acc,loops:=[]:Heap};let ζ4:List AV:=[.str [],.str [],.int .i64 0,.sl .full [],.sl .full [],.sl .full [],.sl .full [],.str [],.int .i64 0,.str [],.bool false];let ζ5:Heap:={boxes:=ζ2::(ex++[ζ1]),toks:=tkR encPd (acc++[x]),loops:=[]:Heap};goG 120 _ hT (.yes (decide_eq_true (p:=(↑i:Int)<(↑s.pods.length:Int)) (by omega))<|.idx (show idxA 11 (.sl .sh (s.pods.map encPd)) (.int .i64 ↑i)=some (.ref (encPd x).cells)from idx_row hd (by rfl))<|.load (rfl:loadA true 11 {boxes:=ζ2::ex,toks:=tkR encPd acc,loops:=[]:Heap} (.ref ζ1)=some (.agg ζ1))<|.store (show storeA 11 {boxes:=ζ2::(ex++[ζ4]),toks:=tkR encPd acc,loops:=[]:Heap} (.ptr (ζ2::ex).length (0:Nat)) (.agg ζ1)=some (ζ3)from store_box2 (cs:=ζ4) (cs':=ζ1) (by simp+zetaDelta) rfl (by simp+zetaDelta [List.set_append]))<|.load (show loadA false 1 ζ3 (.ptr (ζ2::ex).length (9:Nat))=some (.str x.node)from load_box (cs:=ζ1) (by simp+zetaDelta) rfl)<|.yes (show(x.node==name)=true from(by simpa using q1))<|.yes (show(!name==[])=true from by have hh:¬((name==[])=true):=(by simpa using q2);simp[hh])<|.load (show loadA true 11 ζ3 (.ptr (ζ2::ex).length (0:Nat))=some (.agg ζ1)from load_box (cs:=ζ1) (by simp+zetaDelta) rfl)<|.append (show appendA (11:Nat) (184:Nat) ζ3 (.sl (skF acc) (acc.map encPd)) (.sl .full [.agg ζ1])=some ((rowF encPd (acc++[x]),ζ5))from ap _ _)<|.bin (show binA .add (.int .i64 ↑i) (.int .i64 1)=some (.int .i64 (↑(i+1)))from inc_i (by omega))<|.cutQ k41_0 [(1,.str name),(5,.sl (skF (acc++[x])) (List.map encPd (acc++[x]))),(9,.sl .sh (s.pods.map encPd)),(10,.int .i64 (↑s.pods.length)),(11,.int .i64 (↑(i+1)))] (ζ5) (fun T hT=>(ih' T hT))) (by kernel_rfl)
  ·have e:acc++(x::post).filter (onP name)=acc++post.filter (onP name):=by simp[List.filter_cons,hq]
   rw[e]
   have ih':=ih (i+1) hnx acc (by omega) (ex++[(encPd x).cells])
   by_cases q1:x.node=name
   ·have q2:name=[]:=by
     unfold onP at hq
     simpa[q1]using hq
    exact let ζ1:List AV:=[.str x.name,.str x.owner,.int .i64 x.prio,.sl .sh (x.need.map encA),.sl .sh (x.labels.map encP),.sl .sh (x.sel.map encM),.sl .sh (x.tols.map encL),.str x.key,.int .i64 x.most,.str x.node,.bool x.hold];let ζ2:List AV:=[.sl .sh (s.nodes.map encN),.sl .sh (s.pods.map encPd),.sl .sh (s.buds.map encB)];let ζ3:List AV:=[.str [],.str [],.int .i64 0,.sl .full [],.sl .full [],.sl .full [],.sl .full [],.str [],.int .i64 0,.str [],.bool false];let ζ4:Heap:={boxes:=ζ2::(ex++[ζ1]),toks:=tkR encPd acc,loops:=[]:Heap};goG 120 _ hT (.yes (decide_eq_true (p:=(↑i:Int)<(↑s.pods.length:Int)) (by omega))<|.idx (show idxA 11 (.sl .sh (s.pods.map encPd)) (.int .i64 ↑i)=some (.ref (encPd x).cells)from idx_row hd (by rfl))<|.load (rfl:loadA true 11 {boxes:=ζ2::ex,toks:=tkR encPd acc,loops:=[]:Heap} (.ref ζ1)=some (.agg ζ1))<|.store (show storeA 11 {boxes:=ζ2::(ex++[ζ3]),toks:=tkR encPd acc,loops:=[]:Heap} (.ptr (ζ2::ex).length (0:Nat)) (.agg ζ1)=some (ζ4)from store_box2 (cs:=ζ3) (cs':=ζ1) (by simp+zetaDelta) rfl (by simp+zetaDelta [List.set_append]))<|.load (show loadA false 1 ζ4 (.ptr (ζ2::ex).length (9:Nat))=some (.str x.node)from load_box (cs:=ζ1) (by simp+zetaDelta) rfl)<|.yes (show(x.node==name)=true from(by simpa using q1))<|.no (show(!name==[])=false from by have hh:(name==[])=true:=(by simpa using q2);simp[hh])<|.bin (show binA .add (.int .i64 ↑i) (.int .i64 1)=some (.int .i64 (↑(i+1)))from inc_i (by omega))<|.cutQ k41_0 [(1,.str name),(5,.sl (skF acc) (acc.map encPd)),(9,.sl .sh (s.pods.map encPd)),(10,.int .i64 (↑s.pods.length)),(11,.int .i64 (↑(i+1)))] (ζ4) (fun T hT=>(ih' T hT))) (by kernel_rfl)
   ·exact let ζ1:List AV:=[.str x.name,.str x.owner,.int .i64 x.prio,.sl .sh (x.need.map encA),.sl .sh (x.labels.map encP),.sl .sh (x.sel.map encM),.sl .sh (x.tols.map encL),.str x.key,.int .i64 x.most,.str x.node,.bool x.hold];let ζ2:List AV:=[.sl .sh (s.nodes.map encN),.sl .sh (s.pods.map encPd),.sl .sh (s.buds.map encB)];let ζ3:List AV:=[.str [],.str [],.int .i64 0,.sl .full [],.sl .full [],.sl .full [],.sl .full [],.str [],.int .i64 0,.str [],.bool false];let ζ4:Heap:={boxes:=ζ2::(ex++[ζ1]),toks:=tkR encPd acc,loops:=[]:Heap};goG 120 _ hT (.yes (decide_eq_true (p:=(↑i:Int)<(↑s.pods.length:Int)) (by omega))<|.idx (show idxA 11 (.sl .sh (s.pods.map encPd)) (.int .i64 ↑i)=some (.ref (encPd x).cells)from idx_row hd (by rfl))<|.load (rfl:loadA true 11 {boxes:=ζ2::ex,toks:=tkR encPd acc,loops:=[]:Heap} (.ref ζ1)=some (.agg ζ1))<|.store (show storeA 11 {boxes:=ζ2::(ex++[ζ3]),toks:=tkR encPd acc,loops:=[]:Heap} (.ptr (ζ2::ex).length (0:Nat)) (.agg ζ1)=some (ζ4)from store_box2 (cs:=ζ3) (cs':=ζ1) (by simp+zetaDelta) rfl (by simp+zetaDelta [List.set_append]))<|.load (show loadA false 1 ζ4 (.ptr (ζ2::ex).length (9:Nat))=some (.str x.node)from load_box (cs:=ζ1) (by simp+zetaDelta) rfl)<|.no (show(x.node==name)=false from Bool.eq_false_iff.2 (by simpa using q1))<|.ff<|.bin (show binA .add (.int .i64 ↑i) (.int .i64 1)=some (.int .i64 (↑(i+1)))from inc_i (by omega))<|.cutQ k41_0 [(1,.str name),(5,.sl (skF acc) (acc.map encPd)),(9,.sl .sh (s.pods.map encPd)),(10,.int .i64 (↑s.pods.length)),(11,.int .i64 (↑(i+1)))] (ζ4) (fun T hT=>(ih' T hT))) (by kernel_rfl)
theorem on_any(s:St)(name:List UInt8)(hs:s.pods.length≤1000):Gives cfg 41 [encSt s,.str name] (rowF encPd (onS s name)):=by
 refine Gives.run (l41 _ _) ?_
 have h:=on_loop s name hs s.pods 0 rfl [] (by simp) []
 have e:rowF encPd ([]:List Pod)=.sl .full []:=rfl
 rw[e,tk_nil,List.nil_append]at h
 exact goG 60 [] trivial (.len (show lenA false (.sl .sh (s.pods.map encPd))=some (.int .i64 (↑s.pods.length))from len_map _)<|.cutQ k41_0 [(1,.str name),(5,.sl .full []),(9,.sl .sh (s.pods.map encPd)),(10,.int .i64 (↑s.pods.length)),(11,.int .i64 0)] ({boxes:=[[.sl .sh (s.nodes.map encN),.sl .sh (s.pods.map encPd),.sl .sh (s.buds.map encB)]],toks:=[],loops:=[]:Heap}) (fun T hT=>(h T hT))) (by kernel_rfl)
theorem on_ref_loop(s:St)(name:List UInt8)(hs:s.pods.length≤1000):∀(post:List Pod)(i:Nat)(hd:s.pods.drop i=post)(acc:List Pod)(ha:acc.length≤i)(T:Env)
 (hT:Has T [(1,.str name),(2,.ptr 0 0),(5,rowF encPd acc),(6,.int .i64 i)]),
 Goes cfg a42 k42_0 T ⟨[(encSt s).cells],tkR encPd acc,[]⟩ (IsRet (rowF encPd (acc++post.filter (onP name)))):=by
 intro post
 induction post with
 |nil=>
  intro i hd acc ha T hT
  have hge:=drop_ge hd
  rw[show acc++([]:List Pod).filter (onP name)=acc by simp]
  exact goG 60 _ hT (.len (show lenA false (.sl .sh (s.pods.map encPd))=some (.int .i64 (↑s.pods.length))from len_map _)<|.no (decide_eq_false (p:=(↑i:Int)<(↑s.pods.length:Int)) (by omega))<|.fin ((.ret (.sl (skF acc) (acc.map encPd)),{boxes:=[[.sl .sh (s.nodes.map encN),.sl .sh (s.pods.map encPd),.sl .sh (s.buds.map encB)]],toks:=tkR encPd acc,loops:=[]:Heap})) rfl) (by kernel_rfl)
 |cons x post ih=>
  intro i hd acc ha T hT
  have hlt:=drop_lt hd
  have hnx:=drop_next hd
  by_cases hq:onP name x=true
  ·have e:acc++(x::post).filter (onP name)=(acc++[x])++post.filter (onP name):=by simp[List.filter_cons,hq]
   rw[e]
   have ih':=ih (i+1) hnx (acc++[x]) (by simp;omega)
   have ap:∀bs ls,appendA 11 184 ⟨bs,tkR encPd acc,ls⟩ (rowF encPd acc) (.sl .full [encPd x])=some (rowF encPd (acc++[x]),⟨bs,tkR encPd (acc++[x]),ls⟩):=fun bs ls=>
    row_append_T encPd (x:=x) (by simp;omega) lenPd rfl rfl
   unfold onP at hq
   simp only[Bool.and_eq_true,beq_iff_eq,Bool.not_eq_true',beq_eq_false_iff_ne]at hq
   obtain⟨q1,q2⟩:=hq
   exact let ζ1:List (List AV):=[[.sl .sh (s.nodes.map encN),.sl .sh (s.pods.map encPd),.sl .sh (s.buds.map encB)]];let ζ2:Heap:={boxes:=ζ1,toks:=tkR encPd (acc++[x]),loops:=[]:Heap};goG 120 _ hT (.len (show lenA false (.sl .sh (s.pods.map encPd))=some (.int .i64 (↑s.pods.length))from len_map _)<|.yes (decide_eq_true (p:=(↑i:Int)<(↑s.pods.length:Int)) (by omega))<|.idx (show idxA 11 (.sl .sh (s.pods.map encPd)) (.int .i64 ↑i)=some (.ref (encPd x).cells)from idx_row hd (by rfl))<|.yes (show(x.node==name)=true from(by simpa using q1))<|.yes (show(!name==[])=true from by have hh:¬((name==[])=true):=(by simpa using q2);simp[hh])<|.idx (show idxA 11 (.sl .sh (s.pods.map encPd)) (.int .i64 ↑i)=some (.ref (encPd x).cells)from idx_row hd (by rfl))<|.append (show appendA (11:Nat) (184:Nat) {boxes:=ζ1,toks:=tkR encPd acc,loops:=[]:Heap} (.sl (skF acc) (acc.map encPd)) (.sl .full [.agg [.str x.name,.str x.owner,.int .i64 x.prio,.sl .sh (x.need.map encA),.sl .sh (x.labels.map encP),.sl .sh (x.sel.map encM),.sl .sh (x.tols.map encL),.str x.key,.int .i64 x.most,.str x.node,.bool x.hold]])=some ((rowF encPd (acc++[x]),ζ2))from ap _ _)<|.bin (show binA .add (.int .i64 ↑i) (.int .i64 1)=some (.int .i64 (↑(i+1)))from inc_i (by omega))<|.cutQ k42_0 [(1,.str name),(2,.ptr 0 0),(5,.sl (skF (acc++[x])) (List.map encPd (acc++[x]))),(6,.int .i64 (↑(i+1)))] (ζ2) (fun T hT=>(ih' T hT))) (by kernel_rfl)
  ·have e:acc++(x::post).filter (onP name)=acc++post.filter (onP name):=by simp[List.filter_cons,hq]
   rw[e]
   have ih':=ih (i+1) hnx acc (by omega)
   by_cases q1:x.node=name
   ·have q2:name=[]:=by
     unfold onP at hq
     simpa[q1]using hq
    exact goG 120 _ hT (.len (show lenA false (.sl .sh (s.pods.map encPd))=some (.int .i64 (↑s.pods.length))from len_map _)<|.yes (decide_eq_true (p:=(↑i:Int)<(↑s.pods.length:Int)) (by omega))<|.idx (show idxA 11 (.sl .sh (s.pods.map encPd)) (.int .i64 ↑i)=some (.ref (encPd x).cells)from idx_row hd (by rfl))<|.yes (show(x.node==name)=true from(by simpa using q1))<|.no (show(!name==[])=false from by have hh:(name==[])=true:=(by simpa using q2);simp[hh])<|.bin (show binA .add (.int .i64 ↑i) (.int .i64 1)=some (.int .i64 (↑(i+1)))from inc_i (by omega))<|.cutQ k42_0 [(1,.str name),(2,.ptr 0 0),(5,.sl (skF acc) (acc.map encPd)),(6,.int .i64 (↑(i+1)))] ({boxes:=[[.sl .sh (s.nodes.map encN),.sl .sh (s.pods.map encPd),.sl .sh (s.buds.map encB)]],toks:=tkR encPd acc,loops:=[]:Heap}) (fun T hT=>(ih' T hT))) (by kernel_rfl)
   ·exact goG 120 _ hT (.len (show lenA false (.sl .sh (s.pods.map encPd))=some (.int .i64 (↑s.pods.length))from len_map _)<|.yes (decide_eq_true (p:=(↑i:Int)<(↑s.pods.length:Int)) (by omega))<|.idx (show idxA 11 (.sl .sh (s.pods.map encPd)) (.int .i64 ↑i)=some (.ref (encPd x).cells)from idx_row hd (by rfl))<|.no (show(x.node==name)=false from Bool.eq_false_iff.2 (by simpa using q1))<|.ff<|.bin (show binA .add (.int .i64 ↑i) (.int .i64 1)=some (.int .i64 (↑(i+1)))from inc_i (by omega))<|.cutQ k42_0 [(1,.str name),(2,.ptr 0 0),(5,.sl (skF acc) (acc.map encPd)),(6,.int .i64 (↑(i+1)))] ({boxes:=[[.sl .sh (s.nodes.map encN),.sl .sh (s.pods.map encPd),.sl .sh (s.buds.map encB)]],toks:=tkR encPd acc,loops:=[]:Heap}) (fun T hT=>(ih' T hT))) (by kernel_rfl)
theorem on_ref(s:St)(name:List UInt8)(hs:s.pods.length≤1000):Gives cfg 42 [encSt s,.str name] (rowF encPd (onS s name)):=by
 refine Gives.run (l42 _ _) ?_
 have h:=on_ref_loop s name hs s.pods 0 rfl [] (by simp)
 have e:rowF encPd ([]:List Pod)=.sl .full []:=rfl
 rw[e,tk_nil,List.nil_append]at h
 exact goG 60 [] trivial (.cutQ k42_0 [(1,.str name),(2,.ptr 0 0),(5,.sl .full []),(6,.int .i64 0)] ({boxes:=[[.sl .sh (s.nodes.map encN),.sl .sh (s.pods.map encPd),.sl .sh (s.buds.map encB)]],toks:=[],loops:=[]:Heap}) (fun T hT=>(h T hT))) (by kernel_rfl)
def usedS(s:St)(name:List UInt8):List Amount×Int:=match findG Node.name s.nodes name with
 |none=>([],3)
 |some _=>sumG [] ((onS s name).map (·.need))
theorem on_mem{s:St}{name:List UInt8}{p:Pod}(h:p∈onS s name):p∈s.pods:=(List.mem_filter.1 h).1
theorem on_len(s:St)(name:List UInt8):(onS s name).length≤s.pods.length:=List.length_filter_le _ _
theorem used_any(s:St)(name:List UInt8)(hs:StIn s):∃c,Gives cfg 33 [encSt s,.str name] (resV c (usedS s name)):=by
 have h1:=findN_any s.nodes name hs.nodes
 cases hf:findG Node.name s.nodes name with
 |none=>
  rw[hf]at h1
  have e:usedS s name=([],3):=by unfold usedS;rw[hf]
  rw[e]
  refine⟨false,Gives.run (l33 _ _) ?_⟩
  exact let ζ1:List AV:=[.str [],.sl .sh [],.sl .sh [],.sl .sh [],.bool false];let ζ2:List AV:=[.sl .sh (s.nodes.map encN),.str name];goG 60 [] trivial (.callK (ζ2) (.tuple [.agg ζ1,.bool false]) (show Gives cfg (79:FuncId) ζ2 (findNV none)from h1)<|.tt<|.fin ((.ret (.tuple [.sl .full [],.int .i64 3]),{boxes:=[[.sl .sh (s.nodes.map encN),.sl .sh (s.pods.map encPd),.sl .sh (s.buds.map encB)],ζ1],toks:=[],loops:=[]:Heap})) rfl) (by kernel_rfl)
 |some n=>
  rw[hf]at h1
  have e:usedS s name=sumG [] ((onS s name).map (·.need)):=by unfold usedS;rw[hf]
  rw[e]
  have h2:=on_any s name hs.pods
  obtain⟨c,h3⟩:=sumP_any (onS s name) (by have:=on_len s name;have:=hs.pods;omega) (fun p hp=>hs.need p (on_mem hp))
  generalize sumG [] ((onS s name).map (·.need))=z at h3⊢
  refine⟨true,Gives.run (l33 _ _) ?_⟩
  exact let ζ1:List AV:=[.str n.name,.sl .sh (n.cap.map encA),.sl .sh (n.labels.map encP),.sl .sh (n.taints.map encT),.bool n.cordon];let ζ2:List AV:=[.sl .sh (s.nodes.map encN),.sl .sh (s.pods.map encPd),.sl .sh (s.buds.map encB)];let ζ3:List AV:=[.sl .sh (z.fst.map encA),.int .i64 z.snd];let ζ4:List AV:=[.sl .sh (s.nodes.map encN),.str name];goG 90 [] trivial (.callK (ζ4) (.tuple [.agg ζ1,.bool true]) (show Gives cfg (79:FuncId) ζ4 (findNV (some n))from h1)<|.ff<|.callG ([.agg ζ2,.str name]) (.sl .sh (List.map encPd (onS s name))) (show Gives cfg (41:FuncId) [encSt s,.str name] (rowF encPd (onS s name))from h2) ⟨rfl,rfl⟩ Res.p<|.callG ([.sl .sh (List.map encPd (onS s name)),.func (107:Nat) []]) (.tuple ζ3) (show Gives cfg (106:FuncId) [.sl .sh (List.map encPd (onS s name)),.func (107:FuncId) []] (resV c z)from h3) ⟨rfl,rfl⟩ Res.p<|.fin ((.ret (.tuple ζ3),{boxes:=[ζ2,ζ1],toks:=[],loops:=[]:Heap})) rfl) (by kernel_rfl)
def usedR(s:St)(name:List UInt8):List Amount×Int:=match findG Node.name s.nodes name with
 |none=>([],3)
 |some _=>sumG [] ((s.pods.filter fun p=>p.node==name).map (·.need))
theorem used_ref_loop(s:St)(name:List UInt8)(hs:StIn s)(nc:List AV):∀(post:List Pod)(i:Nat)(hd:s.pods.drop i=post)(acc:List Amount)(ha:acc.length≤8∧rgA acc)(c:Bool)(T:Env)
 (hT:Has T [(1,.str name),(2,.ptr 0 0),(8,.sl (kq c) (acc.map encA)),(9,.int .i64 i)]),
 Goes cfg a34 k34_0 T ⟨[(encSt s).cells,nc],[],[]⟩ (RetV (sumG acc ((post.filter fun p=>p.node==name).map (·.need)))):=by
 intro post
 induction post with
 |nil=>
  intro i hd acc ha c T hT
  have hge:=drop_ge hd
  have hp:=hs.pods
  have e:sumG acc (((([]:List Pod).filter fun p=>p.node==name)).map (·.need))=(acc,0):=rfl
  rw[e]
  exact goG 60 _ hT (.len (show lenA false (.sl .sh (s.pods.map encPd))=some (.int .i64 (↑s.pods.length))from len_map _)<|.no (decide_eq_false (p:=(↑i:Int)<(↑s.pods.length:Int)) (by omega))<|.fin ((.ret (.tuple [.sl (kq c) (acc.map encA),.int .i64 0]),{boxes:=[[.sl .sh (s.nodes.map encN),.sl .sh (s.pods.map encPd),.sl .sh (s.buds.map encB)],nc],toks:=[],loops:=[]:Heap})) (by exact⟨c,rfl⟩)) (by kernel_rfl)
 |cons x post ih=>
  intro i hd acc ha c T hT
  have hlt:=drop_lt hd
  have hnx:=drop_next hd
  have hp:=hs.pods
  have hxi:idxA 11 (.sl .sh (s.pods.map encPd)) (.int .i64 (i:Nat))=some (.ref (encPd x).cells):=idx_row (f:=encPd) hd rfl
  by_cases hq:x.node=name
  ·have e:((x::post).filter fun p=>p.node==name).map (·.need)=x.need::(post.filter fun p=>p.node==name).map (·.need):=by simp[List.filter_cons,hq]
   rw[e]
   have hx:=hs.need x (drop_mem hd)
   obtain⟨c2,h2⟩:=addR acc x.need (by omega) hx.len ha.2 hx.rg
   have hr:=addV_rg acc x.need
   have e2:sumG acc (x.need::(post.filter fun p=>p.node==name).map (·.need))=if(addV acc x.need).2=0 then sumG (addV acc x.need).1 ((post.filter fun p=>p.node==name).map (·.need))else([],(addV acc x.need).2):=rfl
   rw[e2]
   generalize addV acc x.need=z at h2 hr⊢
   obtain⟨w,er⟩:=z
   simp only at h2 hr⊢
   by_cases h0:er=0
   ·subst h0
    rw[if_pos rfl]
    have ih':=ih (i+1) hnx w ⟨hr.2,hr.1⟩ true
    have ek:kq true=.sh:=rfl
    rw[ek]at ih'
    exact goG 120 _ hT (.len (show lenA false (.sl .sh (s.pods.map encPd))=some (.int .i64 (↑s.pods.length))from len_map _)<|.yes (decide_eq_true (p:=(↑i:Int)<(↑s.pods.length:Int)) (by omega))<|.idx (show idxA 11 (.sl .sh (s.pods.map encPd)) (.int .i64 ↑i)=some (.ref (encPd x).cells)from hxi)<|.no (show(!x.node==name)=false from by have hh:(x.node==name)=true:=(by simpa using hq);simp[hh])<|.idx (show idxA 11 (.sl .sh (s.pods.map encPd)) (.int .i64 ↑i)=some (.ref (encPd x).cells)from hxi)<|.callG ([.sl (kq c) (acc.map encA),.sl .sh (x.need.map encA)]) (.tuple [.sl .sh (List.map encA (w,(0:Int)).fst),.int .i64 (w,(0:Int)).snd]) (show Gives cfg (108:FuncId) [.sl .sh (acc.map encA),.sl .sh (x.need.map encA)] (resV c2 (w,(0:Int)))from h2) Shuts.p Res.p<|.ff<|.bin (show binA .add (.int .i64 ↑i) (.int .i64 1)=some (.int .i64 (↑(i+1)))from inc_i (by omega))<|.cutQ k34_0 [(1,.str name),(2,.ptr 0 0),(8,.sl .sh (List.map encA (w,(0:Int)).fst)),(9,.int .i64 (↑(i+1)))] ({boxes:=[[.sl .sh (s.nodes.map encN),.sl .sh (s.pods.map encPd),.sl .sh (s.buds.map encB)],nc],toks:=[],loops:=[]:Heap}) (fun T hT=>(ih' T hT))) (by kernel_rfl)
   ·rw[if_neg h0]
    exact goG 120 _ hT (.len (show lenA false (.sl .sh (s.pods.map encPd))=some (.int .i64 (↑s.pods.length))from len_map _)<|.yes (decide_eq_true (p:=(↑i:Int)<(↑s.pods.length:Int)) (by omega))<|.idx (show idxA 11 (.sl .sh (s.pods.map encPd)) (.int .i64 ↑i)=some (.ref (encPd x).cells)from hxi)<|.no (show(!x.node==name)=false from by have hh:(x.node==name)=true:=(by simpa using hq);simp[hh])<|.idx (show idxA 11 (.sl .sh (s.pods.map encPd)) (.int .i64 ↑i)=some (.ref (encPd x).cells)from hxi)<|.callG ([.sl (kq c) (acc.map encA),.sl .sh (x.need.map encA)]) (.tuple [.sl .sh (List.map encA (w,er).fst),.int .i64 (w,er).snd]) (show Gives cfg (108:FuncId) [.sl .sh (acc.map encA),.sl .sh (x.need.map encA)] (resV c2 (w,er))from h2) Shuts.p Res.p<|.yes (show((w,er).snd !=(0:Int))=true from(by simpa using h0))<|.fin ((.ret (.tuple [.sl .full [],.int .i64 (w,er).snd]),{boxes:=[[.sl .sh (s.nodes.map encN),.sl .sh (s.pods.map encPd),.sl .sh (s.buds.map encB)],nc],toks:=[],loops:=[]:Heap})) (by exact⟨false,rfl⟩)) (by kernel_rfl)
  ·have e:((x::post).filter fun p=>p.node==name).map (·.need)=(post.filter fun p=>p.node==name).map (·.need):=by simp[List.filter_cons,hq]
   rw[e]
   have ih':=ih (i+1) hnx acc ha c
   exact goG 120 _ hT (.len (show lenA false (.sl .sh (s.pods.map encPd))=some (.int .i64 (↑s.pods.length))from len_map _)<|.yes (decide_eq_true (p:=(↑i:Int)<(↑s.pods.length:Int)) (by omega))<|.idx (show idxA 11 (.sl .sh (s.pods.map encPd)) (.int .i64 ↑i)=some (.ref (encPd x).cells)from hxi)<|.yes (show(!x.node==name)=true from by have hh:¬((x.node==name)=true):=(by simpa using hq);simp[hh])<|.bin (show binA .add (.int .i64 ↑i) (.int .i64 1)=some (.int .i64 (↑(i+1)))from inc_i (by omega))<|.cutQ k34_0 [(1,.str name),(2,.ptr 0 0),(8,.sl (kq c) (acc.map encA)),(9,.int .i64 (↑(i+1)))] ({boxes:=[[.sl .sh (s.nodes.map encN),.sl .sh (s.pods.map encPd),.sl .sh (s.buds.map encB)],nc],toks:=[],loops:=[]:Heap}) (fun T hT=>(ih' T hT))) (by kernel_rfl)
theorem used_ref(s:St)(name:List UInt8)(hs:StIn s):∃c,Gives cfg 34 [encSt s,.str name] (resV c (usedR s name)):=by
 have h1:=findN_ref s.nodes name hs.nodes
 refine RetV.gives (l34 _ _) ?_
 cases hf:findG Node.name s.nodes name with
 |none=>
  rw[hf]at h1
  have e:usedR s name=([],3):=by unfold usedR;rw[hf]
  rw[e]
  exact let ζ1:List AV:=[.str [],.sl .sh [],.sl .sh [],.sl .sh [],.bool false];let ζ2:List AV:=[.sl .sh (s.nodes.map encN),.str name];goG 60 [] trivial (.callK (ζ2) (.tuple [.agg ζ1,.bool false]) (show Gives cfg (84:FuncId) ζ2 (findNV none)from h1)<|.tt<|.fin ((.ret (.tuple [.sl .full [],.int .i64 3]),{boxes:=[[.sl .sh (s.nodes.map encN),.sl .sh (s.pods.map encPd),.sl .sh (s.buds.map encB)],ζ1],toks:=[],loops:=[]:Heap})) (by exact⟨false,rfl⟩)) (by kernel_rfl)
 |some n=>
  rw[hf]at h1
  have e:usedR s name=sumG [] ((s.pods.filter fun p=>p.node==name).map (·.need)):=by unfold usedR;rw[hf]
  rw[e]
  have h2:=used_ref_loop s name hs (encN n).cells s.pods 0 rfl [] ⟨by simp,fun x hx=>by cases hx⟩ false
  have ek:kq false=.full:=rfl
  rw[ek]at h2
  exact let ζ1:List AV:=[.str n.name,.sl .sh (n.cap.map encA),.sl .sh (n.labels.map encP),.sl .sh (n.taints.map encT),.bool n.cordon];let ζ2:List AV:=[.sl .sh (s.nodes.map encN),.str name];goG 90 [] trivial (.callK (ζ2) (.tuple [.agg ζ1,.bool true]) (show Gives cfg (84:FuncId) ζ2 (findNV (some n))from h1)<|.ff<|.cutQ k34_0 [(1,.str name),(2,.ptr 0 0),(8,.sl .full []),(9,.int .i64 0)] ({boxes:=[[.sl .sh (s.nodes.map encN),.sl .sh (s.pods.map encPd),.sl .sh (s.buds.map encB)],ζ1],toks:=[],loops:=[]:Heap}) (fun T hT=>(h2 T hT))) (by kernel_rfl)
theorem used_same(s:St){name:List UInt8}(h:name≠[]):usedR s name=usedS s name:=by
 unfold usedR usedS onS
 have e:(s.pods.filter fun p=>p.node==name)=s.pods.filter (onP name):=by
  refine List.filter_congr fun p _=> ?_
  simp[onP,h]
 rw[e]
def totalS(s:St):List Amount×Int:=sumG [] (s.nodes.map (·.cap))
theorem total_any(s:St)(hs:StIn s):∃c,Gives cfg 39 [encSt s] (resV c (totalS s)):=by
 obtain⟨c,h3⟩:=sumN_any s.nodes hs.nodes hs.cap
 unfold totalS
 generalize sumG [] (s.nodes.map (·.cap))=z at h3⊢
 refine⟨true,Gives.run (l39 _ _) ?_⟩
 exact let ζ1:List AV:=[.sl .sh (z.fst.map encA),.int .i64 z.snd];goG 90 [] trivial (.callG ([.sl .sh (s.nodes.map encN),.func (112:Nat) []]) (.tuple ζ1) (show Gives cfg (111:FuncId) [.sl .sh (s.nodes.map encN),.func (112:FuncId) []] (resV c z)from h3) ⟨rfl,rfl⟩ Res.p<|.fin ((.ret (.tuple ζ1),{boxes:=[[.sl .sh (s.nodes.map encN),.sl .sh (s.pods.map encPd),.sl .sh (s.buds.map encB)]],toks:=[],loops:=[]:Heap})) rfl) (by kernel_rfl)
theorem total_ref_loop(s:St)(hs:StIn s):∀(post:List Node)(i:Nat)(hd:s.nodes.drop i=post)(acc:List Amount)(ha:acc.length≤8∧rgA acc)(c:Bool)(T:Env)
 (hT:Has T [(1,.ptr 0 0),(4,.sl (kq c) (acc.map encA)),(5,.int .i64 i)]),
 Goes cfg a40 k40_0 T ⟨[(encSt s).cells],[],[]⟩ (RetV (sumG acc (post.map (·.cap)))):=by
 intro post
 induction post with
 |nil=>
  intro i hd acc ha c T hT
  have hge:=drop_ge hd
  have hp:=hs.nodes
  have e:sumG acc (([]:List Node).map (·.cap))=(acc,0):=rfl
  rw[e]
  exact goG 60 _ hT (.len (show lenA false (.sl .sh (s.nodes.map encN))=some (.int .i64 (↑s.nodes.length))from len_map _)<|.no (decide_eq_false (p:=(↑i:Int)<(↑s.nodes.length:Int)) (by omega))<|.fin ((.ret (.tuple [.sl (kq c) (acc.map encA),.int .i64 0]),{boxes:=[[.sl .sh (s.nodes.map encN),.sl .sh (s.pods.map encPd),.sl .sh (s.buds.map encB)]],toks:=[],loops:=[]:Heap})) (by exact⟨c,rfl⟩)) (by kernel_rfl)
 |cons x post ih=>
  intro i hd acc ha c T hT
  have hlt:=drop_lt hd
  have hnx:=drop_next hd
  have hp:=hs.nodes
  have hxi:idxA 5 (.sl .sh (s.nodes.map encN)) (.int .i64 (i:Nat))=some (.ref (encN x).cells):=idx_row (f:=encN) hd rfl
  have hx:=hs.cap x (drop_mem hd)
  obtain⟨c2,h2⟩:=addR acc x.cap (by omega) hx.len ha.2 hx.rg
  have hr:=addV_rg acc x.cap
  have e2:sumG acc ((x::post).map (·.cap))=if(addV acc x.cap).2=0 then sumG (addV acc x.cap).1 (post.map (·.cap))else([],(addV acc x.cap).2):=rfl
  rw[e2]
  generalize addV acc x.cap=z at h2 hr⊢
  obtain⟨w,er⟩:=z
  simp only at h2 hr⊢
  by_cases h0:er=0
  ·subst h0
   rw[if_pos rfl]
   have ih':=ih (i+1) hnx w ⟨hr.2,hr.1⟩ true
   have ek:kq true=.sh:=rfl
   rw[ek]at ih'
   exact goG 120 _ hT (.len (show lenA false (.sl .sh (s.nodes.map encN))=some (.int .i64 (↑s.nodes.length))from len_map _)<|.yes (decide_eq_true (p:=(↑i:Int)<(↑s.nodes.length:Int)) (by omega))<|.idx (show idxA 5 (.sl .sh (s.nodes.map encN)) (.int .i64 ↑i)=some (.ref (encN x).cells)from hxi)<|.callG ([.sl (kq c) (acc.map encA),.sl .sh (x.cap.map encA)]) (.tuple [.sl .sh (List.map encA (w,(0:Int)).fst),.int .i64 (w,(0:Int)).snd]) (show Gives cfg (108:FuncId) [.sl .sh (acc.map encA),.sl .sh (x.cap.map encA)] (resV c2 (w,(0:Int)))from h2) Shuts.p Res.p<|.ff<|.bin (show binA .add (.int .i64 ↑i) (.int .i64 1)=some (.int .i64 (↑(i+1)))from inc_i (by omega))<|.cutQ k40_0 [(1,.ptr 0 0),(4,.sl .sh (List.map encA (w,(0:Int)).fst)),(5,.int .i64 (↑(i+1)))] ({boxes:=[[.sl .sh (s.nodes.map encN),.sl .sh (s.pods.map encPd),.sl .sh (s.buds.map encB)]],toks:=[],loops:=[]:Heap}) (fun T hT=>(ih' T hT))) (by kernel_rfl)
  ·rw[if_neg h0]
   exact goG 120 _ hT (.len (show lenA false (.sl .sh (s.nodes.map encN))=some (.int .i64 (↑s.nodes.length))from len_map _)<|.yes (decide_eq_true (p:=(↑i:Int)<(↑s.nodes.length:Int)) (by omega))<|.idx (show idxA 5 (.sl .sh (s.nodes.map encN)) (.int .i64 ↑i)=some (.ref (encN x).cells)from hxi)<|.callG ([.sl (kq c) (acc.map encA),.sl .sh (x.cap.map encA)]) (.tuple [.sl .sh (List.map encA (w,er).fst),.int .i64 (w,er).snd]) (show Gives cfg (108:FuncId) [.sl .sh (acc.map encA),.sl .sh (x.cap.map encA)] (resV c2 (w,er))from h2) Shuts.p Res.p<|.yes (show((w,er).snd !=(0:Int))=true from(by simpa using h0))<|.fin ((.ret (.tuple [.sl .full [],.int .i64 (w,er).snd]),{boxes:=[[.sl .sh (s.nodes.map encN),.sl .sh (s.pods.map encPd),.sl .sh (s.buds.map encB)]],toks:=[],loops:=[]:Heap})) (by exact⟨false,rfl⟩)) (by kernel_rfl)
theorem total_ref(s:St)(hs:StIn s):∃c,Gives cfg 40 [encSt s] (resV c (totalS s)):=by
 refine RetV.gives (l40 _ _) ?_
 have h2:=total_ref_loop s hs s.nodes 0 rfl [] ⟨by simp,fun x hx=>by cases hx⟩ false
 have ek:kq false=.full:=rfl
 rw[ek]at h2
 unfold totalS
 exact goG 90 [] trivial (.cutQ k40_0 [(1,.ptr 0 0),(4,.sl .full []),(5,.int .i64 0)] ({boxes:=[[.sl .sh (s.nodes.map encN),.sl .sh (s.pods.map encPd),.sl .sh (s.buds.map encB)]],toks:=[],loops:=[]:Heap}) (fun T hT=>(h2 T hT))) (by kernel_rfl)
def capOf(s:St)(name:List UInt8):List Amount:=match findG Node.name s.nodes name with
 |none=>[]
 |some n=>n.cap
def freeG(u:List Amount×Int)(cap:List Amount):List Amount×Int:=if u.2=0 then subV cap u.1 else([],u.2)
def freeS(s:St)(name:List UInt8):List Amount×Int:=freeG (usedS s name) (capOf s name)
def freeR(s:St)(name:List UInt8):List Amount×Int:=freeG (usedR s name) (capOf s name)
theorem sumG_in:∀(vs:List (List Amount))(acc:List Amount),acc.length≤8∧rgA acc→(sumG acc vs).1.length≤8∧rgA (sumG acc vs).1
 |[],acc,h=>h
 |v::vs,acc,h=>by
  unfold sumG
  split
  ·exact sumG_in vs _ ⟨(addV_rg acc v).2,(addV_rg acc v).1⟩
  ·exact⟨by simp,fun x hx=>by cases hx⟩
theorem usedS_in(s:St)(name:List UInt8):(usedS s name).1.length≤8∧rgA (usedS s name).1:=by
 unfold usedS
 split
 ·exact⟨by simp,fun x hx=>by cases hx⟩
 ·exact sumG_in _ _ ⟨by simp,fun x hx=>by cases hx⟩
theorem usedR_in(s:St)(name:List UInt8):(usedR s name).1.length≤8∧rgA (usedR s name).1:=by
 unfold usedR
 split
 ·exact⟨by simp,fun x hx=>by cases hx⟩
 ·exact sumG_in _ _ ⟨by simp,fun x hx=>by cases hx⟩
theorem free_any(s:St)(name:List UInt8)(hs:StIn s):∃c,Gives cfg 37 [encSt s,.str name] (resV c (freeS s name)):=by
 have h1:=findN_any s.nodes name hs.nodes
 obtain⟨c,h2⟩:=used_any s name hs
 have hi:=usedS_in s name
 cases hf:findG Node.name s.nodes name with
 |none=>
  rw[hf]at h1
  have e:usedS s name=([],3):=by unfold usedS;rw[hf]
  rw[e]at h2
  have e:freeS s name=([],3):=by unfold freeS;rw[e];rfl
  rw[e]
  refine⟨false,Gives.run (l37 _ _) ?_⟩
  exact let ζ1:List AV:=[.sl .sh (s.nodes.map encN),.sl .sh (s.pods.map encPd),.sl .sh (s.buds.map encB)];let ζ2:List AV:=[.str [],.sl .sh [],.sl .sh [],.sl .sh [],.bool false];let ζ3:List AV:=[.sl .sh (s.nodes.map encN),.str name];goG 60 [] trivial (.callK (ζ3) (.tuple [.agg ζ2,.bool false]) (show Gives cfg (79:FuncId) ζ3 (findNV none)from h1)<|.callG ([.agg ζ1,.str name]) (.tuple [.sl .sh [],.int .i64 ([],(3:Int)).snd]) (show Gives cfg (33:FuncId) [encSt s,.str name] (resV c ([],(3:Int)))from h2) ⟨rfl,rfl⟩ Res.p<|.tt<|.fin ((.ret (.tuple [.sl .full [],.int .i64 ([],(3:Int)).snd]),{boxes:=[ζ1,ζ2],toks:=[],loops:=[]:Heap})) rfl) (by kernel_rfl)
 |some n=>
  rw[hf]at h1
  have e:freeS s name=freeG (usedS s name) n.cap:=by unfold freeS capOf;rw[hf]
  rw[e]
  have hn:=hs.cap n (findG_mem hf)
  have h3:=subV_any n.cap (usedS s name).1 hn.len (by omega) hn.rg hi.2
  generalize usedS s name=u at h2 h3⊢
  obtain⟨w,er⟩:=u
  by_cases h0:er=0
  ·subst h0
   have e:freeG (w,0) n.cap=subV n.cap w:=rfl
   rw[e]
   simp only at h3
   generalize subV n.cap w=z at h3⊢
   refine⟨true,Gives.run (l37 _ _) ?_⟩
   exact let ζ1:List AV:=[.str n.name,.sl .sh (n.cap.map encA),.sl .sh (n.labels.map encP),.sl .sh (n.taints.map encT),.bool n.cordon];let ζ2:List AV:=[.sl .sh (s.nodes.map encN),.sl .sh (s.pods.map encPd),.sl .sh (s.buds.map encB)];let ζ3:List AV:=[.sl .sh (z.fst.map encA),.int .i64 z.snd];let ζ4:List AV:=[.sl .sh (s.nodes.map encN),.str name];goG 90 [] trivial (.callK (ζ4) (.tuple [.agg ζ1,.bool true]) (show Gives cfg (79:FuncId) ζ4 (findNV (some n))from h1)<|.callG ([.agg ζ2,.str name]) (.tuple [.sl .sh (List.map encA (w,(0:Int)).fst),.int .i64 (w,(0:Int)).snd]) (show Gives cfg (33:FuncId) [encSt s,.str name] (resV c (w,(0:Int)))from h2) ⟨rfl,rfl⟩ Res.p<|.ff<|.callI h3<|.fin ((.ret (.tuple ζ3),{boxes:=[ζ2,ζ1],toks:=[],loops:=[]:Heap})) rfl) (by kernel_rfl)
  ·have e:freeG (w,er) n.cap=([],er):=by simp[freeG,h0]
   rw[e]
   refine⟨false,Gives.run (l37 _ _) ?_⟩
   exact let ζ1:List AV:=[.str n.name,.sl .sh (n.cap.map encA),.sl .sh (n.labels.map encP),.sl .sh (n.taints.map encT),.bool n.cordon];let ζ2:List AV:=[.sl .sh (s.nodes.map encN),.sl .sh (s.pods.map encPd),.sl .sh (s.buds.map encB)];let ζ3:List AV:=[.sl .sh (s.nodes.map encN),.str name];goG 90 [] trivial (.callK (ζ3) (.tuple [.agg ζ1,.bool true]) (show Gives cfg (79:FuncId) ζ3 (findNV (some n))from h1)<|.callG ([.agg ζ2,.str name]) (.tuple [.sl .sh (List.map encA (w,er).fst),.int .i64 (w,er).snd]) (show Gives cfg (33:FuncId) [encSt s,.str name] (resV c (w,er))from h2) ⟨rfl,rfl⟩ Res.p<|.yes (show((w,er).snd !=(0:Int))=true from(by simpa using h0))<|.fin ((.ret (.tuple [.sl .full [],.int .i64 (w,er).snd]),{boxes:=[ζ2,ζ1],toks:=[],loops:=[]:Heap})) rfl) (by kernel_rfl)
theorem free_ref(s:St)(name:List UInt8)(hs:StIn s):∃c,Gives cfg 38 [encSt s,.str name] (resV c (freeR s name)):=by
 have h1:=findN_ref s.nodes name hs.nodes
 obtain⟨c,h2⟩:=used_ref s name hs
 have hi:=usedR_in s name
 cases hf:findG Node.name s.nodes name with
 |none=>
  rw[hf]at h1
  have e:usedR s name=([],3):=by unfold usedR;rw[hf]
  rw[e]at h2
  have e:freeR s name=([],3):=by unfold freeR;rw[e];rfl
  rw[e]
  refine⟨false,Gives.run (l38 _ _) ?_⟩
  exact let ζ1:List AV:=[.sl .sh (s.nodes.map encN),.sl .sh (s.pods.map encPd),.sl .sh (s.buds.map encB)];goG 60 [] trivial (.callG ([.agg ζ1,.str name]) (.tuple [.sl .sh [],.int .i64 ([],(3:Int)).snd]) (show Gives cfg (34:FuncId) [encSt s,.str name] (resV c ([],(3:Int)))from h2) ⟨rfl,rfl⟩ Res.p<|.tt<|.fin ((.ret (.tuple [.sl .full [],.int .i64 ([],(3:Int)).snd]),{boxes:=[ζ1],toks:=[],loops:=[]:Heap})) rfl) (by kernel_rfl)
 |some n=>
  rw[hf]at h1
  have e:freeR s name=freeG (usedR s name) n.cap:=by unfold freeR capOf;rw[hf]
  rw[e]
  have hn:=hs.cap n (findG_mem hf)
  obtain⟨c3,h3⟩:=subR n.cap (usedR s name).1 hn.len (by omega) hn.rg hi.2
  generalize usedR s name=u at h2 h3⊢
  obtain⟨w,er⟩:=u
  by_cases h0:er=0
  ·subst h0
   have e:freeG (w,0) n.cap=subV n.cap w:=rfl
   rw[e]
   simp only at h3
   generalize subV n.cap w=z at h3⊢
   refine⟨true,Gives.run (l38 _ _) ?_⟩
   exact let ζ1:List AV:=[.str n.name,.sl .sh (n.cap.map encA),.sl .sh (n.labels.map encP),.sl .sh (n.taints.map encT),.bool n.cordon];let ζ2:List AV:=[.sl .sh (s.nodes.map encN),.sl .sh (s.pods.map encPd),.sl .sh (s.buds.map encB)];let ζ3:List AV:=[.sl .sh (z.fst.map encA),.int .i64 z.snd];let ζ4:List AV:=[.sl .sh (s.nodes.map encN),.str name];goG 90 [] trivial (.callG ([.agg ζ2,.str name]) (.tuple [.sl .sh (List.map encA (w,(0:Int)).fst),.int .i64 (w,(0:Int)).snd]) (show Gives cfg (34:FuncId) [encSt s,.str name] (resV c (w,(0:Int)))from h2) ⟨rfl,rfl⟩ Res.p<|.ff<|.callK (ζ4) (.tuple [.agg ζ1,.bool true]) (show Gives cfg (84:FuncId) ζ4 (findNV (some n))from h1)<|.callG ([.sl .sh (n.cap.map encA),.sl .sh (List.map encA (w,(0:Int)).fst)]) (.tuple ζ3) (show Gives cfg (110:FuncId) [.sl .sh (n.cap.map encA),.sl .sh (w.map encA)] (resV c3 z)from h3) ⟨rfl,rfl⟩ Res.p<|.fin ((.ret (.tuple ζ3),{boxes:=[ζ2,ζ1],toks:=[],loops:=[]:Heap})) rfl) (by kernel_rfl)
  ·have e:freeG (w,er) n.cap=([],er):=by simp[freeG,h0]
   rw[e]
   refine⟨false,Gives.run (l38 _ _) ?_⟩
   exact let ζ1:List AV:=[.sl .sh (s.nodes.map encN),.sl .sh (s.pods.map encPd),.sl .sh (s.buds.map encB)];goG 90 [] trivial (.callG ([.agg ζ1,.str name]) (.tuple [.sl .sh (List.map encA (w,er).fst),.int .i64 (w,er).snd]) (show Gives cfg (34:FuncId) [encSt s,.str name] (resV c (w,er))from h2) ⟨rfl,rfl⟩ Res.p<|.yes (show((w,er).snd !=(0:Int))=true from(by simpa using h0))<|.fin ((.ret (.tuple [.sl .full [],.int .i64 (w,er).snd]),{boxes:=[ζ1],toks:=[],loops:=[]:Heap})) rfl) (by kernel_rfl)
end Go.Aa.T
set_option linter.unusedVariables false
set_option linter.unusedSimpArgs false
set_option maxRecDepth 100000
namespace Go.Aa.T
open Go.Aa Go.Proofs
section
variable{call:CallF}{i p:Nat}{o:AOper}{ops:List AOper}{T:Env}{H H':Heap}{u v:AV}
theorem runD_val(hg:o.guard=none)(h:opStepD call o.op T H=some (.val u H')):runD call i (o::ops) none T H=runD call (i+1) ops none (setD T o.dst u) H':=by
 simp only[runD,wantedA,hg,h]
theorem runO_val(hg:o.guard=none)(h:opStep call o.op T H=some (.val u H')):runOps call (o::ops) T H=runOps call ops (setD T o.dst u) H':=by
 simp only[runOps,wantedA,hg,h]
theorem runD_pan(hg:o.guard=none)(h:opStepD call o.op T H=some (.pan v H')):runD call i (o::ops) none T H=runD call (i+1) ops (some (i,v)) T H':=by
 simp only[runD,wantedA,hg,h]
theorem runD_skip(hd:o.deps.contains p=true):runD call i (o::ops) (some (p,v)) T H=runD call (i+1) ops (some (p,v)) T H:=by
 simp only[runD,hd,if_true]
theorem runD_look(hd:o.deps.contains p=false)(hg:o.guard=none)(h:opStepD call o.op T H=some (.val u H')):runD call i (o::ops) (some (p,v)) T H=runD call (i+1) ops (some (p,v)) (setD T o.dst u) H':=by
 simp only[runD,wantedA,hd,hg,h,Bool.false_eq_true,if_false]
end
theorem Goes.imp{A:AFunc}{k:List AIt}{T:Env}{H:Heap}{R R':ARes×Heap→Prop}(h:Goes cfg A k T H R)(hi:∀r,R r→R' r):Goes cfg A k T H R':=by
 obtain⟨r,h1,h2⟩:=h
 exact⟨r,h1,hi r h2⟩
theorem load_any{agg:Bool}{n k off:Nat}{H:Heap}{cs:List AV}{v:AV}(h:H.boxes[k]?=some cs)(e:loadA agg n ⟨[cs],[],[]⟩ (.ptr 0 off)=some v)(T:Env):opStepD (lim cfg) (.load agg n (.c (.ptr k off))) T H=some (.val v H):=by
 simp only[opStepD,opStep,ev,load_box h e]
def ops50:List AOper:=[⟨some 50,.load true 3 (.t 0),none,[]⟩,⟨some 51,.fld 0 1 (.t 6),none,[]⟩,⟨some 52,.load false 1 (.t 51),none,[1]⟩,⟨some 53,.call (.c (.func 33 [])) [(.t 50),(.t 52)],none,[1,2,0]⟩,⟨some 54,.extract (.t 53) 0,none,[0,2,1,3]⟩,⟨some 55,.extract (.t 53) 1,none,[0,2,1,3]⟩,⟨some 56,.call (.c (.func 105 [])) [(.t 54),(.t 55)],none,[5,3,1,2,0,4]⟩,⟨some 57,.fld 1 1 (.t 6),none,[]⟩,⟨some 58,.load false 1 (.t 57),none,[7]⟩,⟨some 59,.call (.c (.func 58 [])) [(.t 56),(.t 58)],none,[7,8,4,0,2,1,3,5,6]⟩,⟨some 60,.un .not (.t 59),none,[6,5,3,1,2,0,4,8,7,9]⟩]
theorem room_reg(s:St)(x:Node)(ex:List (List AV))(w:List Amount)(er:Int)(h0:¬er=0)(c:Bool)(h1:Gives cfg 33 [encSt s,.str x.name] (resV c (w,er)))(T:Env)(t0:T 0=.ptr 0 0)(t6:T 6=.ptr (ex.length+1) 0):
 regionA (lim cfg) true ops50 T ⟨(encSt s).cells::(ex++[(encN x).cells]),[],[]⟩=
 some (.pan (stopV er) ⟨(encSt s).cells::(ex++[(encN x).cells]),[],[]⟩):=by
 have hb:(⟨(encSt s).cells::(ex++[(encN x).cells]),[],[]⟩:Heap).boxes[ex.length+1]?=some (encN x).cells:=by
  show((encSt s).cells::(ex++[(encN x).cells]))[ex.length+1]?=_
  rw[List.getElem?_cons_succ,List.getElem?_append_right (Nat.le_refl _),Nat.sub_self];rfl
 have hp:=takeN_A (w.map encA) h0
 have m1:=fun T H=>givesD (xs:=[encSt s,.str x.name]) (w:=.tuple [.sl .sh (w.map encA),.int .i64 er]) h1 ⟨rfl,rfl⟩ (by cases c<;>exact⟨rfl,rfl⟩) T H
 have m2:=fun T H=>pansD (xs:=[.sl .sh (w.map encA),.int .i64 er]) hp ⟨rfl,rfl⟩ rfl H T
 have l1:=fun T=>load_any (H:=⟨(encSt s).cells::(ex++[(encN x).cells]),[],[]⟩) (k:=0) (agg:=true) (n:=3) (off:=0) (v:=encSt s) (cs:=(encSt s).cells) rfl rfl T
 have l2:=fun T=>load_any (agg:=false) (n:=1) (off:=0) (v:=.str x.name) hb rfl T
 have l3:=fun T=>load_any (agg:=false) (n:=1) (off:=1) (v:=.sl .sh (x.cap.map encA)) hb rfl T
 generalize(⟨(encSt s).cells::(ex++[(encN x).cells]),[],[]⟩:Heap)=H at l1 l2 l3⊢
 have st:∀(T:Env)(o:AOp)(q:AOp)(r:Option Out),clOp T o=q→opStepD (lim cfg) q T H=r→opStepD (lim cfg) o T H=r:=fun T o q r h1 h2=>by
  rw[←cl_stepD _ T T,h1];exact h2
 change runD (lim cfg) 0 ops50 none T H=_
 unfold ops50
 refine Eq.trans (runD_val (u:=encSt s) (H':=H) rfl ?h) ?_
 case h=>exact st _ _ _ _ (by simp only[clOp,cl,ev,t0]) (l1 _)
 refine Eq.trans (runD_val (u:=.ptr (ex.length+1) 0) (H':=H) rfl ?h) ?_
 case h=>simp[opStepD,opStep,pureOp,ev,setD,upd_eq,t6,fldA]
 refine Eq.trans (runD_val (u:=.str x.name) (H':=H) rfl ?h) ?_
 case h=>exact st _ _ _ _ (by simp[clOp,cl,ev,setD,upd_eq]) (l2 _)
 refine Eq.trans (runD_val (u:=.tuple [.sl .sh (w.map encA),.int .i64 er]) (H':=H) rfl ?h) ?_
 case h=>exact st _ _ _ _ (by simp[clOp,cl,ev,setD,upd_eq]) (m1 _ _)
 refine Eq.trans (runD_val (u:=.sl .sh (w.map encA)) (H':=H) rfl ?h) ?_
 case h=>simp[opStepD,opStep,pureOp,ev,setD,upd_eq,extractA]
 refine Eq.trans (runD_val (u:=.int .i64 er) (H':=H) rfl ?h) ?_
 case h=>simp[opStepD,opStep,pureOp,ev,setD,upd_eq,extractA]
 refine Eq.trans (runD_pan (v:=stopV er) (H':=H) rfl ?h) ?_
 case h=>exact st _ _ _ _ (by simp[clOp,cl,ev,setD,upd_eq]) (m2 _ _)
 refine Eq.trans (runD_look (u:=.ptr (ex.length+1) 1) (H':=H) rfl rfl ?h) ?_
 case h=>simp[opStepD,opStep,pureOp,ev,setD,upd_eq,t6,fldA]
 refine Eq.trans (runD_look (u:=.sl .sh (x.cap.map encA)) (H':=H) rfl rfl ?h) ?_
 case h=>exact st _ _ _ _ (by simp[clOp,cl,ev,setD,upd_eq]) (l3 _)
 refine Eq.trans (runD_skip rfl) ?_
 refine Eq.trans (runD_skip rfl) ?_
 rfl
theorem room_pan(s:St)(x:Node)(ex:List (List AV))(w:List Amount)(er:Int)(h0:¬er=0)(c:Bool)(h1:Gives cfg 33 [encSt s,.str x.name] (resV c (w,er)))(i:Nat)(hlt:i<s.nodes.length)(hxi:idxA 5 (.sl .sh (s.nodes.map encN)) (.int .i64 (i:Nat))=some (.ref (encN x).cells))
 (T:Env)(hT:Has T [(0,.ptr 0 0),(44,.sl .sh (s.nodes.map encN)),(45,.int .i64 s.nodes.length),(46,.int .i64 i)]):
 Goes cfg a100 k100_1 T ⟨(encSt s).cells::ex,[],[]⟩ (fun r=>r.1=.pan (stopV er)):=by
 obtain⟨t0,t44,t45,t46,-⟩:=hT
 have r1:regionA (lim cfg) false [⟨some 47,.bin .lss (.t 46) (.t 45),none,[]⟩] T ⟨(encSt s).cells::ex,[],[]⟩=some (.env (upd T 47 (.bool true)) ⟨(encSt s).cells::ex,[],[]⟩):=by
  have hl:binA .lss (.int .i64 (i:Nat)) (.int .i64 (s.nodes.length:Nat))=some (.bool true):=lssT (by omega)
  simp only[regionA,Bool.false_eq_true,if_false,runOps,wantedA,opStep,pureOp,ev,setD,t46,t45,hl]
 have r2:∃T',regionA (lim cfg) false [⟨some 48,.idx 5 (.t 44) (.t 46),none,[]⟩,⟨some 49,.load true 5 (.t 48),none,[]⟩,⟨some 6,.box (.c (.agg [(.str []),(.sl .full []),(.sl .full []),(.sl .full []),(.bool false)])),none,[]⟩,⟨none,.store 5 (.t 6) (.t 49),none,[]⟩] (upd T 47 (.bool true)) ⟨(encSt s).cells::ex,[],[]⟩=
  some (.env T' ⟨(encSt s).cells::(ex++[(encN x).cells]),[],[]⟩)∧T' 0=.ptr 0 0∧T' 6=.ptr (ex.length+1) 0:=by
  have hl:loadA true 5 ⟨(encSt s).cells::ex,[],[]⟩ (.ref (encN x).cells)=some (encN x):=rfl
  have hs:storeA 5 ⟨(encSt s).cells::ex++[[.str [],.sl .full [],.sl .full [],.sl .full [],.bool false]],[],[]⟩ (.ptr (ex.length+1) 0) (encN x)=some ⟨(encSt s).cells::(ex++[(encN x).cells]),[],[]⟩:=by
   have hb:((encSt s).cells::ex++[[.str [],.sl .full [],.sl .full [],.sl .full [],.bool false]])[ex.length+1]?=some [.str [],.sl .full [],.sl .full [],.sl .full [],.bool false]:=by
    rw[List.cons_append,List.getElem?_cons_succ,List.getElem?_append_right (Nat.le_refl _),Nat.sub_self];rfl
   rw[store_box (cs:=[.str [],.sl .full [],.sl .full [],.sl .full [],.bool false]) (cs':=(encN x).cells) hb rfl]
   simp[List.set_append]
  refine⟨setD (setD (setD (setD (upd T 47 (.bool true)) (some 48) (.ref (encN x).cells)) (some 49) (encN x)) (some 6) (.ptr (ex.length+1) 0)) none .undef,?_,?_,?_⟩
  ·change runOps (lim cfg) _ _ _=_
   refine Eq.trans (runO_val (u:=.ref (encN x).cells) (H':=⟨(encSt s).cells::ex,[],[]⟩) rfl ?h) ?_
   case h=>simp[opStep,pureOp,ev,upd_eq,t44,t46,hxi]
   refine Eq.trans (runO_val (u:=encN x) (H':=⟨(encSt s).cells::ex,[],[]⟩) rfl ?h) ?_
   case h=>simp only[opStep,ev,setD,upd_eq,if_true,hl]
   refine Eq.trans (runO_val (u:=.ptr (ex.length+1) 0) (H':=⟨(encSt s).cells::ex++[[.str [],.sl .full [],.sl .full [],.sl .full [],.bool false]],[],[]⟩) rfl ?h) ?_
   case h=>simp[opStep,ev,boxA,AV.cells]
   refine Eq.trans (runO_val (u:=.undef) (H':=⟨(encSt s).cells::(ex++[(encN x).cells]),[],[]⟩) rfl ?h) ?_
   case h=>
    simp only[opStep,ev,setD,upd_eq,if_true,Nat.reduceEqDiff,if_false]
    rw[hs]
   rfl
  ·simp[setD,upd_eq,t0]
  ·simp[setD,upd_eq]
 obtain⟨T',r2,t0',t6'⟩:=r2
 have r3:=room_reg s x ex w er h0 c h1 T' t0' t6'
 refine⟨(.pan (stopV er),⟨(encSt s).cells::(ex++[(encN x).cells]),[],[]⟩),?_,rfl⟩
 rw[show k100_1=.lp b100_1::k100_1.tail from rfl,runL_lp]
 generalize k100_1.tail=tl
 generalize hbb:(AIt.lp b100_1::tl)=tl2
 unfold b100_1
 rw[runL_seq]
 erw [runL_region,r1]
 simp only
 rw[runL_seq,runL_cond]
 rw[show ev (upd T 47 (.bool true)) (.t 47)=.bool true from rfl]
 simp only[if_true]
 rw[runL_skip,runL_seq,runL_block,runL_seq]
 erw [runL_region]
 erw [r2]
 simp only
 rw[runL_seq]
 erw [runL_region]
 change(match regionA (lim cfg) true ops50 T' ⟨(encSt s).cells::(ex++[(encN x).cells]),[],[]⟩with|some (.env T' H')=>_|some (.pan v H')=>_|none=>_)=_
 rw[r3]
end Go.Aa.T
