/-
  WHAT THE LAW LEANS ON, part 6 of 6: a machine of values and its soundness; the functions of the law upon it; what they come to.
-/
import Derived.Test.YthlhlfiklmmenaaDoorDedge
import Derived.Shelf.Sort.Plain
import Derived.Shelf.Slices.In.SortNone
import Derived.Shelf.Small.Strs
set_option linter.unusedVariables false
set_option linter.unusedSimpArgs false
set_option maxRecDepth 100000
namespace Go.Aa.T
open Go.Aa Go.Proofs
def uqG(x:List UInt8):List (List UInt8)→List (List UInt8)
 |[]=>[]
 |y::l=>if y=x then uqG x l else y::uqG y l
def uq:List (List UInt8)→List (List UInt8)
 |[]=>[]
 |x::l=>x::uqG x l
def namesOf(l:List (List UInt8)):List (List UInt8):=uq (isort l)
theorem uqG_len(x:List UInt8):∀l:List (List UInt8),(uqG x l).length≤l.length
 |[]=>Nat.le_refl _
 |y::l=>by
  unfold uqG
  split
  ·have:=uqG_len x l;simp;omega
  ·have:=uqG_len y l;simp;omega
theorem uq_len(l:List (List UInt8)):(uq l).length≤l.length:=by
 cases l with
 |nil=>exact Nat.le_refl _
 |cons x l=>have:=uqG_len x l;simp[uq];omega
theorem trunc_len{bs:List (List AV)}{ls:List LRec}{v:AV}{nb nt:Nat}(h:bs.length=nb):trunc nb nt v ⟨bs,[],ls⟩=⟨bs,[],ls⟩:=by
 unfold trunc
 have e:∀(b:Bool),(if b=true then bs.take nb else bs)=bs:=fun b=>by
  split
  ·exact List.take_of_length_le (by omega)
  ·rfl
 simp only[e,List.take_nil,ite_self]
theorem unrow_one:∀(n:Nat)(cs:List AV),n≤cs.length→unrow 1 n cs=cs.take n
 |0,cs,_=>by simp[unrow]
 |n+1,[],h=>by simp at h
 |n+1,c::cs,h=>by
  simp only[unrow,if_true,List.headD_cons,List.drop_succ_cons,List.drop_zero,List.take_succ_cons]
  rw[unrow_one n cs (by simpa using h)]
theorem strs_data(l:List (List UInt8)):(l.map AV.str).all data0=true:=List.all_eq_true.2 fun x hx=>by
 obtain⟨s,-,rfl⟩:=List.mem_map.1 hx
 rfl
theorem out_box1{bs:List (List AV)}{tk:List Nat}{ls:List LRec}{kk n:Nat}{cs:List AV}(hk:bs[kk]?=some cs)(hn:n≤cs.length)(hd:cs.all data0=true):dataOut ⟨bs,tk,ls⟩ (.msl kk 0 n 1)=some (.sl .sh (cs.take n)):=by
 have h1:frzA ⟨bs,tk,ls⟩ (.msl kk 0 n 1)=some (.sl .sh (cs.take n)):=by
  simp only[frzA,frz2,frz1,hk,Nat.zero_add,List.drop_zero,Nat.mul_one]
  rw[if_pos ⟨hn,Nat.zero_le _,Nat.one_pos,hd⟩,unrow_one n cs hn]
 unfold dataOut
 rw[if_neg (by simp[shutA,shut2,shut1,isData,data2,data1,data0]),h1]
 rfl
theorem does_load1{kk m:Nat}{bs:List (List AV)}{tk:List Nat}{ls:List LRec}{C:List (List UInt8)}{y:List UInt8}(hk:bs[kk]?=some (C.map .str))(hy:C[m]?=some y):Does cfg (.load false 1 (.c (.ptr kk m))) ⟨bs,tk,ls⟩ (.str y) ⟨bs,tk,ls⟩:=fun T=>by
 have hm:=(List.getElem?_eq_some_iff.1 hy).1
 have:loadA false 1 ⟨bs,tk,ls⟩ (.ptr kk m)=some (.str y):=by
  simp only[loadA,hk,List.length_map]
  rw[if_pos (by omega)]
  simp[hy]
 simp only[opStep,ev,this]
theorem does_store1{kk m:Nat}{bs:List (List AV)}{tk:List Nat}{ls:List LRec}{C:List (List UInt8)}(y:List UInt8)(hk:bs[kk]?=some (C.map .str))(hm:m<C.length):Does cfg (.store 1 (.c (.ptr kk m)) (.c (.str y))) ⟨bs,tk,ls⟩ .undef ⟨bs.set kk ((C.set m y).map .str),tk,ls⟩:=fun T=>by
 have:storeA 1 ⟨bs,tk,ls⟩ (.ptr kk m) (.str y)=some ⟨bs.set kk ((C.set m y).map .str),tk,ls⟩:=by
  simp only[storeA,hk,List.length_map]
  rw[if_pos ⟨by omega,rfl,rfl,by omega⟩]
  simp[AV.cells,paste,List.map_set]
 simp only[opStep,ev,this]
theorem does_growB{es b kk n:Nat}{B:List (List AV)}{tk:List Nat}{ls:List LRec}{cs:List AV}{v:AV}{sk:SK}(hk:B[kk]?=some cs)(hn:cs.length=n*es)(h0:0<n)(hd:cs.all data0=true)(hv:cellsN es v=true)(hvd:dataOk [v]=true)(hb:(n+1)*b≤140737488355328):
 Does cfg (.appendM es b (.c (.msl kk 0 n es)) (.c (.sl sk [v]))) ⟨B,tk,ls⟩ (.msl B.length 0 (n+1) es) ⟨B.set kk []++[cs++v.cells],tk,ls⟩:=fun T=>by
 have:appendMA es b ⟨B,tk,ls⟩ (.msl kk 0 n es) (.sl sk [v])=some (.msl B.length 0 (n+1) es,⟨B.set kk []++[cs++v.cells],tk,ls⟩):=by
  simp only[appendMA,hk]
  rw[if_pos ⟨trivial,trivial,h0,hn,hd,hb,by simp only[lenOk,List.all_cons,List.all_nil,Bool.and_true];exact hv,hvd⟩]
  simp[rowCells]
 simp only[opStep,ev,this]
theorem does_newB{es b:Nat}{B:List (List AV)}{tk:List Nat}{ls:List LRec}{v:AV}{sk:SK}(hv:cellsN es v=true)(hvd:dataOk [v]=true)(hb:b≤140737488355328):
 Does cfg (.appendM es b (.c (.sl .full [])) (.c (.sl sk [v]))) ⟨B,tk,ls⟩ (.msl B.length 0 1 es) ⟨B++[v.cells],tk,ls⟩:=fun T=>by
 have:appendMA es b ⟨B,tk,ls⟩ (.sl .full []) (.sl sk [v])=some (.msl B.length 0 1 es,⟨B++[v.cells],tk,ls⟩):=by
  simp only[appendMA]
  rw[if_pos ⟨by trivial,by trivial,by simpa using hb,by simp only[lenOk,List.all_cons,List.all_nil,Bool.and_true];exact hv,hvd⟩]
  simp[rowCells]
 simp only[opStep,ev,this]
section
variable(kk n:Nat)(B0:List (List AV))
def RetC(res:List (List UInt8))(r:ARes×Heap):Prop:=∃(m:Nat)(C:List (List UInt8)),r=(.ret (.msl kk 0 m 1),⟨B0.set kk (C.map .str),[],[]⟩)∧C.take m=res∧m≤C.length∧C.length=n
theorem compact_loop2(hn:n<9223372036854775807)(hk0:kk<B0.length)(k0:Nat)(h1:1≤k0):∀(post:List (List UInt8))(q m:Nat)(prev:List UInt8)(U C:List (List UInt8))(hm:m=k0+q)(hq:1≤q)(hC:C.length=n)(hU:C.take U.length=U)(hd:C.drop (m-1)=prev::post)(hl:U.length+1≤m)(T:Env)
 (hT:Has T [(0,.msl kk 0 n 1),(3,.int .i64 U.length),(4,.msl kk k0 (n-k0) 1),(5,.int .i64 q)]),
 Goes cfg a56 k56_1 T ⟨B0.set kk (C.map .str),[],[]⟩ (RetC kk n B0 (U++uqG prev post)):=by
 intro post
 induction post with
 |nil=>
  intro q m prev U C hm hq hC hU hd hl T hT
  have hlen:n-(m-1)=1:=by
   have:=congrArg List.length hd
   simpa[hC]using this
  have hk:(B0.set kk (C.map AV.str))[kk]?=some (C.map .str):=by rw[List.getElem?_set_self hk0]
  have c1:binA .lss (.int .i64 (q:Nat)) (.int .i64 ((n-k0:Nat):Int))=some (.bool false):=lssF (by omega)
  have s1:sliceA 1 (.msl kk 0 n 1) (some (.int .i64 (U.length:Nat))) none none=some (.msl kk U.length (n-U.length) 1):=by
   simp only[sliceA,sliceM,boundA]
   rw[if_neg (by omega)]
   rw[if_pos ⟨by omega,by omega⟩]
   simp only[Int.toNat_natCast]
   rw[if_pos (by omega)]
   simp
  have s2:sliceA 1 (.msl kk 0 n 1) none (some (.int .i64 (U.length:Nat))) none=some (.msl kk 0 U.length 1):=by
   simp only[sliceA,sliceM,boundA]
   rw[if_neg (by omega)]
   rw[if_pos ⟨by omega,by omega⟩]
   simp only[Int.toNat_natCast]
   rw[if_pos (by omega)]
   simp
  have cl:Does cfg (.clearM [.str []] (.c (.msl kk U.length (n-U.length) 1))) ⟨B0.set kk (C.map .str),[],[]⟩ (.tuple []) ⟨B0.set kk ((U++List.replicate (n-U.length) []).map .str),[],[]⟩:=fun T=>by
   have e0:(List.replicate (n-U.length) [AV.str []]).flatten=List.replicate (n-U.length) (.str []):=by
    generalize n-U.length=j
    induction j with
    |zero=>rfl
    |succ j ih=>rw[List.replicate_succ,List.flatten_cons,ih];rfl
   have:clearA [.str []] ⟨B0.set kk (C.map .str),[],[]⟩ (.msl kk U.length (n-U.length) 1)=some ⟨B0.set kk ((U++List.replicate (n-U.length) []).map .str),[],[]⟩:=by
    simp only[clearA,hk]
    rw[if_pos ⟨by simp[hC];omega,rfl,by omega,by omega,rfl⟩,e0,paste_spec _ _ _ (by simp[hC];omega)]
    simp only[List.set_set]
    congr 3
    rw[←List.map_take,hU,List.drop_eq_nil_of_le (by simp[hC];omega)]
    simp
   simp only[opStep,ev,this]
  exact let ζ1:Heap:={boxes:=B0.set kk (List.map .str (U++List.replicate (n-U.length) [])),toks:=[],loops:=[]:Heap};gG 60 _ hT (.len (rfl:lenA false (.msl kk k0 (n-k0) 1)=some (.int .i64 (↑(n-k0):Int)))<|.no (dF ((↑q:Int)<(↑(n-k0):Int)))<|.slice s1<|.effY cl<|.slice s2<|.fin ((.ret (.msl kk 0 U.length 1),ζ1)) (by exact⟨U.length,U++List.replicate (n-U.length) [],rfl,by simp[uqG],by simp,by simp;omega⟩))
 |cons y post ih=>
  intro q m prev U C hm hq hC hU hd hl T hT
  have hlen:n-(m-1)=post.length+2:=by
   have:=congrArg List.length hd
   simpa[hC]using this
  have hk:(B0.set kk (C.map AV.str))[kk]?=some (C.map .str):=by rw[List.getElem?_set_self hk0]
  have c1:binA .lss (.int .i64 (q:Nat)) (.int .i64 ((n-k0:Nat):Int))=some (.bool true):=lssT (by omega)
  have hprev:C[k0+(q-1)]?=some prev:=by
   have:=drop_at hd
   rwa [show m-1=k0+(q-1)by omega]at this
  have hd1:C.drop m=y::post:=by
   have:=drop_next hd
   rwa [show m-1+1=m by omega]at this
  have hy:C[k0+q]?=some y:=by rw[←hm];exact drop_at hd1
  obtain⟨q,rfl⟩:∃p,q=p+1:=⟨q-1,by omega⟩
  have i1:idxA 1 (.msl kk k0 (n-k0) 1) (.int .i64 ((q+1:Nat):Int))=some (.ptr kk (k0+(q+1))):=by
   have:=idx_msl (k:=kk) (off:=k0) (n:=n-k0) (es:=1) (q:=.i64) (i:=q+1) (by omega)
   rwa [Nat.mul_one]at this
  have i2:idxA 1 (.msl kk k0 (n-k0) 1) (.int .i64 (q:Nat))=some (.ptr kk (k0+q)):=by
   have:=idx_msl (k:=kk) (off:=k0) (n:=n-k0) (es:=1) (q:=.i64) (i:=q) (by omega)
   rwa [Nat.mul_one]at this
  have l1:=does_load1 (tk:=[]) (ls:=[]) hk hy
  rw[Nat.add_sub_cancel]at hprev
  have l2:=does_load1 (tk:=[]) (ls:=[]) hk hprev
  have d1:=dec_i (i:=q) (by omega)
  by_cases e:y=prev
  ·have hg:uqG prev (y::post)=uqG prev post:=by simp[uqG,e]
   rw[hg]
   have n1:binA .neq (.str y) (.str prev)=some (.bool false):=strNeF e
   have ih':=ih (q+1+1) (m+1) prev U C (by omega) (by omega) hC hU (by rw[Nat.add_sub_cancel,hd1,e]) (by omega)
   exact let ζ1:Heap:={boxes:=B0.set kk (List.map .str C),toks:=[],loops:=[]:Heap};gG 90 _ hT (.len (rfl:lenA false (.msl kk k0 (n-k0) 1)=some (.int .i64 (↑(n-k0):Int)))<|.yes (dT ((↑(q+1):Int)<(↑(n-k0):Int)))<|.idx i1<|.effY l1<|.bin d1<|.idx i2<|.effY l2<|.no (show(!y==prev)=false from by have hh:(y==prev)=true:=(by simpa using e);simp[hh])<|.bin (show binA .add (.int .i64 (↑(q+1):Int)) (.int .i64 1)=some (.int .i64 (↑(q+1+1):Int))from inc_i (by omega))<|.cutQ k56_1 [(0,.msl kk 0 n 1),(3,.int .i64 (↑U.length)),(4,.msl kk k0 (n-k0) 1),(5,.int .i64 (↑(q+1+1):Int))] (ζ1) (fun T hT=>(ih' T hT)))
  ·have hg:uqG prev (y::post)=y::uqG y post:=by simp[uqG,e]
   rw[hg]
   have n1:binA .neq (.str y) (.str prev)=some (.bool true):=strNeT e
   have i3:idxA 1 (.msl kk 0 n 1) (.int .i64 (U.length:Nat))=some (.ptr kk U.length):=by
    have:=idx_msl (k:=kk) (off:=0) (n:=n) (es:=1) (q:=.i64) (i:=U.length) (by omega)
    rwa [Nat.mul_one,Nat.zero_add]at this
   have st:=does_store1 (tk:=[]) (ls:=[]) y hk (m:=U.length) (by omega)
   rw[List.set_set]at st
   have ih':=ih (q+1+1) (m+1) y (U++[y]) (C.set U.length y) (by omega) (by omega) (by simp[hC]) (by
    rw[List.length_append,List.length_singleton,List.take_add_one,List.getElem?_set_self (by omega),List.take_set_of_le (Nat.le_refl _),hU]
    rfl) (by
    rw[Nat.add_sub_cancel,List.drop_set_of_lt (by omega),hd1]) (by simp;omega)
   rw[List.append_assoc]at ih'
   have el:((U++[y]).length:Int)=((U.length+1:Nat):Int):=by simp
   rw[el]at ih'
   have inc:=inc_i (i:=U.length) (by omega)
   exact let ζ1:Heap:={boxes:=B0.set kk (List.map .str C),toks:=[],loops:=[]:Heap};let ζ2:Heap:={boxes:=B0.set kk (List.map .str (C.set U.length y)),toks:=[],loops:=[]:Heap};gG 90 _ hT (.len (rfl:lenA false (.msl kk k0 (n-k0) 1)=some (.int .i64 (↑(n-k0):Int)))<|.yes (dT ((↑(q+1):Int)<(↑(n-k0):Int)))<|.idx i1<|.effY l1<|.bin d1<|.idx i2<|.effY l2<|.yes (show(!y==prev)=true from by have hh:¬((y==prev)=true):=(by simpa using e);simp[hh])<|.idx i1<|.effY l1<|.idx i3<|.effY st<|.bin inc<|.bin (show binA .add (.int .i64 (↑(q+1):Int)) (.int .i64 1)=some (.int .i64 (↑(q+1+1):Int))from inc_i (by omega))<|.cutQ k56_1 [(0,.msl kk 0 n 1),(3,.int .i64 (↑(U.length+1):Int)),(4,.msl kk k0 (n-k0) 1),(5,.int .i64 (↑(q+1+1):Int))] (ζ2) (fun T hT=>(ih' T hT)))
theorem compact_loop1(hn:n<9223372036854775807)(hk0:kk<B0.length):∀(post:List (List UInt8))(m:Nat)(prev:List UInt8)(C:List (List UInt8))(hm:1≤m)(hC:C.length=n)(hd:C.drop (m-1)=prev::post)(hu:uq C=C.take m++uqG prev post)(T:Env)
 (hT:Has T [(0,.msl kk 0 n 1),(3,.int .i64 m)]),
 Goes cfg a56 k56_0 T ⟨B0.set kk (C.map .str),[],[]⟩ (RetC kk n B0 (uq C)):=by
 intro post
 induction post with
 |nil=>
  intro m prev C hm hC hd hu T hT
  have hlen:n-(m-1)=1:=by
   have:=congrArg List.length hd
   simpa[hC]using this
  have c1:binA .lss (.int .i64 (m:Nat)) (.int .i64 (n:Nat))=some (.bool false):=lssF (by omega)
  have e:uq C=C:=by
   rw[hu,List.take_of_length_le (by omega)];simp[uqG]
  rw[e]
  exact gG 60 _ hT (.len (rfl:lenA false (.msl kk 0 n 1)=some (.int .i64 ↑n))<|.no (dF ((↑m:Int)<(↑n:Int)))<|.fin ((.ret (.msl kk 0 n 1),{boxes:=B0.set kk (List.map .str C),toks:=[],loops:=[]:Heap})) (by exact⟨n,C,rfl,List.take_of_length_le (by omega),by omega,hC⟩))
 |cons y post ih=>
  intro m prev C hm hC hd hu T hT
  have hlen:n-(m-1)=post.length+2:=by
   have:=congrArg List.length hd
   simpa[hC]using this
  have hk:(B0.set kk (C.map AV.str))[kk]?=some (C.map .str):=by rw[List.getElem?_set_self hk0]
  have c1:binA .lss (.int .i64 (m:Nat)) (.int .i64 (n:Nat))=some (.bool true):=lssT (by omega)
  have hprev:C[m-1]?=some prev:=drop_at hd
  have hd1:C.drop m=y::post:=by
   have:=drop_next hd
   rwa [show m-1+1=m by omega]at this
  have hy:C[m]?=some y:=drop_at hd1
  obtain⟨q,rfl⟩:∃p,m=p+1:=⟨m-1,by omega⟩
  have i1:idxA 1 (.msl kk 0 n 1) (.int .i64 ((q+1:Nat):Int))=some (.ptr kk (q+1)):=by
   have:=idx_msl (k:=kk) (off:=0) (n:=n) (es:=1) (q:=.i64) (i:=q+1) (by omega)
   rwa [Nat.mul_one,Nat.zero_add]at this
  have i2:idxA 1 (.msl kk 0 n 1) (.int .i64 (q:Nat))=some (.ptr kk q):=by
   have:=idx_msl (k:=kk) (off:=0) (n:=n) (es:=1) (q:=.i64) (i:=q) (by omega)
   rwa [Nat.mul_one,Nat.zero_add]at this
  have l1:=does_load1 (tk:=[]) (ls:=[]) hk hy
  rw[Nat.add_sub_cancel]at hprev
  have l2:=does_load1 (tk:=[]) (ls:=[]) hk hprev
  have d1:=dec_i (i:=q) (by omega)
  by_cases e:y=prev
  ·have n1:binA .eql (.str y) (.str prev)=some (.bool true):=strEqT e
   have hg:uqG prev (y::post)=uqG prev post:=by simp[uqG,e]
   have s1:sliceA 1 (.msl kk 0 n 1) (some (.int .i64 ((q+1:Nat):Int))) none none=some (.msl kk (q+1) (n-(q+1)) 1):=by
    simp only[sliceA,sliceM,boundA]
    rw[if_neg (by omega)]
    rw[if_pos ⟨by omega,by omega⟩]
    simp only[Int.toNat_natCast]
    rw[if_pos (by omega)]
    simp
   have h2:=compact_loop2 kk n B0 hn hk0 (q+1) (by omega) post 1 (q+1+1) prev (C.take (q+1)) C rfl (by omega) hC (by simp[List.take_take]) (by rw[Nat.add_sub_cancel,hd1,e]) (by simp;omega)
   have el:((C.take (q+1)).length:Int)=((q+1:Nat):Int):=by
    rw[List.length_take,Nat.min_eq_left (by omega)]
   rw[el,←hg,←hu]at h2
   exact let ζ1:Heap:={boxes:=B0.set kk (List.map .str C),toks:=[],loops:=[]:Heap};gG 90 _ hT (.len (rfl:lenA false (.msl kk 0 n 1)=some (.int .i64 ↑n))<|.yes (dT ((↑(q+1):Int)<(↑n:Int)))<|.idx i1<|.effY l1<|.bin d1<|.idx i2<|.effY l2<|.yes (show(y==prev)=true from(by simpa using e))<|.slice s1<|.cutQ k56_1 [(0,.msl kk 0 n 1),(3,.int .i64 (↑(q+1):Int)),(4,.msl kk (q+1) (n-(q+1)) 1),(5,.int .i64 1)] (ζ1) (fun T hT=>(h2 T hT)))
  ·have n1:binA .eql (.str y) (.str prev)=some (.bool false):=strEqF e
   have hg:uqG prev (y::post)=y::uqG y post:=by simp[uqG,e]
   have ih':=ih (q+1+1) y C (by omega) hC (by rw[Nat.add_sub_cancel,hd1]) (by
    rw[hu,hg,List.take_add_one (i:=q+1),hy];simp)
   exact let ζ1:Heap:={boxes:=B0.set kk (List.map .str C),toks:=[],loops:=[]:Heap};gG 90 _ hT (.len (rfl:lenA false (.msl kk 0 n 1)=some (.int .i64 ↑n))<|.yes (dT ((↑(q+1):Int)<(↑n:Int)))<|.idx i1<|.effY l1<|.bin d1<|.idx i2<|.effY l2<|.no (show(y==prev)=false from Bool.eq_false_iff.2 (by simpa using e))<|.bin (show binA .add (.int .i64 (↑(q+1):Int)) (.int .i64 1)=some (.int .i64 (↑(q+1+1):Int))from inc_i (by omega))<|.cutQ k56_0 [(0,.msl kk 0 n 1),(3,.int .i64 (↑(q+1+1):Int))] (ζ1) (fun T hT=>(ih' T hT)))
theorem compact_any(hn:n<9223372036854775807)(hk0:kk<B0.length)(C:List (List UInt8))(hC:C.length=n)(h0:0<n):
 ∃(m:Nat)(C':List (List UInt8)),Does cfg (.callM (.c (.func 56 [])) [.c (.msl kk 0 n 1)]) ⟨B0.set kk (C.map .str),[],[]⟩ (.msl kk 0 m 1) ⟨B0.set kk (C'.map .str),[],[]⟩∧C'.take m=uq C∧m≤C'.length∧C'.length=n:=by
 have key:Goes cfg a56 [.c c56] (initEnv [.msl kk 0 n 1]) ⟨B0.set kk (C.map .str),[],[]⟩ (RetC kk n B0 (uq C)):=by
  by_cases h2:n<2
  ·obtain⟨x,rfl⟩:∃x,C=[x]:=by
    match C,hC with
    |[x],_=>exact⟨x,rfl⟩
    |[],h=>simp at h;omega
    |_::_::_,h=>simp at h;omega
   exact gG 60 [] trivial (.len (rfl:lenA false (.msl kk 0 n 1)=some (.int .i64 ↑n))<|.yes (dT ((↑n:Int)<(2:Int)))<|.fin ((.ret (.msl kk 0 n 1),{boxes:=B0.set kk (List.map .str [x]),toks:=[],loops:=[]:Heap})) (by exact⟨n,[x],rfl,by simp at hC;subst hC;rfl,by simpa using Nat.le_of_eq hC.symm,hC⟩))
  ·obtain⟨x,l,rfl⟩:∃x l,C=x::l:=by
    cases C with
    |nil=>simp at hC;omega
    |cons x l=>exact⟨x,l,rfl⟩
   have h1:=compact_loop1 kk n B0 hn hk0 l 1 x (x::l) (by omega) hC rfl rfl
   exact gG 60 [] trivial (.len (rfl:lenA false (.msl kk 0 n 1)=some (.int .i64 ↑n))<|.no (dF ((↑n:Int)<(2:Int)))<|.cutQ k56_0 [(0,.msl kk 0 n 1),(3,.int .i64 1)] ({boxes:=B0.set kk (List.map .str (x::l)),toks:=[],loops:=[]:Heap}) (fun T hT=>(h1 T hT)))
 obtain⟨r,h,m,C',rfl,h1,h2,h3⟩:=key
 refine⟨m,C',?_,h1,h2,h3⟩
 have h':lim cfg (.fn 56) [.msl kk 0 n 1] ⟨B0.set kk (C.map .str),[],[]⟩=some (.ret (.msl kk 0 m 1),⟨B0.set kk (C'.map .str),[],[]⟩):=by rw[l56];exact h
 have hd:=does_callM (xs:=[.msl kk 0 n 1]) h' rfl rfl
 rwa [show shutA (.msl kk 0 m 1)=.msl kk 0 m 1 from rfl,trunc_len (by simp)]at hd
end
end Go.Aa.T
set_option linter.unusedVariables false
set_option linter.unusedSimpArgs false
set_option maxRecDepth 100000
namespace Go.Aa.T
open Go.Aa Go.Proofs
def encV(v:List Amount):AV:=.sl .sh (v.map encA)
def allNames(vs:List (List Amount)):List (List UInt8):=vs.flatMap fun v=>v.map Amount.name
theorem allNames_cons(v:List Amount)(vs:List (List Amount)):allNames (v::vs)=v.map Amount.name++allNames vs:=rfl
def rM(kk:Nat):List (List UInt8)→AV
 |[]=>.sl .full []
 |_::l=>.msl kk 0 (l.length+1) 1
theorem strsA_map:∀l:List (List UInt8),strsA (l.map .str)=some l
 |[]=>rfl
 |s::l=>by simp[strsA,strsA_map l]
theorem sort_does{kk:Nat}{B:List (List AV)}{l:List (List UInt8)}(hk:B[kk]?=some (l.map .str))(h0:0<l.length)(hb:l.length≤140737488355328):
 Does cfg (.callM (.c (.func 55 [])) [.c (.msl kk 0 l.length 1)]) ⟨B,[],[]⟩ (.tuple []) ⟨B.set kk ((isort l).map .str),[],[]⟩:=by
 have h:lim cfg (.fn 55) [.msl kk 0 l.length 1] ⟨B,[],[]⟩=some (.ret (.tuple []),⟨B.set kk ((isort l).map .str),[],[]⟩):=by
  rw[lim_ext (g:=sortE) rfl rfl]
  have e:sortE [.msl kk 0 l.length 1] ⟨B,[],[]⟩=some (.tuple [],⟨B.set kk ((isort l).map .str),[],[]⟩):=by
   simp only[sortE,hk]
   rw[if_pos ⟨trivial,trivial,h0,by simp,hb⟩,List.take_of_length_le (by simp),strsA_map,List.drop_eq_nil_of_le (by simp)]
   simp
  rw[e];rfl
 have hd:=does_callM (xs:=[.msl kk 0 l.length 1]) h rfl rfl
 rwa [show shutA (.tuple [])=.tuple []from rfl,trunc_len (by simp)]at hd
theorem does_data{g:FuncId}{xs:List AV}{v:AV}(h:Gives cfg g xs v)(zs:List AV)(hx:zs.map shutA=xs)(hd:xs.all isData=true)(h1:shutA v=v)(h2:isData v=true)(H:Heap):
 Does cfg (.call (.c (.func g [])) (zs.map .c)) H v H∧Does cfg (.callM (.c (.func g [])) (zs.map .c)) H v H:=by
 obtain⟨H',h⟩:=h.ret
 constructor<;>intro T
 ·have e:(zs.map Opd.c).map (fun x=>shutA (ev T x))=xs:=by rw[List.map_map];exact hx
  simp only[opStep,e]
  rw[show ev T (.c (.func g []))=.func g []from rfl]
  simp only[callV,hd,List.all_nil,Bool.and_self,if_true,List.append_nil,h,dataOut,h1,h2]
 ·have e:(zs.map Opd.c).map (fun x=>shutA (ev T x))=xs:=by rw[List.map_map];exact hx
  simp only[opStep,e]
  rw[show ev T (.c (.func g []))=.func g []from rfl]
  simp only[callW,hd,List.all_nil,Bool.and_self,if_true,List.append_nil,h,h1,h2]
theorem sort_none:Gives cfg 55 [.sl .sh []] (.tuple []):=by
 have h:lim cfg (.fn 55) [.sl .sh []] Heap.nil=some (.ret (.tuple []),Heap.nil):=by rw[lim_ext (g:=sortE) rfl rfl];rfl
 exact Gives.of h
theorem compact_none:Gives cfg 56 [.sl .sh []] (.sl .sh []):=by
 refine Gives.run (l56 _ _) ?_
 exact gG 60 [] trivial (.len (show lenA false (.sl .sh [])=some (.int .i64 (↑[].length:Int))from len_sl _ _)<|.tt<|.fin ((.ret (.sl .sh []),{boxes:=[],toks:=[],loops:=[]:Heap})) rfl)
def FinN(acc:List (List UInt8)):ARes×Heap→Prop:=IsOut (.sl .sh ((namesOf acc).map .str))
theorem names_end(vs:List (List Amount))(acc:List (List UInt8))(B:List (List AV))(kk:Nat)(hB:acc=[]∨B[kk]?=some (acc.map .str))(hl:acc.length≤100000)(T:Env)(i:Nat)(hi:vs.length≤i)
 (hT:Has T [(3,rM kk acc),(8,.sl .sh (vs.map encV)),(9,.int .i64 vs.length),(10,.int .i64 i)]):Goes cfg a51 k51_0 T ⟨B,[],[]⟩ (FinN acc):=by
 cases acc with
 |nil=>
  have h1:=(does_data sort_none [.sl .full []] rfl rfl rfl rfl ⟨B,[],[]⟩).2
  have h2:=(does_data compact_none [.sl .full []] rfl rfl rfl rfl ⟨B,[],[]⟩).2
  exact let ζ1:Heap:={boxes:=B,toks:=[],loops:=[]:Heap};gG 60 _ hT (.no (dF ((↑i:Int)<(↑vs.length:Int)))<|.effY h1<|.effY h2<|.fin ((.ret (.sl .sh []),ζ1)) (by exact⟨_,rfl,rfl⟩))
 |cons x l=>
  have hk:B[kk]?=some ((x::l).map .str):=by simpa using hB
  have h1:=sort_does hk (by simp) (by omega)
  have hkl:kk<B.length:=(List.getElem?_eq_some_iff.1 hk).1
  obtain⟨m,C,h2,h3,h4,h5⟩:=compact_any kk (x::l).length B (by omega) hkl (isort (x::l)) (isort_length _) (by simp)
  rw[List.length_cons]at h1 h2 h5
  have hout:dataOut ⟨B.set kk (C.map .str),[],[]⟩ (.msl kk 0 m 1)=some (.sl .sh ((namesOf (x::l)).map .str)):=by
   have:=out_box1 (bs:=B.set kk (C.map .str)) (tk:=[]) (ls:=[]) (kk:=kk) (n:=m) (List.getElem?_set_self hkl) (by simpa using h4) (strs_data C)
   rw[this,←List.map_take,h3];rfl
  exact let ζ1:Heap:={boxes:=B.set kk (List.map .str (isort (x::l))),toks:=[],loops:=[]:Heap};let ζ2:Heap:={boxes:=B.set kk (List.map .str C),toks:=[],loops:=[]:Heap};gG 60 _ hT (.no (dF ((↑i:Int)<(↑vs.length:Int)))<|.effY h1<|.effY h2<|.fin ((.ret (.msl kk 0 m 1),ζ2)) (by exact⟨_,rfl,hout⟩))
theorem names_outer(vs:List (List Amount))(hv:vs.length≤100)(hs:∀v∈vs,v.length≤100):∀(post:List (List Amount))(i:Nat)(hd:vs.drop i=post)(hi:i≤vs.length)(acc:List (List UInt8))(B:List (List AV))(kk:Nat)(hB:acc=[]∨B[kk]?=some (acc.map .str))(hl:acc.length≤100*i)(T:Env)
 (hT:Has T [(3,rM kk acc),(8,.sl .sh (vs.map encV)),(9,.int .i64 vs.length),(10,.int .i64 i)]),Goes cfg a51 k51_0 T ⟨B,[],[]⟩ (FinN (acc++allNames post)):=by
 intro post
 induction post with
 |nil=>
  intro i hd hi acc B kk hB hl T hT
  have hge:=drop_ge hd
  rw[show acc++allNames []=acc by simp[allNames]]
  exact names_end vs acc B kk hB (by omega) T i hge hT
 |cons v post ih=>
  intro i hd hi acc B kk hB hl T hT
  have hlt:=drop_lt hd
  have hnx:=drop_next hd
  have hvl:=hs v (drop_mem hd)
  have hix:idxA 1 (.sl .sh (vs.map encV)) (.int .i64 (i:Nat))=some (.ref [encV v]):=idx_row (f:=encV) hd rfl
  have inner:∀(ip:List Amount)(j:Nat)(hj:v.drop j=ip)(hj0:j≤v.length)(acc:List (List UInt8))(B:List (List AV))(kk:Nat)(hB:acc=[]∨B[kk]?=some (acc.map .str))(hl:acc.length≤100*i+j)(T:Env)
   (hT:Has T [(3,rM kk acc),(8,.sl .sh (vs.map encV)),(9,.int .i64 vs.length),(10,.int .i64 i),(14,encV v),(15,.int .i64 v.length),(16,.int .i64 j)]),Goes cfg a51 k51_1 T ⟨B,[],[]⟩ (FinN (acc++(ip.map Amount.name++allNames post))):=by
   intro ip
   induction ip with
   |nil=>
    intro j hj hj0 acc B kk hB hl T hT
    have hge:=drop_ge hj
    have ih':=ih (i+1) hnx hlt acc B kk hB (by omega)
    rw[List.map_nil,List.nil_append]
    exact gG 60 _ hT (.no (dF ((↑j:Int)<(↑v.length:Int)))<|.bin (iI i)<|.cutQ k51_0 [(3,rM kk acc),(8,.sl .sh (vs.map encV)),(9,.int .i64 (↑vs.length)),(10,.int .i64 (↑(i+1)))] ({boxes:=B,toks:=[],loops:=[]:Heap}) (fun T hT=>(ih' T hT)))
   |cons x ip ihj=>
    intro j hj hj0 acc B kk hB hl T hT
    have hltj:=drop_lt hj
    have hnxj:=drop_next hj
    have hxi:idxA 2 (encV v) (.int .i64 (j:Nat))=some (.ref [.str x.name,.int .i64 x.n]):=idx_row (f:=encA) hj rfl
    have e:acc++((x::ip).map Amount.name++allNames post)=(acc++[x.name])++(ip.map Amount.name++allNames post):=by simp
    rw[e]
    cases acc with
    |nil=>
     have ap:=does_newB (es:=1) (b:=16) (B:=B++[(encA x).cells]) (tk:=[]) (ls:=[]) (v:=.str x.name) (sk:=.full) rfl rfl (by omega)
     have ih':=ihj (j+1) hnxj hltj [x.name] (B++[(encA x).cells]++[[AV.str x.name]]) (B++[(encA x).cells]).length (.inr (by simp)) (by simp;omega)
     exact let ζ1:Heap:={boxes:=B++[[AV.str x.name,.int .i64 x.n]],toks:=[],loops:=[]:Heap};gG 90 _ hT (.yes (dT ((↑j:Int)<(↑v.length:Int)))<|.idx hxi<|.load (rfl:loadA true 2 {boxes:=B,toks:=[],loops:=[]:Heap} (.ref [.str x.name,.int .i64 x.n])=some (.agg [.str x.name,.int .i64 x.n]))<|.store (show storeA 2 {boxes:=B++[[AV.str [],.int .i64 0]],toks:=[],loops:=[]:Heap} (.ptr B.length 0) (.agg [.str x.name,.int .i64 x.n])=some (ζ1)from store_box2 (cs:=[.str [],.int .i64 0]) (cs':=[.str x.name,.int .i64 x.n]) (by simp+zetaDelta) rfl (by simp+zetaDelta [List.set_append]))<|.load (lB false 1 ζ1 B.length 0 (.str x.name) [.str x.name,.int .i64 x.n])<|.effY ap<|.bin (iI j)<|.cutQ k51_1 [(3,.msl (B++[[AV.str x.name,.int .i64 x.n]]).length 0 1 1),(8,.sl .sh (vs.map encV)),(9,.int .i64 (↑vs.length)),(10,.int .i64 ↑i),(14,.sl .sh (v.map encA)),(15,.int .i64 (↑v.length)),(16,.int .i64 (↑(j+1):Int))] ({boxes:=B++[[AV.str x.name,.int .i64 x.n]]++[[AV.str x.name]],toks:=[],loops:=[]:Heap}) (fun T hT=>(ih' T hT)))
    |cons y l=>
     have hk:B[kk]?=some ((y::l).map .str):=by simpa using hB
     have hk2:(B++[(encA x).cells])[kk]?=some ((y::l).map .str):=by rw[List.getElem?_append_left (List.getElem?_eq_some_iff.1 hk).1,hk]
     have ap:=does_growB (es:=1) (b:=16) (n:=l.length+1) (tk:=[]) (ls:=[]) (v:=.str x.name) (sk:=.full) hk2 (by simp) (by omega) (strs_data _) rfl rfl (by simp at hl;omega)
     obtain⟨D,hD⟩:∃D,D=(y::l).map AV.str++(AV.str x.name).cells:=⟨_,rfl⟩
     rw[←hD]at ap
     have ih':=ihj (j+1) hnxj hltj ((y::l)++[x.name]) ((B++[(encA x).cells]).set kk []++[D]) (B++[(encA x).cells]).length (.inr (by
      rw[List.getElem?_append_right (by simp),hD];simp[AV.cells])) (by simp at hl⊢;omega)
     have er:rM (B++[(encA x).cells]).length ((y::l)++[x.name])=.msl (B++[(encA x).cells]).length 0 (l.length+1+1) 1:=by simp[rM]
     rw[er]at ih'
     exact let ζ1:Heap:={boxes:=(B++[(encA x).cells]).set kk []++[D],toks:=[],loops:=[]:Heap};let ζ2:Heap:={boxes:=B++[[AV.str x.name,.int .i64 x.n]],toks:=[],loops:=[]:Heap};gG 90 _ hT (.yes (dT ((↑j:Int)<(↑v.length:Int)))<|.idx hxi<|.load (rfl:loadA true 2 {boxes:=B,toks:=[],loops:=[]:Heap} (.ref [.str x.name,.int .i64 x.n])=some (.agg [.str x.name,.int .i64 x.n]))<|.store (show storeA 2 {boxes:=B++[[AV.str [],.int .i64 0]],toks:=[],loops:=[]:Heap} (.ptr B.length 0) (.agg [.str x.name,.int .i64 x.n])=some (ζ2)from store_box2 (cs:=[.str [],.int .i64 0]) (cs':=[.str x.name,.int .i64 x.n]) (by simp+zetaDelta) rfl (by simp+zetaDelta [List.set_append]))<|.load (lB false 1 ζ2 B.length 0 (.str x.name) [.str x.name,.int .i64 x.n])<|.effY ap<|.bin (iI j)<|.cutQ k51_1 [(3,.msl (B++[[AV.str x.name,.int .i64 x.n]]).length 0 (l.length+1+1) 1),(8,.sl .sh (vs.map encV)),(9,.int .i64 (↑vs.length)),(10,.int .i64 ↑i),(14,.sl .sh (v.map encA)),(15,.int .i64 (↑v.length)),(16,.int .i64 (↑(j+1):Int))] (ζ1) (fun T hT=>(ih' T hT)))
  have h2:=inner v 0 rfl (Nat.zero_le _) acc B kk hB (by omega)
  rw[allNames_cons]
  exact let ζ1:Heap:={boxes:=B,toks:=[],loops:=[]:Heap};gG 60 _ hT (.yes (dT ((↑i:Int)<(↑vs.length:Int)))<|.idx hix<|.load (rfl:loadA false 1 ζ1 (.ref [.sl .sh (v.map encA)])=some (.sl .sh (v.map encA)))<|.len (lM .sh encA v)<|.cutQ k51_1 [(3,rM kk acc),(8,.sl .sh (vs.map encV)),(9,.int .i64 (↑vs.length)),(10,.int .i64 ↑i),(14,.sl .sh (v.map encA)),(15,.int .i64 (↑v.length)),(16,.int .i64 0)] (ζ1) (fun T hT=>(h2 T hT)))
theorem names_any(vs:List (List Amount))(hv:vs.length≤100)(hs:∀v∈vs,v.length≤100):GivesF cfg 51 [.sl .sh (vs.map encV)] (.sl .sh ((namesOf (allNames vs)).map .str)):=by
 refine GivesF.run (l51 _ _) ?_
 have h:=names_outer vs hv hs vs 0 rfl (Nat.zero_le _) [] [] 0 (.inl rfl) (by simp)
 exact gG 60 [] trivial (.len (lM .sh encV vs)<|.cutQ k51_0 [(3,.sl .full []),(8,.sl .sh (vs.map encV)),(9,.int .i64 (↑vs.length)),(10,.int .i64 0)] ({boxes:=[],toks:=[],loops:=[]:Heap}) (fun T hT=>(h T hT)))
end Go.Aa.T
set_option linter.unusedVariables false
set_option linter.unusedSimpArgs false
set_option maxRecDepth 100000
namespace Go.Aa.T
open Go.Aa Go.Proofs
abbrev Rise(l:List (List UInt8)):Prop:=l.Pairwise fun x y=>Op.bytesLess x y=true
abbrev nms(v:List Amount):List (List UInt8):=v.map Amount.name
def rowT(l:List (List UInt8)):AV:=rowS Heap.nil (l.map .str)
end Go.Aa.T
set_option linter.unusedVariables false
set_option linter.unusedSimpArgs false
set_option maxRecDepth 100000
namespace Go.Aa.T
open Go.Aa Go.Proofs
def stopV(e:Int):AV:=.iface 86 (.agg [.int .i64 e])
theorem stop_ok:Gives cfg 45 [.int .i64 0] (.tuple []):=by
 refine Gives.run (l45 _ _) ?_
 exact gG 60 [] trivial (.ff<|.fin ((.ret (.tuple []),{boxes:=[],toks:=[],loops:=[]:Heap})) rfl)
theorem stop_pan{e:Int}(h:¬e=0):Pans cfg 45 [.int .i64 e] (stopV e):=by
 refine Pans.run (l45 _ _) ?_
 exact gG 60 [] trivial (.op (.bin .neq (.c (.int .i64 e)) (.c (.int .i64 0))) (.bool true) (pure_step (fun _=>neqT (k:=.i64) h) fun _ _ _=>rfl)<|.tt<|.panicI 86 (.agg [.int .i64 e]) Heap.nil rfl)
def skF{X:Type}:List X→SK
 |[]=>.full
 |_::_=>.own 0
instance{X:Type}(l:List X)(xs:List AV):Shut (.sl (skF l) xs) (.sl .sh xs):=⟨by cases l<;>exact⟨rfl,rfl⟩⟩
section
variable{X:Type}(enc:X→AV)
def tkR(acc:List X):List Nat:=(rowH Heap.nil (acc.map enc)).toks
theorem tk_nil:tkR enc []=[]:=rfl
theorem tk_cons(x:X)(l:List X):tkR enc (x::l)=[l.length+1]:=by simp[tkR,rowH,Heap.nil]
def rowF(l:List X):AV:=.sl (skF l) (l.map enc)
instance(l:List X):Shut (rowF enc l) (.sl .sh (l.map enc)):=⟨by cases l<;>exact⟨rfl,rfl⟩⟩
theorem rowF_eq(l:List X):rowF enc l=rowS Heap.nil (l.map enc):=by cases l<;>rfl
theorem row_append_T{x:X}{es bytes:Nat}{bs:List (List AV)}{ls:List LRec}{ys:List X}(h:((ys.map enc).length+1)*bytes≤140737488355328)(hl:lenOk es (ys.map enc)=true)(hv:cellsN es (enc x)=true)(hd:dataOk [enc x]=true):
 appendA es bytes ⟨bs,tkR enc ys,ls⟩ (rowF enc ys) (.sl .full [enc x])=some (rowF enc (ys++[x]),⟨bs,tkR enc (ys++[x]),ls⟩):=by
 rw[rowF_eq,rowF_eq]
 have hh:=row_append_map (f:=enc) (x:=x) (H:=Heap.nil) h hl hv hd
 cases ys with
 |nil=>
  simp only[rowS,rowH,List.map_nil,List.nil_append,List.map_cons,tkR,Heap.nil]at hh⊢
  simp only[appendA]at hh⊢
  split at hh
  ·rename_i hc;rw[if_pos hc];rfl
  ·cases hh
 |cons y ys=>
  simp only[rowS,rowH,List.cons_append,List.map_cons,tkR,Heap.nil]at hh⊢
  simp only[appendA]at hh⊢
  split at hh
  ·rename_i hc
   rw[if_pos hc]
   split at hh
   ·rename_i hc2
    rw[if_pos hc2]
    simp only[Option.some.injEq,Prod.mk.injEq,Heap.mk.injEq,true_and,and_true]at hh⊢
    exact hh
   ·cases hh
  ·cases hh
end
end Go.Aa.T
set_option linter.unusedVariables false
set_option linter.unusedSimpArgs false
set_option maxRecDepth 100000
namespace Go.Aa.T
open Go.Aa Go.Proofs
abbrev OfQ:=List UInt8→Int×Int
def madeF(g:OfQ):List (List UInt8)→List Amount→List Amount×Int
 |[],acc=>(acc,0)
 |s::r,acc=>if(g s).2=0 then madeF g r (if 0<(g s).1 then acc++[⟨s,(g s).1⟩]else acc)else([],(g s).2)
def finV(p:List Amount×Int):List Amount×Int:=if p.2=0 then(if 8<p.1.length then([],4)else(p.1,0))else([],p.2)
def madeV(g:OfQ)(vs:List (List Amount)):List Amount×Int:=
 if firstE (vs.map ckV)=0 then finV (madeF g (namesOf (allNames vs)) [])else([],firstE (vs.map ckV))
theorem trunc_self{v:AV}{H:Heap}:trunc H.boxes.length H.toks.length v H=H:=by
 unfold trunc
 have e1:∀(b:Bool),(if b=true then H.boxes.take H.boxes.length else H.boxes)=H.boxes:=fun b=>by
  split
  ·exact List.take_of_length_le (Nat.le_refl _)
  ·rfl
 have e2:∀(b:Bool),(if b=true then H.toks.take H.toks.length else H.toks)=H.toks:=fun b=>by
  split
  ·exact List.take_of_length_le (Nat.le_refl _)
  ·rfl
 simp only[e1,e2]
theorem trunc_keep{v:AV}{bs:List (List AV)}{tk:List Nat}{nb nt:Nat}(h:bs.length=nb)(h2:bs.all (·.all (in2 bs.length nt))=false):trunc nb nt v ⟨bs,tk,[]⟩=⟨bs,tk,[]⟩:=by
 unfold trunc
 have e1:∀(b:Bool),(if b=true then bs.take nb else bs)=bs:=fun b=>by
  split
  ·exact List.take_of_length_le (by omega)
  ·rfl
 simp only[e1,h2,Bool.and_false,Bool.false_eq_true,if_false]
section
variable(g:OfQ)(f:FuncId)(x0 x1:AV)(vs:List (List Amount))
def hMd(acc:List Amount):Heap:=⟨[[x0],[x1],[.func f [.ptr 0 0,.ptr 1 0]],[.sl .sh (vs.map encV)],[rowF encA acc]],tkR encA acc,[]⟩
def MadeR(p:List Amount×Int)(r:ARes×Heap):Prop:=(p.2=0∧r=(.ret (.tuple []),hMd f x0 x1 vs p.1))∨(p.2≠0∧r.1=.pan (stopV p.2))
theorem made_loop2(hof:∀s(B:List (List AV))(tk:List Nat),Does cfg (.call (.c (.func f [.ptr 0 0,.ptr 1 0])) [.c (.str s)]) ⟨[x0]::[x1]::B,tk,[]⟩ (.tuple [.int .i64 (g s).1,.int .i64 (g s).2]) ⟨[x0]::[x1]::B,tk,[]⟩)
 (ns:List (List UInt8))(hns:ns.length≤100000):∀(post:List (List UInt8))(i:Nat)(hd:ns.drop i=post)(acc:List Amount)(ha:acc.length≤i)(T:Env)
 (hT:Has T [(2,.ptr 4 0),(1,.ptr 2 0),(20,.sl .sh (ns.map .str)),(21,.int .i64 ns.length),(22,.int .i64 i)]),
 Goes cfg a49 k49_1 T (hMd f x0 x1 vs acc) (MadeR f x0 x1 vs (finV (madeF g post acc))):=by
 intro post
 induction post with
 |nil=>
  intro i hd acc ha T hT
  have hge:=drop_ge hd
  have hs:Pans cfg 45 [.int .i64 4] (stopV 4):=stop_pan (by decide)
  have e:madeF g [] acc=(acc,0):=rfl
  rw[e]
  by_cases h8:8<acc.length
  ·have e:finV (acc,0)=([],4):=by simp[finV,h8]
   rw[e]
   exact gG 90 _ hT (.no (dF ((↑i:Int)<(↑ns.length:Int)))<|.len (lM (skF acc) encA acc)<|.yes (dT ((8:Int)<(↑acc.length:Int)))<|.callP ([.int .i64 4]) ({boxes:=[[x0],[x1],[.func f [.ptr 0 0,.ptr 1 0]],[.sl .sh (vs.map encV)],[.sl (skF acc) (acc.map encA)]],toks:=tkR encA acc,loops:=[]:Heap}) hs ⟨rfl,rfl⟩ rfl (by exact .inr ⟨by decide,rfl⟩))
  ·have e:finV (acc,0)=(acc,0):=by simp[finV,h8]
   rw[e]
   exact gG 90 _ hT (.no (dF ((↑i:Int)<(↑ns.length:Int)))<|.len (lM (skF acc) encA acc)<|.no (dF ((8:Int)<(↑acc.length:Int)))<|.fin ((.ret (.tuple []),{boxes:=[[x0],[x1],[.func f [.ptr 0 0,.ptr 1 0]],[.sl .sh (vs.map encV)],[.sl (skF acc) (acc.map encA)]],toks:=tkR encA acc,loops:=[]:Heap})) (by exact .inl ⟨rfl,rfl⟩))
 |cons s post ih=>
  intro i hd acc ha T hT
  have hlt:=drop_lt hd
  have hnx:=drop_next hd
  have hx:idxA 1 (.sl .sh (ns.map .str)) (.int .i64 (i:Nat))=some (.ref [.str s]):=idx_row (f:=AV.str) hd rfl
  have hf:=hof s
  have e:madeF g (s::post) acc=if(g s).2=0 then madeF g post (if 0<(g s).1 then acc++[⟨s,(g s).1⟩]else acc)else([],(g s).2):=rfl
  rw[e]
  by_cases h0:(g s).2=0
  ·rw[if_pos h0]
   rw[h0]at hf
   by_cases hp:0<(g s).1
   ·rw[if_pos hp]
    have ih':=ih (i+1) hnx (acc++[⟨s,(g s).1⟩]) (by simp;omega)
    generalize(g s).1=n at hf hp ih'⊢
    have ap:∀bs ls,appendA 2 24 ⟨bs,tkR encA acc,ls⟩ (rowF encA acc) (.sl .full [.agg [.str s,.int .i64 n]])=some (rowF encA (acc++[⟨s,n⟩]),⟨bs,tkR encA (acc++[⟨s,n⟩]),ls⟩):=fun bs ls=>
     row_append_T encA (x:=⟨s,n⟩) (by simp;omega) lenA2 rfl rfl
    exact let ζ1:Heap:={boxes:=[[x0],[x1],[.func f [.ptr 0 0,.ptr 1 0]],[.sl .sh (vs.map encV)],[.sl (skF acc) (acc.map encA)]],toks:=tkR encA acc,loops:=[]:Heap};gG 120 _ hT (.yes (dT ((↑i:Int)<(↑ns.length:Int)))<|.idx hx<|.effY (show Does cfg (.call (.c (.func f [.ptr 0 0,.ptr 1 0])) [.c (.str s)]) ζ1 (.tuple [.int .i64 n,.int .i64 0]) ζ1 from hf _ _)<|.callK ([.int .i64 0]) (.tuple []) stop_ok<|.yes (dT ((0:Int)<n) (by exact hp))<|.append (show appendA 2 24 ζ1 (.sl (skF acc) (acc.map encA)) (.sl .full [.agg [.str s,.int .i64 n]])=some ((rowF encA (acc++[{name:=s,n:=n:Amount}]),{boxes:=[[x0],[x1],[.func f [.ptr 0 0,.ptr 1 0]],[.sl .sh (vs.map encV)],[.sl (skF acc) (acc.map encA)]],toks:=tkR encA (acc++[{name:=s,n:=n:Amount}]),loops:=[]:Heap}))from ap _ _)<|.bin (iI i)<|.cutQ k49_1 [(2,.ptr 4 0),(1,.ptr 2 0),(20,.sl .sh (List.map .str ns)),(21,.int .i64 (↑ns.length)),(22,.int .i64 (↑(i+1)))] ({boxes:=[[x0],[x1],[.func f [.ptr 0 0,.ptr 1 0]],[.sl .sh (vs.map encV)],[.sl (skF (acc++[{name:=s,n:=n:Amount}])) (List.map encA (acc++[{name:=s,n:=n:Amount}]))]],toks:=tkR encA (acc++[{name:=s,n:=n:Amount}]),loops:=[]:Heap}) (fun T hT=>(ih' T hT)))
   ·rw[if_neg hp]
    have ih':=ih (i+1) hnx acc (by omega)
    generalize(g s).1=n at hf hp ih'⊢
    exact let ζ1:Heap:={boxes:=[[x0],[x1],[.func f [.ptr 0 0,.ptr 1 0]],[.sl .sh (vs.map encV)],[.sl (skF acc) (acc.map encA)]],toks:=tkR encA acc,loops:=[]:Heap};gG 120 _ hT (.yes (dT ((↑i:Int)<(↑ns.length:Int)))<|.idx hx<|.effY (show Does cfg (.call (.c (.func f [.ptr 0 0,.ptr 1 0])) [.c (.str s)]) ζ1 (.tuple [.int .i64 n,.int .i64 0]) ζ1 from hf _ _)<|.callK ([.int .i64 0]) (.tuple []) stop_ok<|.no (dF ((0:Int)<n) (by exact hp))<|.bin (iI i)<|.cutQ k49_1 [(2,.ptr 4 0),(1,.ptr 2 0),(20,.sl .sh (List.map .str ns)),(21,.int .i64 (↑ns.length)),(22,.int .i64 (↑(i+1)))] (ζ1) (fun T hT=>(ih' T hT)))
  ·rw[if_neg h0]
   have hst:=stop_pan h0
   have e:finV ([],(g s).2)=([],(g s).2):=by simp[finV,h0]
   rw[e]
   generalize(g s).2=e at hf h0 hst⊢
   exact let ζ1:Heap:={boxes:=[[x0],[x1],[.func f [.ptr 0 0,.ptr 1 0]],[.sl .sh (vs.map encV)],[.sl (skF acc) (acc.map encA)]],toks:=tkR encA acc,loops:=[]:Heap};gG 120 _ hT (.yes (dT ((↑i:Int)<(↑ns.length:Int)))<|.idx hx<|.effY (show Does cfg (.call (.c (.func f [.ptr 0 0,.ptr 1 0])) [.c (.str s)]) ζ1 (.tuple [.int .i64 (g s).fst,.int .i64 e]) ζ1 from hf _ _)<|.callP ([.int .i64 e]) (ζ1) hst ⟨rfl,rfl⟩ rfl (by exact .inr ⟨h0,rfl⟩))
theorem made_loop1(hof:∀s(B:List (List AV))(tk:List Nat),Does cfg (.call (.c (.func f [.ptr 0 0,.ptr 1 0])) [.c (.str s)]) ⟨[x0]::[x1]::B,tk,[]⟩ (.tuple [.int .i64 (g s).1,.int .i64 (g s).2]) ⟨[x0]::[x1]::B,tk,[]⟩)
 (hv:vs.length≤100):∀(post:List (List Amount))(i:Nat)(hd:vs.drop i=post)(hp:∀v∈vs.take i,ckV v=0)(T:Env)
 (hT:Has T [(0,.ptr 3 0),(1,.ptr 2 0),(2,.ptr 4 0),(9,.sl .sh (vs.map encV)),(10,.int .i64 vs.length),(11,.int .i64 i)]),
 Goes cfg a49 k49_0 T (hMd f x0 x1 vs []) (MadeR f x0 x1 vs (if firstE (post.map ckV)=0 then finV (madeF g (namesOf (allNames vs)) [])else([],firstE (post.map ckV)))):=by
 intro post
 induction post with
 |nil=>
  intro i hd hp T hT
  have hge:=drop_ge hd
  have hall:∀v∈vs,v.length≤100:=fun v hm=>by
   have:=hp v (by rw[List.take_of_length_le hge];exact hm)
   unfold ckV at this
   split at this
   ·omega
   ·cases this
  have hn:=names_any vs hv hall
  have hnl:(namesOf (allNames vs)).length≤10000:=by
   have h1:(namesOf (allNames vs)).length≤(allNames vs).length:=by
    unfold namesOf
    exact Nat.le_trans (uq_len _) (Nat.le_of_eq (isort_length _))
   have h2:∀(l:List (List Amount)),(∀v∈l,v.length≤100)→(allNames l).length≤100*l.length:=by
    intro l
    induction l with
    |nil=>intro _;simp[allNames]
    |cons v l ih=>
     intro h
     have:=ih fun w hw=>h w (by simp[hw])
     have h3:=h v (by simp)
     rw[allNames_cons,List.length_append,List.length_map,List.length_cons]
     omega
   have:=h2 vs hall
   omega
  have hn:=does_callF (xs:=[.sl .sh (vs.map encV)]) hn rfl rfl (hMd f x0 x1 vs [])
  have h2:=made_loop2 g f x0 x1 vs hof (namesOf (allNames vs)) (by omega) (namesOf (allNames vs)) 0 rfl [] (by simp)
  have e:(if firstE (([]:List (List Amount)).map ckV)=0 then finV (madeF g (namesOf (allNames vs)) [])else([],firstE (([]:List (List Amount)).map ckV)))=finV (madeF g (namesOf (allNames vs)) []):=rfl
  rw[e]
  generalize namesOf (allNames vs)=ns at hn h2 hnl⊢
  exact gG 90 _ hT (.no (dF ((↑i:Int)<(↑vs.length:Int)))<|.effY hn<|.len (lM .sh .str ns)<|.cutQ k49_1 [(2,.ptr 4 0),(1,.ptr 2 0),(20,.sl .sh (List.map .str ns)),(21,.int .i64 (↑ns.length)),(22,.int .i64 0)] ({boxes:=[[x0],[x1],[.func f [.ptr 0 0,.ptr 1 0]],[.sl .sh (vs.map encV)],[.sl .full []]],toks:=[],loops:=[]:Heap}) (fun T hT=>(h2 T hT)))
 |cons v post ih=>
  intro i hd hp T hT
  have hlt:=drop_lt hd
  have hnx:=drop_next hd
  have hx:idxA 1 (.sl .sh (vs.map encV)) (.int .i64 (i:Nat))=some (.ref [encV v]):=idx_row (f:=encV) hd rfl
  have hc:=ckV_any v
  by_cases h0:ckV v=0
  ·have e:firstE ((v::post).map ckV)=firstE (post.map ckV):=by simp[firstE,h0]
   rw[e]
   rw[h0]at hc
   have ih':=ih (i+1) hnx (fun w hw=>by
    rw[drop_take hd,List.mem_append]at hw
    rcases hw with hw|hw
    ·exact hp w hw
    ·rw[List.mem_singleton.1 hw];exact h0)
   exact gG 90 _ hT (.yes (dT ((↑i:Int)<(↑vs.length:Int)))<|.idx hx<|.callK ([.sl .sh (v.map encA)]) (.int .i64 0) hc<|.callK ([.int .i64 0]) (.tuple []) stop_ok<|.bin (iI i)<|.cutQ k49_0 [(0,.ptr 3 0),(1,.ptr 2 0),(2,.ptr 4 0),(9,.sl .sh (vs.map encV)),(10,.int .i64 (↑vs.length)),(11,.int .i64 (↑(i+1)))] ({boxes:=[[x0],[x1],[.func f [.ptr 0 0,.ptr 1 0]],[.sl .sh (vs.map encV)],[.sl .full []]],toks:=[],loops:=[]:Heap}) (fun T hT=>(ih' T hT)))
  ·have e:firstE ((v::post).map ckV)=ckV v:=by simp[firstE,h0]
   rw[e,if_neg h0]
   have hst:=stop_pan h0
   generalize ckV v=c at hc h0 hst⊢
   exact gG 90 _ hT (.yes (dT ((↑i:Int)<(↑vs.length:Int)))<|.idx hx<|.callK ([.sl .sh (v.map encA)]) (.int .i64 c) hc<|.callP ([.int .i64 c]) ({boxes:=[[x0],[x1],[.func f [.ptr 0 0,.ptr 1 0]],[.sl .sh (vs.map encV)],[.sl .full []]],toks:=[],loops:=[]:Heap}) hst ⟨rfl,rfl⟩ rfl (by exact .inr ⟨h0,rfl⟩))
theorem made_any(hof:∀s(B:List (List AV))(tk:List Nat),Does cfg (.call (.c (.func f [.ptr 0 0,.ptr 1 0])) [.c (.str s)]) ⟨[x0]::[x1]::B,tk,[]⟩ (.tuple [.int .i64 (g s).1,.int .i64 (g s).2]) ⟨[x0]::[x1]::B,tk,[]⟩)
 (hv:vs.length≤100)(hx:data0 x0=true∧data0 x1=true):∃H',Does cfg (.call (.c (.func 46 [])) [.c (.func f [.ptr 0 0,.ptr 1 0]),.c (.sl .sh (vs.map encV))]) ⟨[[x0],[x1]],[],[]⟩ (.tuple [.sl .sh ((madeV g vs).1.map encA),.int .i64 (madeV g vs).2]) H':=by
 have h1:=made_loop1 g f x0 x1 vs hof hv vs 0 rfl (by simp)
 have key:Goes cfg a49 [.c c49] (initEnv [.ptr 3 0,.ptr 2 0,.ptr 4 0]) (hMd f x0 x1 vs []) (MadeR f x0 x1 vs (madeV g vs)):=by
  exact gG 60 [] trivial (.len (lM .sh encV vs)<|.cutQ k49_0 [(0,.ptr 3 0),(1,.ptr 2 0),(2,.ptr 4 0),(9,.sl .sh (vs.map encV)),(10,.int .i64 (↑vs.length)),(11,.int .i64 0)] ({boxes:=[[x0],[x1],[.func f [.ptr 0 0,.ptr 1 0]],[.sl .sh (vs.map encV)],[.sl .full []]],toks:=[],loops:=[]:Heap}) (fun T hT=>(h1 T hT)))
 obtain⟨⟨a,H1⟩,hr,hR⟩:=key
 have hin:∀nb nt,in2 nb nt x0=true∧in2 nb nt x1=true:=fun nb nt=>⟨in2_data0 hx.1,in2_data0 hx.2⟩
 rcases hR with⟨he,hR⟩|⟨he,hR⟩
 ·simp only[Prod.mk.injEq]at hR
  obtain⟨rfl,rfl⟩:=hR
  have ht:lim cfg (.fn 40) [.func 49 [.ptr 3 0,.ptr 2 0,.ptr 4 0]] (hMd f x0 x1 vs [])=some (.ret (.int .i64 0),hMd f x0 x1 vs (madeV g vs).1):=by
   rw[lim_try rfl,l49,hr];rfl
  have hd:Does cfg (.call (.c (.func 40 [])) [.c (.func 49 [.ptr 3 0,.ptr 2 0,.ptr 4 0])]) (hMd f x0 x1 vs []) (.int .i64 0) (hMd f x0 x1 vs (madeV g vs).1):=by
   have hd:=does_callE (xs:=[.func 49 [.ptr 3 0,.ptr 2 0,.ptr 4 0]]) (caps:=[]) ht rfl rfl
   refine Eq.mp ?_ hd
   congr 1
   generalize(madeV g vs).1=l
   show trunc 5 0 (.int .i64 0) ⟨[[x0],[x1],[.func f [.ptr 0 0,.ptr 1 0]],[.sl .sh (vs.map encV)],[rowF encA l]],tkR encA l,[]⟩=_
   cases l with
   |nil=>exact trunc_len (by rfl)
   |cons y l=>
    rw[tk_cons]
    refine(trunc_keep (by rfl) ?_).trans ?_
    ·simp[rowF,skF,in2,in1,in0]
    ·rw[←tk_cons encA y l];rfl
  rw[he]
  generalize(madeV g vs).1=l at hd⊢
  have k2:Goes cfg a46 [.c c46] (initEnv [.func f [.ptr 0 0,.ptr 1 0],.sl .sh (vs.map encV)]) ⟨[[x0],[x1]],[],[]⟩ (fun r=>r.1=.ret (.tuple [rowF encA l,.int .i64 0])):=by
   exact gG 60 [] trivial (.effY hd<|.ff<|.fin ((.ret (.tuple [.sl (skF l) (l.map encA),.int .i64 0]),{boxes:=[[x0],[x1],[.func f [.ptr 0 0,.ptr 1 0]],[.sl .sh (vs.map encV)],[.sl (skF l) (l.map encA)]],toks:=tkR encA l,loops:=[]:Heap})) rfl)
  obtain⟨⟨a,H2⟩,h2,h3⟩:=k2
  simp only at h3
  subst h3
  have h4:lim cfg (.fn 46) ([.func f [.ptr 0 0,.ptr 1 0],.sl .sh (vs.map encV)]++[]) ⟨[[x0],[x1]],[],[]⟩=some (.ret (.tuple [rowF encA l,.int .i64 0]),H2):=by
   rw[List.append_nil,l46];exact h2
  have hd2:=does_callE h4 rfl rfl
  have es:shutA (.tuple [rowF encA l,.int .i64 0])=.tuple [.sl .sh (l.map encA),.int .i64 0]:=by cases l<;>rfl
  rw[es]at hd2
  exact⟨_,hd2⟩
 ·simp only at hR
  subst hR
  have ht:lim cfg (.fn 40) [.func 49 [.ptr 3 0,.ptr 2 0,.ptr 4 0]] (hMd f x0 x1 vs [])=some (.ret (.int .i64 (madeV g vs).2),H1):=by
   rw[lim_try rfl,l49,hr];rfl
  have hd:=does_callE (xs:=[.func 49 [.ptr 3 0,.ptr 2 0,.ptr 4 0]]) (caps:=[]) ht rfl rfl
  generalize trunc _ _ _ H1=H2 at hd
  have e0:(madeV g vs).1=[]:=by
   unfold madeV at he⊢
   split
   ·rename_i h;rw[if_pos h]at he
    unfold finV at he⊢
    split
    ·rename_i h2;rw[if_pos h2]at he
     split
     ·rfl
     ·rename_i h3;rw[if_neg h3]at he;exact absurd rfl he
    ·rfl
   ·rfl
  rw[e0]
  generalize(madeV g vs).2=c at hd he⊢
  have k2:Goes cfg a46 [.c c46] (initEnv [.func f [.ptr 0 0,.ptr 1 0],.sl .sh (vs.map encV)]) ⟨[[x0],[x1]],[],[]⟩ (fun r=>r.1=.ret (.tuple [.sl .full [],.int .i64 c])):=by
   exact gG 60 [] trivial (.effY hd<|.yes (show(c !=(0:Int))=true from(by simpa using he))<|.fin ((.ret (.tuple [.sl .full [],.int .i64 c]),H2)) rfl)
  obtain⟨⟨a,H3⟩,h2,h3⟩:=k2
  simp only at h3
  subst h3
  have h4:lim cfg (.fn 46) ([.func f [.ptr 0 0,.ptr 1 0],.sl .sh (vs.map encV)]++[]) ⟨[[x0],[x1]],[],[]⟩=some (.ret (.tuple [.sl .full [],.int .i64 c]),H3):=by
   rw[List.append_nil,l46];exact h2
  have hd2:=does_callE h4 rfl rfl
  exact⟨_,hd2⟩
end
theorem add_of(a b:List Amount)(ha:a.length<9223372036854775807)(hb:b.length<9223372036854775807)(ra:∀s,inI (getQ a s))(rb:∀s,inI (getQ b s))(s:List UInt8)(B:List (List AV))(tk:List Nat):
 Does cfg (.call (.c (.func 47 [.ptr 0 0,.ptr 1 0])) [.c (.str s)]) ⟨[encV a]::[encV b]::B,tk,[]⟩ (.tuple [.int .i64 (addQ (getQ a s) (getQ b s)).1,.int .i64 (addQ (getQ a s) (getQ b s)).2]) ⟨[encV a]::[encV b]::B,tk,[]⟩:=by
 have g1:=getQ_any a s ha
 have g2:=getQ_any b s hb
 have g3:=qadd_any _ _ (ra s) (rb s)
 generalize getQ a s=p at g1 g3⊢
 generalize getQ b s=q at g2 g3⊢
 generalize addQ p q=z at g3⊢
 have key:Goes cfg a47 [.c c47] (initEnv [.str s,.ptr 0 0,.ptr 1 0]) ⟨[encV a]::[encV b]::B,tk,[]⟩ (fun r=>r=(.ret (.tuple [.int .i64 z.1,.int .i64 z.2]),⟨[encV a]::[encV b]::B,tk,[]⟩)):=by
  exact let ζ1:Heap:={boxes:=[.sl .sh (a.map encA)]::[.sl .sh (b.map encA)]::B,toks:=tk,loops:=[]:Heap};let ζ2:List AV:=[.int .i64 z.fst,.int .i64 z.snd];let ζ3:List AV:=[.sl .sh (a.map encA),.str s];let ζ4:List AV:=[.sl .sh (b.map encA),.str s];gG 60 [] trivial (.load (lB false 1 ζ1 0 0 (.sl .sh (a.map encA)) [.sl .sh (a.map encA)])<|.callK (ζ3) (.int .i64 p) g1<|.load (lB false 1 ζ1 1 0 (.sl .sh (b.map encA)) [.sl .sh (b.map encA)])<|.callK (ζ4) (.int .i64 q) g2<|.callK ([.int .i64 p,.int .i64 q]) (.tuple ζ2) g3<|.fin ((.ret (.tuple ζ2),ζ1)) rfl)
 obtain⟨r,h,rfl⟩:=key
 have h2:lim cfg (.fn 47) ([.str s]++[.ptr 0 0,.ptr 1 0]) ⟨[encV a]::[encV b]::B,tk,[]⟩=some (.ret (.tuple [.int .i64 z.1,.int .i64 z.2]),⟨[encV a]::[encV b]::B,tk,[]⟩):=by
  rw[show([AV.str s]++[.ptr 0 0,.ptr 1 0])=[.str s,.ptr 0 0,.ptr 1 0]from rfl,l47];exact h
 have hd:=does_callE h2 rfl rfl
 rwa [trunc_self]at hd
def rgA(v:List Amount):Prop:=∀x∈v,inI x.n
theorem rg_get{v:List Amount}(h:rgA v)(s:List UInt8):inI (getQ v s):=by
 unfold getQ
 split
 ·rename_i x hx;exact h x (List.mem_of_find?_eq_some hx)
 ·unfold inI;omega
def addV(a b:List Amount):List Amount×Int:=madeV (fun s=>addQ (getQ a s) (getQ b s)) [a,b]
theorem addV_any(a b:List Amount)(ha:a.length<9223372036854775807)(hb:b.length<9223372036854775807)(ra:rgA a)(rb:rgA b):
 Gives cfg 43 [.sl .sh (a.map encA),.sl .sh (b.map encA)] (.tuple [.sl .sh ((addV a b).1.map encA),.int .i64 (addV a b).2]):=by
 refine Gives.run (l43 _ _) ?_
 obtain⟨H',h⟩:=made_any (fun s=>addQ (getQ a s) (getQ b s)) 47 (encV a) (encV b) [a,b] (add_of a b ha hb (rg_get ra) (rg_get rb)) (by simp) ⟨rfl,rfl⟩
 have h2:Does cfg (.call (.c (.func 46 [])) [.c (.func 47 [.ptr 0 0,.ptr 1 0]),.c (.sl .sh [.sl .sh (a.map encA),.sl .sh (b.map encA)])]) ⟨[[.sl .sh (a.map encA)],[.sl .sh (b.map encA)]],[],[]⟩ (.tuple [.sl .sh ((addV a b).1.map encA),.int .i64 (addV a b).2]) H':=h
 have h3:Does cfg (.call (.c (.func 46 [])) [.c (.func 47 [.ptr 0 0,.ptr 1 0]),.c (.sl .full [.sl .sh (a.map encA),.sl .sh (b.map encA)])]) ⟨[[.sl .sh (a.map encA)],[.sl .sh (b.map encA)]],[],[]⟩ (.tuple [.sl .sh ((addV a b).1.map encA),.int .i64 (addV a b).2]) H':=fun T=>h2 T
 generalize addV a b=z at h3⊢
 exact let ζ1:List AV:=[.sl .sh (z.fst.map encA),.int .i64 z.snd];gG 60 [] trivial (.effY h3<|.fin ((.ret (.tuple ζ1),H')) rfl)
end Go.Aa.T
set_option linter.unusedVariables false
set_option linter.unusedSimpArgs false
set_option maxRecDepth 100000
namespace Go.Aa.T
open Go.Aa Go.Proofs
class FlC(x:AV):Prop where
 p:Fl x
instance(x:AV) [h:FlC x]:Dat x:=h.p.dat
theorem Fl.sh1{x:AV}(h:Fl x):Go.Aa.shut1 x=x:=by cases h<;>rfl
theorem Fl.d0{x:AV}(h:Fl x):Go.Aa.data0 x=true:=by cases h<;>rfl
instance(x y:AV) [hx:FlC x] [hy:FlC y]:Dat (.agg [x,y]):=⟨by
 refine⟨?_,?_⟩
 ·show AV.agg [shut1 x,shut1 y]=_
  rw[hx.p.sh1,hy.p.sh1]
 ·show(data0 x&&(data0 y&&true))=true
  rw[hx.p.d0,hy.p.d0];rfl⟩
theorem idxF{l post:List AV}{x:AV}{i:Nat}{k:SK}{q:IntKind}(h:l.drop i=x::post)(hx:Fl x):idxA 1 (.sl k l) (.int q (i:Int))=some (.ref [x]):=by
 have e:=idx_at (es:=1) (k:=k) (q:=q) (drop_at h) hx.cell
 rwa [hx.cells]at e
theorem fll_tail{x:AV}{l:List AV}(h:FlL (x::l)):FlL l:=fun y hy=>h y (List.mem_cons_of_mem _ hy)
theorem fll_mem{l post:List AV}{x:AV}{i:Nat}(h:FlL l)(hd:l.drop i=x::post):Fl x:=h x (drop_mem hd)
section
variable{H:Heap}{g:FuncId}{k:Nat}{p:AV→Bool}
theorem idxFl_loop(hd:∀y,Fl y→Does cfg (.call (.c (.func g [.ptr k 0])) [.c y]) H (.bool (p y)) H)(l:List AV)(hl:FlL l)(hn:l.length<9223372036854775807):∀(post:List AV)(i:Nat)(hdr:l.drop i=post)(T:Env)
 (hT:Has T [(0,.sl .sh l),(1,.func g [.ptr k 0]),(7,.int .i64 l.length),(8,.int .i64 i)]),
 Goes cfg a25 k25_0 T H (fun r=>r=(.ret (.int .i64 (fidxB p post i)),H)):=by
 intro post
 induction post with
 |nil=>
  intro i hdr T hT
  have hge:=drop_ge hdr
  exact gG 60 _ hT (.no (dF ((↑i:Int)<(↑l.length:Int)))<|.fin ((.ret (.int .i64 (-1:Int)),H)) rfl)
 |cons x post ih=>
  intro i hdr T hT
  have hlt:=drop_lt hdr
  have hnx:=drop_next hdr
  have fx:=fll_mem hl hdr
  have hdx:=hd x fx
  have hxi:idxA 1 (.sl .sh l) (.int .i64 (i:Int))=some (.ref [x]):=idxF hdr fx
  cases hp:p x with
  |true=>
   rw[hp]at hdx
   have e:fidxB p (x::post) i=i:=by simp[fidxB,hp]
   rw[e]
   exact gG 60 _ hT (.yes (dT ((↑i:Int)<(↑l.length:Int)))<|.idx hxi<|.load (rfl:loadA false 1 H (.ref [x])=some (x))<|.effY hdx<|.tt<|.fin ((.ret (.int .i64 ↑i),H)) rfl)
  |false=>
   rw[hp]at hdx
   have e:fidxB p (x::post) i=fidxB p post (i+1):=by simp[fidxB,hp]
   rw[e]
   exact gG 60 _ hT (.yes (dT ((↑i:Int)<(↑l.length:Int)))<|.idx hxi<|.load (rfl:loadA false 1 H (.ref [x])=some (x))<|.effY hdx<|.ff<|.bin (iI i)<|.cutQ k25_0 [(0,.sl .sh l),(1,.func g [.ptr k 0]),(7,.int .i64 (↑l.length)),(8,.int .i64 (↑(i+1)))] (H) (fun T hT=>(ih (i+1) hnx T hT)))
theorem idxFl(hd:∀y,Fl y→Does cfg (.call (.c (.func g [.ptr k 0])) [.c y]) H (.bool (p y)) H)(l:List AV)(hl:FlL l)(hn:l.length<9223372036854775807):
 lim cfg (.fn 25) [.sl .sh l,.func g [.ptr k 0]] H=some (.ret (.int .i64 (fidxB p l 0)),H):=by
 rw[l25]
 have h:=idxFl_loop hd l hl hn l 0 rfl
 have key:Goes cfg a25 [.c c25] (initEnv [.sl .sh l,.func g [.ptr k 0]]) H (fun r=>r=(.ret (.int .i64 (fidxB p l 0)),H)):=by
  exact gG 60 [] trivial (.len (show lenA false (.sl .sh l)=some (.int .i64 (↑l.length))from len_sl _ _)<|.cutQ k25_0 [(0,.sl .sh l),(1,.func g [.ptr k 0]),(7,.int .i64 (↑l.length)),(8,.int .i64 0)] (H) (fun T hT=>(h T hT)))
 obtain⟨r,h,rfl⟩:=key
 exact h
theorem anyFl(hd:∀y,Fl y→Does cfg (.call (.c (.func g [.ptr k 0])) [.c y]) H (.bool (p y)) H)(l:List AV)(hl:FlL l)(hn:l.length<9223372036854775807):
 Does cfg (.call (.c (.func 14 [])) [.c (.sl .sh l),.c (.func g [.ptr k 0])]) H (.bool (l.any p)) H:=by
 have h0:=does_callE (xs:=[.sl .sh l,.func g [.ptr k 0]]) (caps:=[]) (idxFl hd l hl hn) rfl rfl
 rw[show shutA (.int .i64 (fidxB p l 0))=.int .i64 (fidxB p l 0)from rfl,trunc_self]at h0
 have hf:decide (0≤fidxB p l 0)=l.any p:=fidxB_ge p l 0
 have key:Goes cfg a14 [.c c14] (initEnv [.sl .sh l,.func g [.ptr k 0]]) H (fun r=>r=(.ret (.bool (l.any p)),H)):=by
  rw[←hf]
  generalize fidxB p l 0=c at h0
  exact gG 60 [] trivial (.effY h0<|.fin ((.ret (.bool (decide ((0:Int)≤c))),H)) rfl)
 obtain⟨r,h,rfl⟩:=key
 have h2:lim cfg (.fn 14) ([.sl .sh l,.func g [.ptr k 0]]++[]) H=some (.ret (.bool (l.any p)),H):=by
  rw[l14];exact h
 have h3:=does_callE (xs:=[.sl .sh l,.func g [.ptr k 0]]) (caps:=[]) h2 rfl rfl
 rwa [show shutA (.bool (l.any p))=.bool (l.any p)from rfl,trunc_self]at h3
end
theorem Fl.C{x:AV}(h:Fl x):FlC x:=⟨h⟩
def grF(m:AV)(l:List AV):AV:=l.foldl (fun m x=>if 0<cmp x m then x else m) m
theorem grF_fl:∀{l:List AV}{m:AV},Fl m→FlL l→Fl (grF m l)
 |[],m,h,_=>h
 |x::l,m,h,hl=>by
  show Fl (grF (if 0<cmp x m then x else m) l)
  refine grF_fl ?_ (fll_tail hl)
  split
  ·exact hl x (by simp)
  ·exact h
def great:List AV→AV
 |[]=>.nan
 |m::l=>grF m l
theorem great_fl{l:List AV}(hl:FlL l):Fl (great l):=by
 cases l with
 |nil=>exact .nan
 |cons m l=>exact grF_fl (hl m (by simp)) (fll_tail hl)
theorem mul_m1{q:Int}(h1: -1≤q)(h2:q≤1):binA .mul (.int .i64 q) (.int .i64 (-1))=some (.int .i64 (-q)):=by
 have:q= -1∨q=0∨q=1:=by omega
 rcases this with rfl|rfl|rfl<;>rfl
theorem slice_tail(x:AV){l:List AV}(hl:FlL l)(hn:l.length<9223372036854775807):sliceA 1 (.sl .sh (x::l)) (some (.int .i64 1)) none none=some (.sl .sh l):=by
 have h1:boundA (x::l).length none (x::l).length=some (x::l).length:=rfl
 have h2:boundA (x::l).length (some (.int .i64 1)) 0=some 1:=by
  simp only[boundA]
  rw[if_pos ⟨by omega,by simp only[List.length_cons];omega⟩];rfl
 simp only[sliceA,sliceSl]
 rw[if_neg (by omega),h1]
 simp only[h2]
 cases l with
 |nil=>rfl
 |cons y l=>
  have:cellsN 1 y=true:=(hl y (by simp)).cell
  simp[this]
theorem best_loop(m0:AV)(l:List AV)(hl:FlL l)(hn:l.length<9223372036854775807):∀(post:List AV)(i:Nat)(hd:l.drop i=post)(m:AV)(hm:Fl m)(T:Env)
 (hT:Has T [(1,.int .i64 (-1)),(5,m),(16,.sl .sh l),(17,.int .i64 l.length),(18,.int .i64 i)]),
 Goes cfg a28 k28_0 T Heap.nil (IsRet (grF m post)):=by
 intro post
 induction post with
 |nil=>
  intro i hd m hm T hT
  have hge:=drop_ge hd
  haveI:=hm.C
  rw[show grF m []=m from rfl]
  exact gG 60 _ hT (.no (dF ((↑i:Int)<(↑l.length:Int)))<|.fin ((.ret m,{boxes:=[],toks:=[],loops:=[]:Heap})) rfl)
 |cons x post ih=>
  intro i hd m hm T hT
  have hlt:=drop_lt hd
  have hnx:=drop_next hd
  have fx:=fll_mem hl hd
  haveI:=hm.C
  haveI:=fx.C
  have hxi:idxA 1 (.sl .sh l) (.int .i64 (i:Int))=some (.ref [x]):=idxF hd fx
  have hc:=compare_any fx hm
  have ha:=cmp_abs x m
  have e:grF m (x::post)=grF (if 0<cmp x m then x else m) post:=rfl
  rw[e]
  generalize cmp x m=q at hc ha⊢
  have hmu:=mul_m1 ha.1 ha.2
  by_cases h:0<q
  ·rw[if_pos h]
   have ih':=ih (i+1) hnx x fx
   exact gG 60 _ hT (.yes (dT ((↑i:Int)<(↑l.length:Int)))<|.idx hxi<|.callG ([x,m]) (.int .i64 q) hc Shuts.p ⟨rfl,rfl⟩<|.bin hmu<|.yes (dT ( -q<(0:Int)))<|.bin (iI i)<|.cutQ k28_0 [(1,.int .i64 (-1:Int)),(5,x),(16,.sl .sh l),(17,.int .i64 (↑l.length)),(18,.int .i64 (↑(i+1)))] ({boxes:=[],toks:=[],loops:=[]:Heap}) (fun T hT=>(ih' T hT)))
  ·rw[if_neg h]
   have ih':=ih (i+1) hnx m hm
   exact gG 60 _ hT (.yes (dT ((↑i:Int)<(↑l.length:Int)))<|.idx hxi<|.callG ([x,m]) (.int .i64 q) hc Shuts.p ⟨rfl,rfl⟩<|.bin hmu<|.no (dF ( -q<(0:Int)))<|.bin (iI i)<|.cutQ k28_0 [(1,.int .i64 (-1:Int)),(5,m),(16,.sl .sh l),(17,.int .i64 (↑l.length)),(18,.int .i64 (↑(i+1)))] ({boxes:=[],toks:=[],loops:=[]:Heap}) (fun T hT=>(ih' T hT)))
theorem best_any{l:List AV}(hl:FlL l)(hn:l.length<9223372036854775807):Gives cfg 28 [.sl .sh l,.int .i64 (-1)] (great l):=by
 refine Gives.run (l28 _ _) ?_
 cases l with
 |nil=>
  have h:=nan_any
  exact gG 60 [] trivial (.len (show lenA false (.sl .sh [])=some (.int .i64 (↑[].length:Int))from len_sl _ _)<|.tt<|.callK ([]) (AV.nan) h<|.fin ((.ret AV.nan,{boxes:=[],toks:=[],loops:=[]:Heap})) rfl)
 |cons m l=>
  have fm:=hl m (by simp)
  haveI:=fm.C
  have fl:=fll_tail hl
  have hn':l.length<9223372036854775807:=by simp only[List.length_cons]at hn;omega
  have hs:=slice_tail m fl hn'
  have hx:idxA 1 (.sl .sh (m::l)) (.int .i64 0)=some (.ref [m]):=idxF (i:=0) rfl fm
  have h:=best_loop m l fl hn' l 0 rfl m fm
  rw[show great (m::l)=grF m l from rfl]
  generalize hg:grF m l=z at h⊢
  exact gG 60 [] trivial (.len (show lenA false (.sl .sh (m::l))=some (.int .i64 (↑(m::l).length:Int))from len_sl _ _)<|.ff<|.idx hx<|.slice hs<|.len (show lenA false (.sl .sh l)=some (.int .i64 (↑l.length))from len_sl _ _)<|.cutQ k28_0 [(1,.int .i64 (-1:Int)),(5,m),(16,.sl .sh l),(17,.int .i64 (↑l.length)),(18,.int .i64 0)] ({boxes:=[],toks:=[],loops:=[]:Heap}) (fun T hT=>(h T hT)))
theorem mostF_any{l:List AV}(hl:FlL l)(hn:l.length<9223372036854775807):Gives cfg 20 [.sl .sh l] (great l):=by
 refine Gives.run (l20 _ _) ?_
 have h:=best_any hl hn
 haveI:=(great_fl hl).C
 generalize great l=z at*
 exact gG 60 [] trivial (.callG ([.sl .sh l,.int .i64 (-1:Int)]) (z) h ⟨rfl,rfl⟩ Res.p<|.fin ((.ret z,{boxes:=[],toks:=[],loops:=[]:Heap})) rfl)
end Go.Aa.T
set_option linter.unusedVariables false
set_option linter.unusedSimpArgs false
set_option maxRecDepth 100000
namespace Go.Aa.T
open Go.Aa Go.Proofs
structure Pod where
 name:List UInt8
 owner:List UInt8
 prio:Int
 need:List Amount
 labels:List Pair
 sel:List Term
 tols:List Tol
 key:List UInt8
 most:Int
 node:List UInt8
 hold:Bool
def encPd(p:Pod):AV:=.agg [.str p.name,.str p.owner,.int .i64 p.prio,.sl .sh (p.need.map encA),.sl .sh (p.labels.map encP),.sl .sh (p.sel.map encM),.sl .sh (p.tols.map encL),.str p.key,.int .i64 p.most,.str p.node,.bool p.hold]
structure PodOk(p:Pod):Prop where
 name:isName p.name=true
 owner:p.owner=[]∨isName p.owner=true
 prio: -1≤p.prio∧p.prio≤1000000
 hold:p.hold=decide (p.prio= -1)
 need:ckV p.need=0
 labels:ckS p.labels=0
 sel:ckM p.sel=0
 tols:ckL p.tols=0
 key:p.key=[]∨isName p.key=true
 most:0≤p.most∧p.most≤128∧(p.key=[]↔p.most=0)
 node:p.node=[]∨isName p.node=true
end Go.Aa.T
set_option linter.unusedVariables false
set_option linter.unusedSimpArgs false
set_option maxRecDepth 100000
namespace Go.Aa.T
open Go.Aa Go.Proofs
instance(n:Pod):Dat (encPd n):=⟨rfl,rfl⟩
structure FewPod(p:Pod):Prop where
 name:p.name.length≤50
 owner:p.owner.length≤50
 key:p.key.length≤50
 node:p.node.length≤50
 need:p.need.length≤20
 labels:p.labels.length≤20
 sel:p.sel.length≤20
 tols:p.tols.length≤20
 fneed:fewA p.need=true
 flabels:fewP p.labels=true
 fsel:fewM p.sel=true
 ftols:fewL p.tols=true
end Go.Aa.T
set_option linter.unusedVariables false
set_option linter.unusedSimpArgs false
set_option maxRecDepth 100000
namespace Go.Aa.T
open Go.Aa Go.Proofs
structure Bud where
 name:List UInt8
 sel:List Term
 floor:Int
def encB(b:Bud):AV:=.agg [.str b.name,.sl .sh (b.sel.map encM),.int .i64 b.floor]
instance(n:Bud):Dat (encB n):=⟨rfl,rfl⟩
end Go.Aa.T
set_option linter.unusedVariables false
set_option linter.unusedSimpArgs false
set_option maxRecDepth 100000
namespace Go.Aa.T
open Go.Aa Go.Proofs
structure VOk(v:List Amount):Prop where
 len:v.length≤8
 name:∀x∈v,isName x.name=true
 pos:∀x∈v,0<x.n
 rise:Rise (nms v)
def kq:Bool→SK
 |true=>.sh
 |false=>.full
instance(c:Bool)(l:List AV):Shut (.sl (kq c) l) (.sl .sh l):=⟨by cases c<;>exact⟨rfl,rfl⟩⟩
def resV(c:Bool)(p:List Amount×Int):AV:=.tuple [.sl (kq c) (p.1.map encA),.int .i64 p.2]
instance(c:Bool)(p:List Amount×Int):Res (resV c p) (.tuple [.sl .sh (p.1.map encA),.int .i64 p.2]):=⟨by
 cases c<;>exact⟨rfl,rfl⟩⟩
def resW(c:Bool)(l:List Amount)(e:Int):AV:=.tuple [.sl (kq c) (l.map encA),.int .i64 e]
instance(c:Bool)(l:List Amount)(e:Int):Res (resW c l e) (.tuple [.sl .sh (l.map encA),.int .i64 e]):=⟨by
 cases c<;>exact⟨rfl,rfl⟩⟩
instance(l:List (List UInt8)):Shut (rowT l) (.sl .sh (l.map .str)):=inferInstanceAs(Shut (rowS Heap.nil (l.map .str)) _)
end Go.Aa.T
set_option linter.unusedVariables false
set_option linter.unusedSimpArgs false
set_option maxRecDepth 100000
namespace Go.Aa.T
open Go.Aa Go.Proofs
structure St where
 nodes:List Node
 pods:List Pod
 buds:List Bud
def encSt(s:St):AV:=.agg [.sl .sh (s.nodes.map encN),.sl .sh (s.pods.map encPd),.sl .sh (s.buds.map encB)]
instance(s:St):Dat (encSt s):=⟨rfl,rfl⟩
def onP(name:List UInt8)(p:Pod):Bool:=p.node==name&& !(name==[])
def onS(s:St)(name:List UInt8):List Pod:=s.pods.filter (onP name)
def sumG:List Amount→List (List Amount)→List Amount×Int
 |acc,[]=>(acc,0)
 |acc,v::vs=>if(addV acc v).2=0 then sumG (addV acc v).1 vs else([],(addV acc v).2)
theorem addQ_in(a b:Int):inI (addQ a b).1:=by
 unfold addQ
 split
 ·unfold inI;omega
 ·rename_i h
  have:=both_ok (a:=a) (b:=b) (by simpa using h)
  unfold toldQ
  split
  ·unfold inI;omega
  ·unfold inI;simp only;omega
theorem madeF_rg{g:OfQ}(hg:∀s,inI (g s).1):∀(l:List (List UInt8))(acc:List Amount),rgA acc→rgA (madeF g l acc).1
 |[],acc,h=>h
 |s::r,acc,h=>by
  unfold madeF
  split
  ·refine madeF_rg hg r _ ?_
   split
   ·intro x hx
    rcases List.mem_append.1 hx with hx|hx
    ·exact h x hx
    ·rw[List.mem_singleton.1 hx];exact hg s
   ·exact h
  ·intro x hx;cases hx
theorem madeV_rg{g:OfQ}(hg:∀s,inI (g s).1)(vs:List (List Amount)):rgA (madeV g vs).1∧(madeV g vs).1.length≤8:=by
 unfold madeV
 split
 ·unfold finV
  split
  ·split
   ·exact⟨fun x hx=>(by cases hx),by simp⟩
   ·exact⟨madeF_rg hg _ _ (fun x hx=>by cases hx),by simp only;omega⟩
  ·exact⟨fun x hx=>(by cases hx),by simp⟩
 ·exact⟨fun x hx=>(by cases hx),by simp⟩
theorem addV_rg(a b:List Amount):rgA (addV a b).1∧(addV a b).1.length≤8:=madeV_rg (fun s=>addQ_in _ _) _
theorem sumG_err:∀(vs:List (List Amount))(acc:List Amount),(sumG acc vs).2≠0→(sumG acc vs).1=[]
 |[],acc,h=>absurd rfl h
 |v::vs,acc,h=>by
  unfold sumG at h⊢
  split
  ·rename_i h0;rw[if_pos h0]at h;exact sumG_err vs _ h
  ·rfl
theorem take_A(l:List AV):Gives cfg 42 [.sl .sh l,.int .i64 0] (.sl .sh l):=by
 refine Gives.run (l42 _ _) ?_
 exact gG 60 [] trivial (.callK ([.int .i64 0]) (.tuple []) stop_ok<|.fin ((.ret (.sl .sh l),{boxes:=[],toks:=[],loops:=[]:Heap})) rfl)
theorem takeN_A(l:List AV){e:Int}(he:¬e=0):Pans cfg 42 [.sl .sh l,.int .i64 e] (stopV e):=by
 have h:=stop_pan he
 refine Pans.run (l42 _ _) ?_
 exact gG 60 [] trivial (.callP ([.int .i64 e]) ({boxes:=[],toks:=[],loops:=[]:Heap}) h ⟨rfl,rfl⟩ rfl rfl)
theorem trunc_ex{bs0 ex:List (List AV)}{tk:List Nat}{v:AV}(hv:∀nb nt,within nb nt v=true)(hb:∀nb nt,bs0.all (·.all (in2 nb nt))=true):trunc bs0.length 0 v ⟨bs0++ex,tk,[]⟩=⟨bs0,[],[]⟩:=by
 unfold trunc
 simp only[List.take_left,List.all_nil,Bool.true_and,hv,hb,Bool.and_self,if_true,List.take_zero]
structure Vin(v:List Amount):Prop where
 len:v.length<9223372036854775807
 rg:rgA v
def SumR(L fv:AV)(p:List Amount×Int)(r:ARes×Heap):Prop:=(p.2=0∧∃c ex,r=(.ret (.tuple []),⟨[L]::[fv]::[.sl (kq c) (p.1.map encA)]::ex,[],[]⟩))∨(p.2≠0∧r.1=.pan (stopV p.2))
theorem sumP_of(x:Pod):Gives cfg 37 [encPd x] (.sl .sh (x.need.map encA)):=by
 refine Gives.run (l37 _ _) ?_
 exact gG 60 [] trivial (.fin ((.ret (.sl .sh (x.need.map encA)),{boxes:=[[.str x.name,.str x.owner,.int .i64 x.prio,.sl .sh (x.need.map encA),.sl .sh (x.labels.map encP),.sl .sh (x.sel.map encM),.sl .sh (x.tols.map encL),.str x.key,.int .i64 x.most,.str x.node,.bool x.hold]],toks:=[],loops:=[]:Heap})) rfl)
theorem sumP_loop(l:List Pod)(hn:l.length<9223372036854775807)(hv:∀x∈l,Vin x.need):∀(post:List Pod)(i:Nat)(hd:l.drop i=post)(acc:List Amount)(ha:acc.length≤8∧rgA acc)(c:Bool)(ex:List (List AV))(T:Env)
 (hT:Has T [(1,.ptr 2 0),(2,.ptr 1 0),(5,.sl .sh (l.map encPd)),(6,.int .i64 l.length),(7,.int .i64 i)]),
 Goes cfg a41 k41_0 T ⟨[.sl .sh (l.map encPd)]::[.func 37 []]::[.sl (kq c) (acc.map encA)]::ex,[],[]⟩ (SumR (.sl .sh (l.map encPd)) (.func 37 []) (sumG acc (post.map (·.need)))):=by
 intro post
 induction post with
 |nil=>
  intro i hd acc ha c ex T hT
  have hge:=drop_ge hd
  exact gG 60 _ hT (.no (dF ((↑i:Int)<(↑l.length:Int)))<|.fin ((.ret (.tuple []),{boxes:=[.sl .sh (l.map encPd)]::[.func 37 []]::[.sl (kq c) (acc.map encA)]::ex,toks:=[],loops:=[]:Heap})) (by exact .inl ⟨rfl,c,ex,rfl⟩))
 |cons x post ih=>
  intro i hd acc ha c ex T hT
  have hlt:=drop_lt hd
  have hnx:=drop_next hd
  have hx:=hv x (drop_mem hd)
  have h1:=sumP_of x
  have h2:=addV_any acc x.need (by omega) hx.len ha.2 hx.rg
  have hr:=addV_rg acc x.need
  have e:sumG acc ((x::post).map (·.need))=if(addV acc x.need).2=0 then sumG (addV acc x.need).1 (post.map (·.need))else([],(addV acc x.need).2):=rfl
  rw[e]
  generalize addV acc x.need=z at h2 hr⊢
  obtain⟨w,er⟩:=z
  simp only at h2 hr⊢
  by_cases h0:er=0
  ·subst h0
   rw[if_pos rfl]
   have h3:=take_A (w.map encA)
   have ih':=ih (i+1) hnx w ⟨hr.2,hr.1⟩ true (ex++[(encPd x).cells])
   have ek:kq true=.sh:=rfl
   rw[ek]at ih'
   exact let ζ1:List AV:=[.str x.name,.str x.owner,.int .i64 x.prio,.sl .sh (x.need.map encA),.sl .sh (x.labels.map encP),.sl .sh (x.sel.map encM),.sl .sh (x.tols.map encL),.str x.key,.int .i64 x.most,.str x.node,.bool x.hold];let ζ2:Heap:={boxes:=[.sl .sh (l.map encPd)]::[.func 37 []]::[.sl (kq c) (acc.map encA)]::(ex++[ζ1]),toks:=[],loops:=[]:Heap};let ζ3:List AV:=[.str [],.str [],.int .i64 0,.sl .full [],.sl .full [],.sl .full [],.sl .full [],.str [],.int .i64 0,.str [],.bool false];let ζ4:Heap:={boxes:=[.sl .sh (l.map encPd)]::[.func 37 []]::[.sl .sh (w.map encA)]::(ex++[ζ1]),toks:=[],loops:=[]:Heap};let ζ5:List AV:=[.sl .sh (w.map encA),.int .i64 0];gG 120 _ hT (.yes (dT ((↑i:Int)<(↑l.length:Int)))<|.idx (iR 11 encPd hd)<|.load (rfl:loadA true 11 {boxes:=[.sl .sh (l.map encPd)]::[.func 37 []]::[.sl (kq c) (acc.map encA)]::ex,toks:=[],loops:=[]:Heap} (.ref ζ1)=some (.agg ζ1))<|.store (show storeA 11 {boxes:=[.sl .sh (l.map encPd)]::[.func 37 []]::[.sl (kq c) (acc.map encA)]::(ex++[ζ3]),toks:=[],loops:=[]:Heap} (.ptr ([.sl .sh (l.map encPd)]::[.func 37 []]::[.sl (kq c) (acc.map encA)]::ex).length 0) (.agg ζ1)=some (ζ2)from store_box2 (cs:=ζ3) (cs':=ζ1) (by simp+zetaDelta) rfl (by simp+zetaDelta [List.set_append]))<|.load (lB false 1 ζ2 2 0 (.sl (kq c) (acc.map encA)) [.sl (kq c) (acc.map encA)])<|.load (lB false 1 ζ2 1 0 (.func 37 []) [.func 37 []])<|.load (show loadA true 11 ζ2 (.ptr ([.sl .sh (l.map encPd)]::[.func 37 []]::[.sl (kq c) (acc.map encA)]::ex).length 0)=some (.agg ζ1)from load_box (cs:=ζ1) (by simp+zetaDelta) rfl)<|.callK ([.agg ζ1]) (.sl .sh (x.need.map encA)) h1<|.callG ([.sl (kq c) (acc.map encA),.sl .sh (x.need.map encA)]) (.tuple ζ5) h2 Shuts.p ⟨rfl,rfl⟩<|.callK (ζ5) (.sl .sh (w.map encA)) h3<|.store (show storeA 1 ζ2 (.ptr 2 0) (.sl .sh (w.map encA))=some (ζ4)from store_box2 (cs:=[.sl (kq c) (acc.map encA)]) (cs':=[.sl .sh (w.map encA)]) (by simp+zetaDelta) rfl (by simp+zetaDelta [List.set_append]))<|.bin (iI i)<|.cutQ k41_0 [(1,.ptr 2 0),(2,.ptr 1 0),(5,.sl .sh (l.map encPd)),(6,.int .i64 (↑l.length)),(7,.int .i64 (↑(i+1)))] (ζ4) (fun T hT=>(ih' T hT)))
  ·rw[if_neg h0]
   have h3:=takeN_A (w.map encA) h0
   exact let ζ1:List AV:=[.str x.name,.str x.owner,.int .i64 x.prio,.sl .sh (x.need.map encA),.sl .sh (x.labels.map encP),.sl .sh (x.sel.map encM),.sl .sh (x.tols.map encL),.str x.key,.int .i64 x.most,.str x.node,.bool x.hold];let ζ2:Heap:={boxes:=[.sl .sh (l.map encPd)]::[.func 37 []]::[.sl (kq c) (acc.map encA)]::(ex++[ζ1]),toks:=[],loops:=[]:Heap};let ζ3:List AV:=[.str [],.str [],.int .i64 0,.sl .full [],.sl .full [],.sl .full [],.sl .full [],.str [],.int .i64 0,.str [],.bool false];let ζ4:List AV:=[.sl .sh (w.map encA),.int .i64 er];gG 120 _ hT (.yes (dT ((↑i:Int)<(↑l.length:Int)))<|.idx (iR 11 encPd hd)<|.load (rfl:loadA true 11 {boxes:=[.sl .sh (l.map encPd)]::[.func 37 []]::[.sl (kq c) (acc.map encA)]::ex,toks:=[],loops:=[]:Heap} (.ref ζ1)=some (.agg ζ1))<|.store (show storeA 11 {boxes:=[.sl .sh (l.map encPd)]::[.func 37 []]::[.sl (kq c) (acc.map encA)]::(ex++[ζ3]),toks:=[],loops:=[]:Heap} (.ptr ([.sl .sh (l.map encPd)]::[.func 37 []]::[.sl (kq c) (acc.map encA)]::ex).length 0) (.agg ζ1)=some (ζ2)from store_box2 (cs:=ζ3) (cs':=ζ1) (by simp+zetaDelta) rfl (by simp+zetaDelta [List.set_append]))<|.load (lB false 1 ζ2 2 0 (.sl (kq c) (acc.map encA)) [.sl (kq c) (acc.map encA)])<|.load (lB false 1 ζ2 1 0 (.func 37 []) [.func 37 []])<|.load (show loadA true 11 ζ2 (.ptr ([.sl .sh (l.map encPd)]::[.func 37 []]::[.sl (kq c) (acc.map encA)]::ex).length 0)=some (.agg ζ1)from load_box (cs:=ζ1) (by simp+zetaDelta) rfl)<|.callK ([.agg ζ1]) (.sl .sh (x.need.map encA)) h1<|.callG ([.sl (kq c) (acc.map encA),.sl .sh (x.need.map encA)]) (.tuple ζ4) h2 Shuts.p ⟨rfl,rfl⟩<|.callP (ζ4) (ζ2) h3 ⟨rfl,rfl⟩ rfl (by exact .inr ⟨h0,rfl⟩))
theorem sumP_any(l:List Pod)(hn:l.length<9223372036854775807)(hv:∀x∈l,Vin x.need):∃c,Gives cfg 35 [.sl .sh (l.map encPd),.func 37 []] (resV c (sumG [] (l.map (·.need)))):=by
 have h1:=sumP_loop l hn hv l 0 rfl [] ⟨by simp,fun x hx=>by cases hx⟩ false []
 have ek:kq false=.full:=rfl
 rw[ek]at h1
 have key:Goes cfg a41 [.c c41] (initEnv [.ptr 0 0,.ptr 2 0,.ptr 1 0]) ⟨[[.sl .sh (l.map encPd)],[.func 37 []],[.sl .full []]],[],[]⟩ (SumR (.sl .sh (l.map encPd)) (.func 37 []) (sumG [] (l.map (·.need)))):=by
  exact gG 60 [] trivial (.len (lM .sh encPd l)<|.cutQ k41_0 [(1,.ptr 2 0),(2,.ptr 1 0),(5,.sl .sh (l.map encPd)),(6,.int .i64 (↑l.length)),(7,.int .i64 0)] ({boxes:=[[.sl .sh (l.map encPd)],[.func 37 []],[.sl .full []]],toks:=[],loops:=[]:Heap}) (fun T hT=>(h1 T hT)))
 obtain⟨⟨a,H1⟩,hr,hR⟩:=key
 have hz:=sumG_err (l.map (·.need)) []
 generalize sumG [] (l.map (·.need))=z at hR hz⊢
 obtain⟨w,er⟩:=z
 rcases hR with⟨he,c,ex,hR⟩|⟨he,hR⟩
 ·simp only at he
  subst he
  simp only[Prod.mk.injEq]at hR
  obtain⟨rfl,rfl⟩:=hR
  have ht:lim cfg (.fn 40) [.func 41 [.ptr 0 0,.ptr 2 0,.ptr 1 0]] ⟨[[.sl .sh (l.map encPd)],[.func 37 []],[.sl .full []]],[],[]⟩=some (.ret (.int .i64 0),⟨[.sl .sh (l.map encPd)]::[.func 37 []]::[.sl (kq c) (w.map encA)]::ex,[],[]⟩):=by
   rw[lim_try rfl,l41,hr];rfl
  have hd:=does_callE (xs:=[.func 41 [.ptr 0 0,.ptr 2 0,.ptr 1 0]]) (caps:=[]) ht rfl rfl
  have et:trunc 3 0 (.int .i64 0) ⟨[.sl .sh (l.map encPd)]::[.func 37 []]::[.sl (kq c) (w.map encA)]::ex,[],[]⟩=⟨[[.sl .sh (l.map encPd)],[.func 37 []],[.sl (kq c) (w.map encA)]],[],[]⟩:=
   trunc_ex (bs0:=[[.sl .sh (l.map encPd)],[.func 37 []],[.sl (kq c) (w.map encA)]]) (fun _ _=>rfl) (fun _ _=>by cases c<;>rfl)
  have hd':Does cfg (.call (.c (.func 40 [])) [.c (.func 41 [.ptr 0 0,.ptr 2 0,.ptr 1 0])]) ⟨[[.sl .sh (l.map encPd)],[.func 37 []],[.sl .full []]],[],[]⟩ (.int .i64 0) ⟨[[.sl .sh (l.map encPd)],[.func 37 []],[.sl (kq c) (w.map encA)]],[],[]⟩:=by
   rw[←et];exact hd
  refine⟨c,Gives.run (l35 _ _) ?_⟩
  exact gG 60 [] trivial (.effY hd'<|.ff<|.fin ((.ret (.tuple [.sl (kq c) (w.map encA),.int .i64 0]),{boxes:=[[.sl .sh (l.map encPd)],[.func 37 []],[.sl (kq c) (w.map encA)]],toks:=[],loops:=[]:Heap})) rfl)
 ·simp only at he hR
  subst hR
  have e0:w=[]:=hz he
  subst e0
  have ht:lim cfg (.fn 40) [.func 41 [.ptr 0 0,.ptr 2 0,.ptr 1 0]] ⟨[[.sl .sh (l.map encPd)],[.func 37 []],[.sl .full []]],[],[]⟩=some (.ret (.int .i64 er),H1):=by
   rw[lim_try rfl,l41,hr];rfl
  have hd:=does_callE (xs:=[.func 41 [.ptr 0 0,.ptr 2 0,.ptr 1 0]]) (caps:=[]) ht rfl rfl
  generalize trunc _ _ _ H1=H2 at hd
  refine⟨false,Gives.run (l35 _ _) ?_⟩
  exact gG 60 [] trivial (.effY hd<|.yes (show(er !=(0:Int))=true from(by simpa using he))<|.fin ((.ret (.tuple [.sl .full [],.int .i64 er]),H2)) rfl)
end Go.Aa.T
set_option linter.unusedVariables false
set_option linter.unusedSimpArgs false
set_option maxRecDepth 100000
namespace Go.Aa.T
open Go.Aa Go.Proofs
structure StIn(s:St):Prop where
 nodes:s.nodes.length<9223372036854775807
 pods:s.pods.length≤1000
 cap:∀n∈s.nodes,Vin n.cap
 need:∀p∈s.pods,Vin p.need
theorem lenPd{l:List Pod}:lenOk 11 (l.map encPd)=true:=lenOk_map fun _=>rfl
theorem on_loop(s:St)(name:List UInt8)(hs:s.pods.length≤1000):∀(post:List Pod)(i:Nat)(hd:s.pods.drop i=post)(acc:List Pod)(ha:acc.length≤i)(ex:List (List AV))(T:Env)
 (hT:Has T [(1,.str name),(5,rowF encPd acc),(9,.sl .sh (s.pods.map encPd)),(10,.int .i64 s.pods.length),(11,.int .i64 i)]),
 Goes cfg a36 k36_0 T ⟨(encSt s).cells::ex,tkR encPd acc,[]⟩ (IsRet (rowF encPd (acc++post.filter (onP name)))):=by
 intro post
 induction post with
 |nil=>
  intro i hd acc ha ex T hT
  have hge:=drop_ge hd
  rw[show acc++([]:List Pod).filter (onP name)=acc by simp]
  exact gG 60 _ hT (.no (dF ((↑i:Int)<(↑s.pods.length:Int)))<|.fin ((.ret (.sl (skF acc) (acc.map encPd)),{boxes:=[.sl .sh (s.nodes.map encN),.sl .sh (s.pods.map encPd),.sl .sh (s.buds.map encB)]::ex,toks:=tkR encPd acc,loops:=[]:Heap})) rfl)
 |cons x post ih=>
  intro i hd acc ha ex T hT
  have hlt:=drop_lt hd
  have hnx:=drop_next hd
  by_cases hq:onP name x=true
  ·have e:acc++(x::post).filter (onP name)=(acc++[x])++post.filter (onP name):=by simp[List.filter_cons,hq]
   rw[e]
   have ih':=ih (i+1) hnx (acc++[x]) (by simp;omega) (ex++[(encPd x).cells])
   have ap:∀bs ls,appendA 11 184 ⟨bs,tkR encPd acc,ls⟩ (rowF encPd acc) (.sl .full [encPd x])=some (rowF encPd (acc++[x]),⟨bs,tkR encPd (acc++[x]),ls⟩):=fun bs ls=>
    row_append_T encPd (x:=x) (by simp;omega) lenPd rfl rfl
   unfold onP at hq
   simp only[Bool.and_eq_true,beq_iff_eq,Bool.not_eq_true',beq_eq_false_iff_ne]at hq
   obtain⟨q1,q2⟩:=hq
   exact let ζ1:List AV:=[.str x.name,.str x.owner,.int .i64 x.prio,.sl .sh (x.need.map encA),.sl .sh (x.labels.map encP),.sl .sh (x.sel.map encM),.sl .sh (x.tols.map encL),.str x.key,.int .i64 x.most,.str x.node,.bool x.hold];let ζ2:List AV:=[.sl .sh (s.nodes.map encN),.sl .sh (s.pods.map encPd),.sl .sh (s.buds.map encB)];let ζ3:Heap:={boxes:=ζ2::(ex++[ζ1]),toks:=tkR encPd acc,loops:=[]:Heap};let ζ4:List AV:=[.str [],.str [],.int .i64 0,.sl .full [],.sl .full [],.sl .full [],.sl .full [],.str [],.int .i64 0,.str [],.bool false];let ζ5:Heap:={boxes:=ζ2::(ex++[ζ1]),toks:=tkR encPd (acc++[x]),loops:=[]:Heap};gG 120 _ hT (.yes (dT ((↑i:Int)<(↑s.pods.length:Int)))<|.idx (iR 11 encPd hd)<|.load (rfl:loadA true 11 {boxes:=ζ2::ex,toks:=tkR encPd acc,loops:=[]:Heap} (.ref ζ1)=some (.agg ζ1))<|.store (show storeA 11 {boxes:=ζ2::(ex++[ζ4]),toks:=tkR encPd acc,loops:=[]:Heap} (.ptr (ζ2::ex).length 0) (.agg ζ1)=some (ζ3)from store_box2 (cs:=ζ4) (cs':=ζ1) (by simp+zetaDelta) rfl (by simp+zetaDelta [List.set_append]))<|.load (show loadA false 1 ζ3 (.ptr (ζ2::ex).length 9)=some (.str x.node)from load_box (cs:=ζ1) (by simp+zetaDelta) rfl)<|.yes (show(x.node==name)=true from(by simpa using q1))<|.yes (show(!name==[])=true from by have hh:¬((name==[])=true):=(by simpa using q2);simp[hh])<|.load (show loadA true 11 ζ3 (.ptr (ζ2::ex).length 0)=some (.agg ζ1)from load_box (cs:=ζ1) (by simp+zetaDelta) rfl)<|.append (show appendA 11 184 ζ3 (.sl (skF acc) (acc.map encPd)) (.sl .full [.agg ζ1])=some ((rowF encPd (acc++[x]),ζ5))from ap _ _)<|.bin (iI i)<|.cutQ k36_0 [(1,.str name),(5,.sl (skF (acc++[x])) (List.map encPd (acc++[x]))),(9,.sl .sh (s.pods.map encPd)),(10,.int .i64 (↑s.pods.length)),(11,.int .i64 (↑(i+1)))] (ζ5) (fun T hT=>(ih' T hT)))
  ·have e:acc++(x::post).filter (onP name)=acc++post.filter (onP name):=by simp[List.filter_cons,hq]
   rw[e]
   have ih':=ih (i+1) hnx acc (by omega) (ex++[(encPd x).cells])
   by_cases q1:x.node=name
   ·have q2:name=[]:=by
     unfold onP at hq
     simpa[q1]using hq
    exact let ζ1:List AV:=[.str x.name,.str x.owner,.int .i64 x.prio,.sl .sh (x.need.map encA),.sl .sh (x.labels.map encP),.sl .sh (x.sel.map encM),.sl .sh (x.tols.map encL),.str x.key,.int .i64 x.most,.str x.node,.bool x.hold];let ζ2:List AV:=[.sl .sh (s.nodes.map encN),.sl .sh (s.pods.map encPd),.sl .sh (s.buds.map encB)];let ζ3:List AV:=[.str [],.str [],.int .i64 0,.sl .full [],.sl .full [],.sl .full [],.sl .full [],.str [],.int .i64 0,.str [],.bool false];let ζ4:Heap:={boxes:=ζ2::(ex++[ζ1]),toks:=tkR encPd acc,loops:=[]:Heap};gG 120 _ hT (.yes (dT ((↑i:Int)<(↑s.pods.length:Int)))<|.idx (iR 11 encPd hd)<|.load (rfl:loadA true 11 {boxes:=ζ2::ex,toks:=tkR encPd acc,loops:=[]:Heap} (.ref ζ1)=some (.agg ζ1))<|.store (show storeA 11 {boxes:=ζ2::(ex++[ζ3]),toks:=tkR encPd acc,loops:=[]:Heap} (.ptr (ζ2::ex).length 0) (.agg ζ1)=some (ζ4)from store_box2 (cs:=ζ3) (cs':=ζ1) (by simp+zetaDelta) rfl (by simp+zetaDelta [List.set_append]))<|.load (show loadA false 1 ζ4 (.ptr (ζ2::ex).length 9)=some (.str x.node)from load_box (cs:=ζ1) (by simp+zetaDelta) rfl)<|.yes (show(x.node==name)=true from(by simpa using q1))<|.no (show(!name==[])=false from by have hh:(name==[])=true:=(by simpa using q2);simp[hh])<|.bin (iI i)<|.cutQ k36_0 [(1,.str name),(5,.sl (skF acc) (acc.map encPd)),(9,.sl .sh (s.pods.map encPd)),(10,.int .i64 (↑s.pods.length)),(11,.int .i64 (↑(i+1)))] (ζ4) (fun T hT=>(ih' T hT)))
   ·exact let ζ1:List AV:=[.str x.name,.str x.owner,.int .i64 x.prio,.sl .sh (x.need.map encA),.sl .sh (x.labels.map encP),.sl .sh (x.sel.map encM),.sl .sh (x.tols.map encL),.str x.key,.int .i64 x.most,.str x.node,.bool x.hold];let ζ2:List AV:=[.sl .sh (s.nodes.map encN),.sl .sh (s.pods.map encPd),.sl .sh (s.buds.map encB)];let ζ3:List AV:=[.str [],.str [],.int .i64 0,.sl .full [],.sl .full [],.sl .full [],.sl .full [],.str [],.int .i64 0,.str [],.bool false];let ζ4:Heap:={boxes:=ζ2::(ex++[ζ1]),toks:=tkR encPd acc,loops:=[]:Heap};gG 120 _ hT (.yes (dT ((↑i:Int)<(↑s.pods.length:Int)))<|.idx (iR 11 encPd hd)<|.load (rfl:loadA true 11 {boxes:=ζ2::ex,toks:=tkR encPd acc,loops:=[]:Heap} (.ref ζ1)=some (.agg ζ1))<|.store (show storeA 11 {boxes:=ζ2::(ex++[ζ3]),toks:=tkR encPd acc,loops:=[]:Heap} (.ptr (ζ2::ex).length 0) (.agg ζ1)=some (ζ4)from store_box2 (cs:=ζ3) (cs':=ζ1) (by simp+zetaDelta) rfl (by simp+zetaDelta [List.set_append]))<|.load (show loadA false 1 ζ4 (.ptr (ζ2::ex).length 9)=some (.str x.node)from load_box (cs:=ζ1) (by simp+zetaDelta) rfl)<|.no (show(x.node==name)=false from Bool.eq_false_iff.2 (by simpa using q1))<|.ff<|.bin (iI i)<|.cutQ k36_0 [(1,.str name),(5,.sl (skF acc) (acc.map encPd)),(9,.sl .sh (s.pods.map encPd)),(10,.int .i64 (↑s.pods.length)),(11,.int .i64 (↑(i+1)))] (ζ4) (fun T hT=>(ih' T hT)))
theorem on_any(s:St)(name:List UInt8)(hs:s.pods.length≤1000):Gives cfg 36 [encSt s,.str name] (rowF encPd (onS s name)):=by
 refine Gives.run (l36 _ _) ?_
 have h:=on_loop s name hs s.pods 0 rfl [] (by simp) []
 have e:rowF encPd ([]:List Pod)=.sl .full []:=rfl
 rw[e,tk_nil,List.nil_append]at h
 exact gG 60 [] trivial (.len (lM .sh encPd s.pods)<|.cutQ k36_0 [(1,.str name),(5,.sl .full []),(9,.sl .sh (s.pods.map encPd)),(10,.int .i64 (↑s.pods.length)),(11,.int .i64 0)] ({boxes:=[[.sl .sh (s.nodes.map encN),.sl .sh (s.pods.map encPd),.sl .sh (s.buds.map encB)]],toks:=[],loops:=[]:Heap}) (fun T hT=>(h T hT)))
def usedS(s:St)(name:List UInt8):List Amount×Int:=match findG Node.name s.nodes name with
 |none=>([],3)
 |some _=>sumG [] ((onS s name).map (·.need))
theorem on_mem{s:St}{name:List UInt8}{p:Pod}(h:p∈onS s name):p∈s.pods:=(List.mem_filter.1 h).1
theorem on_len(s:St)(name:List UInt8):(onS s name).length≤s.pods.length:=List.length_filter_le _ _
theorem used_any(s:St)(name:List UInt8)(hs:StIn s):∃c,Gives cfg 32 [encSt s,.str name] (resV c (usedS s name)):=by
 have h1:=findN_any s.nodes name hs.nodes
 cases hf:findG Node.name s.nodes name with
 |none=>
  rw[hf]at h1
  have e:usedS s name=([],3):=by unfold usedS;rw[hf]
  rw[e]
  refine⟨false,Gives.run (l32 _ _) ?_⟩
  exact let ζ1:List AV:=[.str [],.sl .sh [],.sl .sh [],.sl .sh [],.bool false];let ζ2:List AV:=[.sl .sh (s.nodes.map encN),.str name];gG 60 [] trivial (.callK (ζ2) (.tuple [.agg ζ1,.bool false]) h1<|.tt<|.fin ((.ret (.tuple [.sl .full [],.int .i64 3]),{boxes:=[[.sl .sh (s.nodes.map encN),.sl .sh (s.pods.map encPd),.sl .sh (s.buds.map encB)],ζ1],toks:=[],loops:=[]:Heap})) rfl)
 |some n=>
  rw[hf]at h1
  have e:usedS s name=sumG [] ((onS s name).map (·.need)):=by unfold usedS;rw[hf]
  rw[e]
  have h2:=on_any s name hs.pods
  obtain⟨c,h3⟩:=sumP_any (onS s name) (by have:=on_len s name;have:=hs.pods;omega) (fun p hp=>hs.need p (on_mem hp))
  generalize sumG [] ((onS s name).map (·.need))=z at h3⊢
  refine⟨true,Gives.run (l32 _ _) ?_⟩
  exact let ζ1:List AV:=[.str n.name,.sl .sh (n.cap.map encA),.sl .sh (n.labels.map encP),.sl .sh (n.taints.map encT),.bool n.cordon];let ζ2:List AV:=[.sl .sh (s.nodes.map encN),.sl .sh (s.pods.map encPd),.sl .sh (s.buds.map encB)];let ζ3:List AV:=[.sl .sh (z.fst.map encA),.int .i64 z.snd];let ζ4:List AV:=[.sl .sh (s.nodes.map encN),.str name];gG 90 [] trivial (.callK (ζ4) (.tuple [.agg ζ1,.bool true]) h1<|.ff<|.callG ([.agg ζ2,.str name]) (.sl .sh (List.map encPd (onS s name))) h2 ⟨rfl,rfl⟩ Res.p<|.callG ([.sl .sh (List.map encPd (onS s name)),.func 37 []]) (.tuple ζ3) h3 ⟨rfl,rfl⟩ Res.p<|.fin ((.ret (.tuple ζ3),{boxes:=[ζ2,ζ1],toks:=[],loops:=[]:Heap})) rfl)
theorem sumG_in:∀(vs:List (List Amount))(acc:List Amount),acc.length≤8∧rgA acc→(sumG acc vs).1.length≤8∧rgA (sumG acc vs).1
 |[],acc,h=>h
 |v::vs,acc,h=>by
  unfold sumG
  split
  ·exact sumG_in vs _ ⟨(addV_rg acc v).2,(addV_rg acc v).1⟩
  ·exact⟨by simp,fun x hx=>by cases hx⟩
theorem usedS_in(s:St)(name:List UInt8):(usedS s name).1.length≤8∧rgA (usedS s name).1:=by
 unfold usedS
 split
 ·exact⟨by simp,fun x hx=>by cases hx⟩
 ·exact sumG_in _ _ ⟨by simp,fun x hx=>by cases hx⟩
end Go.Aa.T
set_option linter.unusedVariables false
set_option linter.unusedSimpArgs false
set_option maxRecDepth 100000
namespace Go.Aa.T
open Go.Aa Go.Proofs
def usF(s:St)(nm what:List UInt8):AV:=match findG Node.name s.nodes nm with
 |none=>.nan
 |some n=>ofA (getQ (usedS s nm).1 what) (getQ n.cap what)
theorem usF_fl(s:St)(nm what:List UInt8):Fl (usF s nm what):=by
 unfold usF
 split
 ·exact .nan
 ·exact ofA_fl _ _
theorem find_in{s:St}{nm:List UInt8}{n:Node}(h:findG Node.name s.nodes nm=some n):n∈s.nodes:=List.mem_of_find?_eq_some h
theorem us_any(s:St)(hs:StIn s)(nm what:List UInt8):Gives cfg 24 [encSt s,.str nm,.str what] (usF s nm what):=by
 refine Gives.run (l24 _ _) ?_
 have h1:=findN_any s.nodes nm hs.nodes
 cases hf:findG Node.name s.nodes nm with
 |none=>
  rw[hf]at h1
  have e:usF s nm what=.nan:=by unfold usF;rw[hf]
  rw[e]
  have h2:=nan_any
  exact let ζ1:List AV:=[.str [],.sl .sh [],.sl .sh [],.sl .sh [],.bool false];let ζ2:List AV:=[.sl .sh (s.nodes.map encN),.str nm];gG 60 [] trivial (.callK (ζ2) (.tuple [.agg ζ1,.bool false]) h1<|.tt<|.callK ([]) (AV.nan) h2<|.fin ((.ret AV.nan,{boxes:=[[.sl .sh (s.nodes.map encN),.sl .sh (s.pods.map encPd),.sl .sh (s.buds.map encB)],ζ1],toks:=[],loops:=[]:Heap})) rfl)
 |some n=>
  rw[hf]at h1
  have e:usF s nm what=ofA (getQ (usedS s nm).1 what) (getQ n.cap what):=by unfold usF;rw[hf]
  rw[e]
  obtain⟨c,h2⟩:=used_any s nm hs
  have hin:=usedS_in s nm
  have hx:=hs.cap n (find_in hf)
  have h3:=getQ_any (usedS s nm).1 what (by omega)
  have h4:=getQ_any n.cap what hx.len
  have h5:=of_any (getQ (usedS s nm).1 what) (getQ n.cap what)
  haveI:=(ofA_fl (getQ (usedS s nm).1 what) (getQ n.cap what)).C
  generalize ofA (getQ (usedS s nm).1 what) (getQ n.cap what)=u at*
  generalize getQ (usedS s nm).1 what=a at*
  generalize usedS s nm=z at*
  obtain⟨w,er⟩:=z
  exact let ζ1:List AV:=[.str n.name,.sl .sh (n.cap.map encA),.sl .sh (n.labels.map encP),.sl .sh (n.taints.map encT),.bool n.cordon];let ζ2:List AV:=[.sl .sh (s.nodes.map encN),.sl .sh (s.pods.map encPd),.sl .sh (s.buds.map encB)];let ζ3:List AV:=[.sl .sh (List.map encA (w,er).fst),.str what];let ζ4:List AV:=[.sl .sh (s.nodes.map encN),.str nm];let ζ5:List AV:=[.sl .sh (n.cap.map encA),.str what];let ζ6:List AV:=[.int .i64 a,.int .i64 (getQ n.cap what)];gG 90 [] trivial (.callK (ζ4) (.tuple [.agg ζ1,.bool true]) h1<|.ff<|.callG ([.agg ζ2,.str nm]) (.tuple [.sl .sh (List.map encA (w,er).fst),.int .i64 (w,er).snd]) h2 ⟨rfl,rfl⟩ Res.p<|.callK (ζ3) (.int .i64 a) h3<|.callK (ζ5) (.int .i64 (getQ n.cap what)) h4<|.callG (ζ6) (u) h5 ⟨rfl,rfl⟩ Res.p<|.fin ((.ret u,{boxes:=[ζ2,ζ1],toks:=[],loops:=[]:Heap})) rfl)
def usM(s:St)(nm:List UInt8)(l:List Amount):List AV:=l.map fun x=>usF s nm x.name
def usL(s:St)(nm:List UInt8):List AV:=match findG Node.name s.nodes nm with
 |none=>[]
 |some n=>usM s nm n.cap
theorem usM_fl(s:St)(nm:List UInt8)(l:List Amount):FlL (usM s nm l):=fun x hx=>by
 obtain⟨y,-,rfl⟩:=List.mem_map.1 hx
 exact usF_fl _ _ _
theorem usL_fl(s:St)(nm:List UInt8):FlL (usL s nm):=by
 unfold usL
 split
 ·intro x hx;cases hx
 ·exact usM_fl _ _ _
theorem usL_len{s:St}(hs:StIn s)(nm:List UInt8):(usL s nm).length<9223372036854775807:=by
 unfold usL
 split
 ·simp
 ·rename_i n h
  simp only[usM,List.length_map]
  exact(hs.cap n (find_in h)).len
theorem bslF{x:AV}(h:Fl x)(H:Heap):Does cfg (.bslice 1 [.c x]) H (.sl .full [x]) H:=fun T=>by
 cases h<;>rfl
theorem ap_F{acc:List AV}{x:AV}(hl:FlL acc)(hx:Fl x)(hn:acc.length≤100000)(bs:List (List AV))(ls:List LRec):
 appendA 1 8 ⟨bs,tkR id acc,ls⟩ (rowF id acc) (.sl .full [x])=some (rowF id (acc++[x]),⟨bs,tkR id (acc++[x]),ls⟩):=
 row_append_T id (x:=x) (by simp only[List.map_id];omega) (by rw[List.map_id];exact List.all_eq_true.2 fun y hy=>(hl y hy).cell) hx.cell hx.data0
theorem fll_snoc{acc:List AV}{x:AV}(hl:FlL acc)(hx:Fl x):FlL (acc++[x]):=fun y hy=>by
 rcases List.mem_append.1 hy with h|h
 ·exact hl y h
 ·rw[List.mem_singleton.1 h];exact hx
theorem usL_loop(s:St)(hs:StIn s)(nm:List UInt8)(n:Node)(hn:n.cap.length≤1000):∀(post:List Amount)(i:Nat)(hd:n.cap.drop i=post)(acc:List AV)(ha:acc.length≤i)(hl:FlL acc)(ex:List (List AV))(T:Env)
 (hT:Has T [(1,.str nm),(2,.ptr 0 0),(7,rowF id acc),(18,.sl .sh (n.cap.map encA)),(19,.int .i64 n.cap.length),(20,.int .i64 i)]),
 Goes cfg a13 k13_0 T ⟨(encSt s).cells::(encN n).cells::ex,tkR id acc,[]⟩ (IsRet (rowF id (acc++usM s nm post))):=by
 intro post
 induction post with
 |nil=>
  intro i hd acc ha hl ex T hT
  have hge:=drop_ge hd
  rw[show acc++usM s nm []=acc by simp[usM]]
  exact gG 60 _ hT (.no (dF ((↑i:Int)<(↑n.cap.length:Int)))<|.fin ((.ret (.sl (skF acc) (acc.map id)),{boxes:=[.sl .sh (s.nodes.map encN),.sl .sh (s.pods.map encPd),.sl .sh (s.buds.map encB)]::[.str n.name,.sl .sh (n.cap.map encA),.sl .sh (n.labels.map encP),.sl .sh (n.taints.map encT),.bool n.cordon]::ex,toks:=tkR id acc,loops:=[]:Heap})) rfl)
 |cons x post ih=>
  intro i hd acc ha hl ex T hT
  have hlt:=drop_lt hd
  have hnx:=drop_next hd
  have hf:=us_any s hs nm x.name
  have fl:=usF_fl s nm x.name
  have e:acc++usM s nm (x::post)=(acc++[usF s nm x.name])++usM s nm post:=by simp[usM]
  rw[e]
  generalize usF s nm x.name=u at hf fl⊢
  haveI:=fl.C
  have ih':=ih (i+1) hnx (acc++[u]) (by simp;omega) (fll_snoc hl fl) (ex++[(encA x).cells])
  have bs:=bslF fl
  have ap:=ap_F hl fl (by omega)
  exact let ζ2:List AV:=[.sl .sh (s.nodes.map encN),.sl .sh (s.pods.map encPd),.sl .sh (s.buds.map encB)];let ζ3:List AV:=[.str n.name,.sl .sh (n.cap.map encA),.sl .sh (n.labels.map encP),.sl .sh (n.taints.map encT),.bool n.cordon];let ζ1:Heap:={boxes:=ζ2::ζ3::(ex++[[AV.str x.name,.int .i64 x.n]]),toks:=tkR id acc,loops:=[]:Heap};let ζ4:Heap:={boxes:=ζ2::ζ3::(ex++[[AV.str x.name,.int .i64 x.n]]),toks:=tkR id (acc++[u]),loops:=[]:Heap};gG 120 _ hT (.yes (dT ((↑i:Int)<(↑n.cap.length:Int)))<|.idx (iR 2 encA hd)<|.load (rfl:loadA true 2 {boxes:=ζ2::ζ3::ex,toks:=tkR id acc,loops:=[]:Heap} (.ref [.str x.name,.int .i64 x.n])=some (.agg [.str x.name,.int .i64 x.n]))<|.store (show storeA 2 {boxes:=ζ2::ζ3::(ex++[[AV.str [],.int .i64 0]]),toks:=tkR id acc,loops:=[]:Heap} (.ptr (ζ2::ζ3::ex).length 0) (.agg [.str x.name,.int .i64 x.n])=some (ζ1)from store_box2 (cs:=[.str [],.int .i64 0]) (cs':=[.str x.name,.int .i64 x.n]) (by simp+zetaDelta) rfl (by simp+zetaDelta [List.set_append]))<|.load (lB true 3 ζ1 0 0 (.agg ζ2) ζ2)<|.load (show loadA false 1 ζ1 (.ptr (ζ2::ζ3::ex).length 0)=some (.str x.name)from load_box (cs:=[.str x.name,.int .i64 x.n]) (by simp+zetaDelta) rfl)<|.callG ([.agg ζ2,.str nm,.str x.name]) (u) hf ⟨rfl,rfl⟩ Res.p<|.effY (show Does cfg (.bslice 1 [.c u]) ζ1 (.sl .full [u]) ζ1 from bs _)<|.append (show appendA 1 8 ζ1 (.sl (skF acc) (acc.map id)) (.sl .full [u])=some ((rowF id (acc++[u]),ζ4))from ap _ _)<|.bin (iI i)<|.cutQ k13_0 [(1,.str nm),(2,.ptr 0 0),(7,.sl (skF (acc++[u])) (List.map id (acc++[u]))),(18,.sl .sh (n.cap.map encA)),(19,.int .i64 (↑n.cap.length)),(20,.int .i64 (↑(i+1)))] (ζ4) (fun T hT=>(ih' T hT)))
theorem usL_any(s:St)(hs:StIn s)(hc:∀n∈s.nodes,n.cap.length≤1000)(nm:List UInt8):Gives cfg 13 [encSt s,.str nm] (rowF id (usL s nm)):=by
 refine Gives.run (l13 _ _) ?_
 have h1:=findN_any s.nodes nm hs.nodes
 have e0:rowF id ([]:List AV)=.sl .full []:=rfl
 cases hf:findG Node.name s.nodes nm with
 |none=>
  rw[hf]at h1
  have e:usL s nm=[]:=by unfold usL;rw[hf]
  rw[e]
  have h:=usL_loop s hs nm noN (by simp[noN]) [] 0 rfl [] (by simp) (fun x hx=>by cases hx) []
  rw[e0,tk_nil]at h
  rw[e0]
  exact let ζ1:List AV:=[.str [],.sl .sh [],.sl .sh [],.sl .sh [],.bool false];let ζ2:List AV:=[.sl .sh (s.nodes.map encN),.str nm];gG 60 [] trivial (.callK (ζ2) (.tuple [.agg ζ1,.bool false]) h1<|.len (show lenA false (.sl .sh [])=some (.int .i64 (↑[].length:Int))from len_sl _ _)<|.cutQ k13_0 [(1,.str nm),(2,.ptr 0 0),(7,.sl .full []),(18,.sl .sh []),(19,.int .i64 (↑[].length:Int)),(20,.int .i64 0)] ({boxes:=[[.sl .sh (s.nodes.map encN),.sl .sh (s.pods.map encPd),.sl .sh (s.buds.map encB)],ζ1],toks:=[],loops:=[]:Heap}) (fun T hT=>(h T hT)))
 |some n=>
  rw[hf]at h1
  have e:usL s nm=usM s nm n.cap:=by unfold usL;rw[hf]
  rw[e]
  have h:=usL_loop s hs nm n (hc n (find_in hf)) n.cap 0 rfl [] (by simp) (fun x hx=>by cases hx) []
  rw[e0,tk_nil,List.nil_append]at h
  exact let ζ1:List AV:=[.str n.name,.sl .sh (n.cap.map encA),.sl .sh (n.labels.map encP),.sl .sh (n.taints.map encT),.bool n.cordon];let ζ2:List AV:=[.sl .sh (s.nodes.map encN),.str nm];gG 60 [] trivial (.callK (ζ2) (.tuple [.agg ζ1,.bool true]) h1<|.len (lM .sh encA n.cap)<|.cutQ k13_0 [(1,.str nm),(2,.ptr 0 0),(7,.sl .full []),(18,.sl .sh (n.cap.map encA)),(19,.int .i64 (↑n.cap.length)),(20,.int .i64 0)] ({boxes:=[[.sl .sh (s.nodes.map encN),.sl .sh (s.pods.map encPd),.sl .sh (s.buds.map encB)],ζ1],toks:=[],loops:=[]:Heap}) (fun T hT=>(h T hT)))
end Go.Aa.T
set_option linter.unusedVariables false
set_option linter.unusedSimpArgs false
set_option maxRecDepth 100000
namespace Go.Aa.T
open Go.Aa Go.Proofs
def ovB(hi x:AV):Bool:=decide (0<cmp x hi)
def geB(lo x:AV):Bool:=decide (0≤cmp x lo)
def lvS(us:List AV)(lo hi:AV):Int:=if us.any (ovB hi)=true then 2 else if us=[]then 1 else if us.any (geB lo)=true then 1 else 0
def lvN(s:St)(nm:List UInt8)(lo hi:AV):Int:=lvS (usL s nm) lo hi
theorem ov_one{lo hi:AV}(hh:Fl hi)(S:List AV)(y:AV)(hy:Fl y):Does cfg (.call (.c (.func 15 [.ptr 1 0])) [.c y]) ⟨[S,[lo,hi]],[],[]⟩ (.bool (ovB hi y)) ⟨[S,[lo,hi]],[],[]⟩:=by
 have hc:=compare_any hy hh
 haveI:=hh.C
 haveI:=hy.C
 have key:Goes cfg a15 [.c c15] (initEnv [y,.ptr 1 0]) ⟨[S,[lo,hi]],[],[]⟩ (fun r=>r=(.ret (.bool (ovB hi y)),⟨[S,[lo,hi]],[],[]⟩)):=by
  unfold ovB
  generalize cmp y hi=q at hc⊢
  exact gG 60 [] trivial (.callG ([y,hi]) (.int .i64 q) hc Shuts.p ⟨rfl,rfl⟩<|.fin ((.ret (.bool (decide ((0:Int)<q))),{boxes:=[S,[lo,hi]],toks:=[],loops:=[]:Heap})) rfl)
 obtain⟨r,h,rfl⟩:=key
 have h2:lim cfg (.fn 15) ([y]++[.ptr 1 0]) ⟨[S,[lo,hi]],[],[]⟩=some (.ret (.bool (ovB hi y)),⟨[S,[lo,hi]],[],[]⟩):=by
  rw[l15];exact h
 have h3:=does_callE h2 (by show [shutA y]=[y];rw[hy.shut]) (Bool.and_false _)
 rwa [show shutA (.bool (ovB hi y))=.bool (ovB hi y)from rfl,trunc_self]at h3
theorem ge_one{lo hi:AV}(hh:Fl lo)(S:List AV)(y:AV)(hy:Fl y):Does cfg (.call (.c (.func 16 [.ptr 1 0])) [.c y]) ⟨[S,[lo,hi]],[],[]⟩ (.bool (geB lo y)) ⟨[S,[lo,hi]],[],[]⟩:=by
 have hc:=compare_any hy hh
 haveI:=hh.C
 haveI:=hy.C
 have key:Goes cfg a16 [.c c16] (initEnv [y,.ptr 1 0]) ⟨[S,[lo,hi]],[],[]⟩ (fun r=>r=(.ret (.bool (geB lo y)),⟨[S,[lo,hi]],[],[]⟩)):=by
  unfold geB
  generalize cmp y lo=q at hc⊢
  exact gG 60 [] trivial (.callG ([y,lo]) (.int .i64 q) hc Shuts.p ⟨rfl,rfl⟩<|.fin ((.ret (.bool (decide ((0:Int)≤q))),{boxes:=[S,[lo,hi]],toks:=[],loops:=[]:Heap})) rfl)
 obtain⟨r,h,rfl⟩:=key
 have h2:lim cfg (.fn 16) ([y]++[.ptr 1 0]) ⟨[S,[lo,hi]],[],[]⟩=some (.ret (.bool (geB lo y)),⟨[S,[lo,hi]],[],[]⟩):=by
  rw[l16];exact h
 have h3:=does_callE h2 (by show [shutA y]=[y];rw[hy.shut]) (Bool.and_false _)
 rwa [show shutA (.bool (geB lo y))=.bool (geB lo y)from rfl,trunc_self]at h3
theorem lv_any(s:St)(hs:StIn s)(hc:∀n∈s.nodes,n.cap.length≤1000)(nm:List UInt8){lo hi:AV}(hl:Fl lo)(hh:Fl hi):Gives cfg 7 [encSt s,.str nm,.agg [lo,hi]] (.int .i64 (lvN s nm lo hi)):=by
 refine Gives.run (l7 _ _) ?_
 have h1:=usL_any s hs hc nm
 have fl:=usL_fl s nm
 have hn:=usL_len hs nm
 unfold lvN
 generalize usL s nm=us at h1 fl hn⊢
 have d1:=anyFl (ov_one (lo:=lo) hh (encSt s).cells) us fl hn
 have d2:=anyFl (ge_one (hi:=hi) hl (encSt s).cells) us fl hn
 have h1:Gives cfg 13 [encSt s,.str nm] (rowF id us):=h1
 have e:us.map id=us:=List.map_id us
 have h1':∃k,Gives cfg 13 [encSt s,.str nm] (.sl k us)∧shutA (.sl k us)=.sl .sh us:=by
  refine⟨skF us,?_,by cases us<;>rfl⟩
  unfold rowF at h1
  rwa [e]at h1
 obtain⟨k,h2,h3⟩:=h1'
 haveI:Res (.sl k us) (.sl .sh us):=⟨h3,rfl⟩
 unfold lvS
 by_cases a:us.any (ovB hi)=true
 ·rw[if_pos a]
  rw[a]at d1
  exact let ζ1:List AV:=[.sl .sh (s.nodes.map encN),.sl .sh (s.pods.map encPd),.sl .sh (s.buds.map encB)];let ζ2:Heap:={boxes:=[(encSt s).cells,[lo,hi]],toks:=[],loops:=[]:Heap};gG 60 [] trivial (.callG ([.agg ζ1,.str nm]) (.sl .sh us) h2 ⟨rfl,rfl⟩ Res.p<|.effY d1<|.tt<|.fin ((.ret (.int .i64 2),{boxes:=[ζ1,[lo,hi]],toks:=[],loops:=[]:Heap})) rfl)
 ·rw[if_neg a]
  rw[Bool.not_eq_true]at a
  rw[a]at d1
  by_cases b:us=[]
  ·rw[if_pos b]
   have b':us.length=0:=by rw[b];rfl
   exact let ζ1:List AV:=[.sl .sh (s.nodes.map encN),.sl .sh (s.pods.map encPd),.sl .sh (s.buds.map encB)];let ζ2:Heap:={boxes:=[(encSt s).cells,[lo,hi]],toks:=[],loops:=[]:Heap};gG 60 [] trivial (.callG ([.agg ζ1,.str nm]) (.sl .sh us) h2 ⟨rfl,rfl⟩ Res.p<|.effY d1<|.ff<|.len (show lenA false (.sl .sh us)=some (.int .i64 (↑us.length))from len_sl _ _)<|.yes (show((↑us.length:Int)==(0:Int))=true from(by simp+zetaDelta [b']))<|.tt<|.fin ((.ret (.int .i64 1),{boxes:=[ζ1,[lo,hi]],toks:=[],loops:=[]:Heap})) rfl)
  ·rw[if_neg b]
   have b':¬us.length=0:=by simpa using b
   by_cases g:us.any (geB lo)=true
   ·rw[if_pos g]
    rw[g]at d2
    exact let ζ1:Heap:={boxes:=[(encSt s).cells,[lo,hi]],toks:=[],loops:=[]:Heap};let ζ2:List AV:=[.sl .sh (s.nodes.map encN),.sl .sh (s.pods.map encPd),.sl .sh (s.buds.map encB)];gG 60 [] trivial (.callG ([.agg ζ2,.str nm]) (.sl .sh us) h2 ⟨rfl,rfl⟩ Res.p<|.effY d1<|.ff<|.len (show lenA false (.sl .sh us)=some (.int .i64 (↑us.length))from len_sl _ _)<|.no (show((↑us.length:Int)==(0:Int))=false from Bool.eq_false_iff.2 (by simp+zetaDelta [b']))<|.effY d2<|.tt<|.fin ((.ret (.int .i64 1),{boxes:=[ζ2,[lo,hi]],toks:=[],loops:=[]:Heap})) rfl)
   ·rw[if_neg g]
    rw[Bool.not_eq_true]at g
    rw[g]at d2
    exact let ζ1:Heap:={boxes:=[(encSt s).cells,[lo,hi]],toks:=[],loops:=[]:Heap};let ζ2:List AV:=[.sl .sh (s.nodes.map encN),.sl .sh (s.pods.map encPd),.sl .sh (s.buds.map encB)];gG 60 [] trivial (.callG ([.agg ζ2,.str nm]) (.sl .sh us) h2 ⟨rfl,rfl⟩ Res.p<|.effY d1<|.ff<|.len (show lenA false (.sl .sh us)=some (.int .i64 (↑us.length))from len_sl _ _)<|.no (show((↑us.length:Int)==(0:Int))=false from Bool.eq_false_iff.2 (by simp+zetaDelta [b']))<|.effY d2<|.ff<|.fin ((.ret (.int .i64 0),{boxes:=[ζ2,[lo,hi]],toks:=[],loops:=[]:Heap})) rfl)
theorem wo_any(s:St)(hs:StIn s)(hc:∀n∈s.nodes,n.cap.length≤1000)(nm:List UInt8):Gives cfg 10 [encSt s,.str nm] (great (usL s nm)):=by
 refine Gives.run (l10 _ _) ?_
 have h1:=usL_any s hs hc nm
 have fl:=usL_fl s nm
 have hn:=usL_len hs nm
 generalize usL s nm=us at h1 fl hn⊢
 have e:us.map id=us:=List.map_id us
 have h1':∃k,Gives cfg 13 [encSt s,.str nm] (.sl k us)∧shutA (.sl k us)=.sl .sh us:=by
  refine⟨skF us,?_,by cases us<;>rfl⟩
  unfold rowF at h1
  rwa [e]at h1
 obtain⟨k,h2,h3⟩:=h1'
 haveI:Res (.sl k us) (.sl .sh us):=⟨h3,rfl⟩
 have h:=mostF_any fl hn
 haveI:=(great_fl fl).C
 generalize great us=z at*
 exact let ζ1:List AV:=[.sl .sh (s.nodes.map encN),.sl .sh (s.pods.map encPd),.sl .sh (s.buds.map encB)];gG 60 [] trivial (.callG ([.agg ζ1,.str nm]) (.sl .sh us) h2 ⟨rfl,rfl⟩ Res.p<|.callG ([.sl .sh us]) (z) h ⟨rfl,rfl⟩ Res.p<|.fin ((.ret z,{boxes:=[ζ1],toks:=[],loops:=[]:Heap})) rfl)
end Go.Aa.T
set_option linter.unusedVariables false
set_option linter.unusedSimpArgs false
set_option maxRecDepth 100000
namespace Go.Aa.T
open Go.Aa Go.Proofs
def cpuB:List UInt8:=[99,112,117]
def nE:Node:=⟨[97],[⟨cpuB,20⟩],[],[],false⟩
def pE(u:Nat):Pod:=⟨[112],[],0,[⟨cpuB,(u:Int)⟩],[],[],[],[],0,[97],false⟩
def sE(u:Nat):St:=⟨[nE],if u=0 then []else [pE u],[]⟩
theorem used_all:((List.range 21).all fun u=>getQ (usedS (sE u) [97]).1 cpuB==(u:Int))=true:=by kernel_rfl
theorem used_E{u:Nat}(h:u<21):getQ (usedS (sE u) [97]).1 cpuB=(u:Int):=by
 have:=List.all_eq_true.1 used_all u (List.mem_range.2 h)
 simpa using this
theorem sE_in{u:Nat}(h:u<21):StIn (sE u):=by
 refine⟨by simp[sE],?_,?_,?_⟩
 ·unfold sE;simp only;split<;>simp
 ·intro n hn
  rw[List.mem_singleton.1 hn]
  exact⟨by simp[nE],fun x hx=>by rw[List.mem_singleton.1 hx];unfold inI;simp only;omega⟩
 ·intro p hp
  unfold sE at hp
  simp only at hp
  split at hp
  ·cases hp
  ·rw[List.mem_singleton.1 hp]
   exact⟨by simp[pE],fun x hx=>by rw[List.mem_singleton.1 hx];unfold inI;simp only;omega⟩
theorem usL_E{u:Nat}(h:u<21):usL (sE u) [97]=[ofA (u:Int) 20]:=by
 have hf:findG Node.name (sE u).nodes [97]=some nE:=rfl
 unfold usL
 rw[hf]
 show [usF (sE u) [97] cpuB]=_
 unfold usF
 rw[hf]
 show [ofA (getQ (usedS (sE u) [97]).1 cpuB) (getQ nE.cap cpuB)]=_
 rw[used_E h];rfl
theorem cap_E(u:Nat):∀n∈(sE u).nodes,n.cap.length≤1000:=fun n hn=>by rw[List.mem_singleton.1 hn];simp[nE]
theorem lvN_E{u l h:Nat}(hu:u<21)(hl:l<22)(hh:h<22):lvN (sE u) [97] (ofA (l:Int) 20) (ofA (h:Int) 20)=if h<u then 2 else if u<l then 0 else 1:=by
 have c1:=share_cmp (a:=u) (b:=h) (w:=20) (by omega) (by omega) (by omega) (by omega)
 have c2:=share_cmp (a:=u) (b:=l) (w:=20) (by omega) (by omega) (by omega) (by omega)
 have c1:cmp (ofA (u:Int) 20) (ofA (h:Int) 20)=sgn u h:=c1
 have c2:cmp (ofA (u:Int) 20) (ofA (l:Int) 20)=sgn u l:=c2
 unfold lvN
 rw[usL_E hu]
 unfold lvS
 have s1:decide (0<sgn (u:Int) h)=decide (h<u):=decide_eq_decide.2 (by unfold sgn;split<;>(try split)<;>omega)
 have s2:decide (0≤sgn (u:Int) l)=decide (l≤u):=decide_eq_decide.2 (by unfold sgn;split<;>(try split)<;>omega)
 simp only[List.any_cons,List.any_nil,Bool.or_false,ovB,geB,c1,c2,s1,s2]
 by_cases a:h<u
 ·simp[a]
 ·by_cases b:u<l
  ·have e:¬l≤u:=by omega
   simp[a,b,e]
  ·have e:l≤u:=by omega
   simp[a,b,e]
def rawN:AV:=.agg [.str [97],.sl .full [encA ⟨cpuB,20⟩],.sl .full [],.sl .full [],.bool false]
def rawP(u:Nat):AV:=.agg [.str [112],.str [],.int .i64 0,.sl .full [encA ⟨cpuB,(u:Int)⟩],.sl .full [],.sl .full [],.sl .full [],.str [],.int .i64 0,.str [97],.bool false]
instance:Shut rawN (.agg [.str [97],.sl .sh [.agg [.str [99,112,117],.int .i64 20]],.sl .sh [],.sl .sh [],.bool false]):=⟨rfl,rfl⟩
instance(u:Nat):Shut (rawP u) (.agg [.str [112],.str [],.int .i64 0,.sl .sh [.agg [.str [99,112,117],.int .i64 (u:Int)]],.sl .sh [],.sl .sh [],.sl .sh [],.str [],.int .i64 0,.str [97],.bool false]):=⟨rfl,rfl⟩
instance(l:List AV):Shut (.agg [.sl (.own 0) l,.sl .full [],.sl .full []]) (.agg [.sl .sh l,.sl .sh [],.sl .sh []]):=⟨rfl,rfl⟩
instance(l m:List AV):Shut (.agg [.sl (.own 0) l,.sl (.own 1) m,.sl .full []]) (.agg [.sl .sh l,.sl .sh m,.sl .sh []]):=⟨rfl,rfl⟩
theorem n5:Gives cfg 5 [.str [97],.int .i64 20] rawN:=by
 refine Gives.run (l5 _ _) ?_
 exact let ζ1:List AV:=[.str [(97:UInt8)],.sl .full [.agg [.str [(99:UInt8),(112:UInt8),(117:UInt8)],.int .i64 20]],.sl .full [],.sl .full [],.bool false];gG 60 [] trivial (.fin ((.ret (.agg ζ1),{boxes:=[ζ1],toks:=[],loops:=[]:Heap})) rfl)
theorem p6(u:Nat):Gives cfg 6 [.str [112],.int .i64 (u:Int),.str [97]] (rawP u):=by
 refine Gives.run (l6 _ _) ?_
 exact let ζ1:List AV:=[.str [(112:UInt8)],.str [],.int .i64 0,.sl .full [.agg [.str [(99:UInt8),(112:UInt8),(117:UInt8)],.int .i64 ↑u]],.sl .full [],.sl .full [],.sl .full [],.str [],.int .i64 0,.str [(97:UInt8)],.bool false];gG 60 [] trivial (.fin ((.ret (.agg ζ1),{boxes:=[ζ1],toks:=[],loops:=[]:Heap})) rfl)
theorem rem_u8{n m r:Nat}(hm:0<m)(h:n%m=r)(hn:n<256):binA .rem (.int .u8 n) (.int .u8 m)=some (.int .u8 r):=by
 have e:((n:Int).tmod (m:Int))=(r:Int):=by rw[←h];rfl
 have hr:r<256:=by rw[←h];exact Nat.lt_of_le_of_lt (Nat.mod_le _ _) hn
 have hw:IntKind.u8.wrap (r:Int)=(r:Int):=by
  simp only[IntKind.wrap,IntKind.bits,IntKind.signed,Bool.false_and,Bool.false_eq_true,if_false]
  omega
 have hm0:¬((m:Int)=0):=by omega
 simp[binA,intBin,hm0,e,hw];omega
theorem conv_8{n:Nat}(h:n<256):convA (.int .i64) (.int .u8 (n:Int))=some (.int .i64 (n:Int)):=by
 simp only[convA]
 rw[wrap_i64 (by omega) (by omega)]
theorem bldF{lo hi:AV}(hl:Fl lo)(hh:Fl hi)(H:Heap):Does cfg (.build [.flt 0,.flt 0] [(0,1,.c lo),(1,1,.c hi)]) H (.agg [lo,hi]) H:=fun T=>by
 cases hl<;>cases hh<;>rfl
theorem known4':Gives cfg 4 [] (.bool true):=by
 obtain⟨H',h⟩:=known_ret4
 exact⟨_,h,rfl⟩
theorem cmp_same{x:AV}(h:Fl x):Gives cfg 9 [x,x] (.int .i64 0):=by
 have:=compare_any h h
 rwa [cmp_self]at this
theorem levelEdges(a b c:Nat)(ha:a<256)(hb:b<256)(hc:c<256):Gives cfg 3 [.int .u8 (a:Int),.int .u8 (b:Int),.int .u8 (c:Int)] (.bool true):=by
 refine Gives.run (l3 _ _) ?_
 obtain⟨u,hu,eu⟩:∃u,a%21=u∧u<21:=⟨_,rfl,Nat.mod_lt _ (by omega)⟩
 obtain⟨l,hl,el⟩:∃u,b%22=u∧u<22:=⟨_,rfl,Nat.mod_lt _ (by omega)⟩
 obtain⟨h,hh,eh⟩:∃u,c%22=u∧u<22:=⟨_,rfl,Nat.mod_lt _ (by omega)⟩
 have r1:=rem_u8 (by omega) hu ha
 have r2:=rem_u8 (by omega) hl hb
 have r3:=rem_u8 (by omega) hh hc
 have c1:=conv_8 (n:=u) (by omega)
 have c2:=conv_8 (n:=l) (by omega)
 have c3:=conv_8 (n:=h) (by omega)
 have o1:=of_any (l:Int) 20
 have o2:=of_any (h:Int) 20
 have o3:=of_any (u:Int) 20
 have f1:=ofA_fl (l:Int) 20
 have f2:=ofA_fl (h:Int) 20
 have f3:=ofA_fl (u:Int) 20
 have bl:=bldF f1 f2
 have lv:=lv_any (sE u) (sE_in eu) (cap_E u) [97] f1 f2
 rw[lvN_E eu el eh]at lv
 have wo:=wo_any (sE u) (sE_in eu) (cap_E u) [97]
 rw[usL_E eu,show great [ofA (u:Int) 20]=ofA (u:Int) 20 from rfl]at wo
 have cs:=cmp_same f3
 haveI:=f1.C
 haveI:=f2.C
 haveI:=f3.C
 generalize ofA (l:Int) 20=x at*
 generalize ofA (h:Int) 20=y at*
 generalize ofA (u:Int) 20=z at*
 by_cases h0:u=0
 ·have es:encSt (sE u)=.agg [.sl .sh [.agg [.str [97],.sl .sh [.agg [.str [99,112,117],.int .i64 20]],.sl .sh [],.sl .sh [],.bool false]],.sl .sh [],.sl .sh []]:=by unfold sE;rw[if_pos h0];rfl
  rw[es]at lv wo
  have ng:¬h<u:=by omega
  rw[if_neg ng]at lv
  by_cases hlt:u<l
  ·rw[if_pos hlt]at lv
   exact let ζ1:List AV:=[.str [(97:UInt8)],.sl .sh [.agg [.str [(99:UInt8),(112:UInt8),(117:UInt8)],.int .i64 20]],.sl .sh [],.sl .sh [],.bool false];let ζ2:Heap:={boxes:=[[.sl (SK.own 0) [.agg ζ1],.sl .full [],.sl .full []]],toks:=[1],loops:=[]:Heap};let ζ3:List (List AV):=[[.sl .full [],.sl .full [],.sl .full []]];let ζ4:List AV:=[.int .i64 ↑l,.int .i64 20];let ζ5:List AV:=[.int .i64 ↑h,.int .i64 20];let ζ6:List AV:=[.str [(97:UInt8)],.int .i64 20];gG 300 [] trivial (.callK ([]) (.bool true) known4'<|.ff<|.bin r1<|.conv c1<|.callK (ζ6) (.agg ζ1) n5<|.append (rfl:appendA 5 96 {boxes:=ζ3,toks:=[],loops:=[]:Heap} (.sl .full []) (.sl .full [.agg ζ1])=some ((.sl (SK.own 0) [.agg ζ1],{boxes:=ζ3,toks:=[1],loops:=[]:Heap})))<|.no (dF ((0:Int)<(↑u:Int)))<|.bin r2<|.conv c2<|.bin r3<|.conv c3<|.callG (ζ4) (x) o1 ⟨rfl,rfl⟩ Res.p<|.callG (ζ5) (y) o2 ⟨rfl,rfl⟩ Res.p<|.effY (show Does cfg (.build [AV.flt 0,AV.flt 0] [(0,1,.c x),(1,1,.c y)]) ζ2 (.agg [x,y]) ζ2 from bl _)<|.callG ([.agg [.sl (SK.own 0) [.agg ζ1],.sl .full [],.sl .full []],.str [(97:UInt8)],.agg [x,y]]) (.int .i64 0) lv Shuts.p ⟨rfl,rfl⟩<|.no (dF ((↑h:Int)<(↑u:Int)))<|.yes (dT ((↑u:Int)<(↑l:Int)))<|.fin ((.ret (.bool ((0:Int)==(0:Int))),ζ2)) rfl)
  ·rw[if_neg hlt]at lv
   exact let ζ1:List AV:=[.str [(97:UInt8)],.sl .sh [.agg [.str [(99:UInt8),(112:UInt8),(117:UInt8)],.int .i64 20]],.sl .sh [],.sl .sh [],.bool false];let ζ2:List AV:=[.sl (SK.own 0) [.agg ζ1],.sl .full [],.sl .full []];let ζ3:Heap:={boxes:=[ζ2],toks:=[1],loops:=[]:Heap};let ζ4:List AV:=[.sl .sh [.agg ζ1],.sl .sh [],.sl .sh []];let ζ5:List (List AV):=[[.sl .full [],.sl .full [],.sl .full []]];let ζ6:List AV:=[.int .i64 ↑l,.int .i64 20];let ζ7:List AV:=[.int .i64 ↑h,.int .i64 20];let ζ8:List AV:=[.int .i64 ↑u,.int .i64 20];let ζ9:List AV:=[.str [(97:UInt8)],.int .i64 20];gG 300 [] trivial (.callK ([]) (.bool true) known4'<|.ff<|.bin r1<|.conv c1<|.callK (ζ9) (.agg ζ1) n5<|.append (rfl:appendA 5 96 {boxes:=ζ5,toks:=[],loops:=[]:Heap} (.sl .full []) (.sl .full [.agg ζ1])=some ((.sl (SK.own 0) [.agg ζ1],{boxes:=ζ5,toks:=[1],loops:=[]:Heap})))<|.no (dF ((0:Int)<(↑u:Int)))<|.bin r2<|.conv c2<|.bin r3<|.conv c3<|.callG (ζ6) (x) o1 ⟨rfl,rfl⟩ Res.p<|.callG (ζ7) (y) o2 ⟨rfl,rfl⟩ Res.p<|.effY (show Does cfg (.build [AV.flt 0,AV.flt 0] [(0,1,.c x),(1,1,.c y)]) ζ3 (.agg [x,y]) ζ3 from bl _)<|.callG ([.agg ζ2,.str [(97:UInt8)],.agg [x,y]]) (.int .i64 1) lv Shuts.p ⟨rfl,rfl⟩<|.no (dF ((↑h:Int)<(↑u:Int)))<|.no (dF ((↑u:Int)<(↑l:Int)))<|.tt<|.callG ([.agg ζ2,.str [(97:UInt8)]]) (z) wo ⟨rfl,rfl⟩ Res.p<|.callG (ζ8) (z) o3 ⟨rfl,rfl⟩ Res.p<|.callG ([z,z]) (.int .i64 0) cs Shuts.p ⟨rfl,rfl⟩<|.fin ((.ret (.bool ((0:Int)==(0:Int))),ζ3)) rfl)
 ·have es:encSt (sE u)=.agg [.sl .sh [.agg [.str [97],.sl .sh [.agg [.str [99,112,117],.int .i64 20]],.sl .sh [],.sl .sh [],.bool false]],.sl .sh [.agg [.str [112],.str [],.int .i64 0,.sl .sh [.agg [.str [99,112,117],.int .i64 (u:Int)]],.sl .sh [],.sl .sh [],.sl .sh [],.str [],.int .i64 0,.str [97],.bool false]],.sl .sh []]:=by unfold sE;rw[if_neg h0];rfl
  rw[es]at lv wo
  have p:=p6 u
  by_cases g:h<u
  ·rw[if_pos g]at lv
   exact let ζ1:List AV:=[.str [(112:UInt8)],.str [],.int .i64 0,.sl .sh [.agg [.str [(99:UInt8),(112:UInt8),(117:UInt8)],.int .i64 ↑u]],.sl .sh [],.sl .sh [],.sl .sh [],.str [],.int .i64 0,.str [(97:UInt8)],.bool false];let ζ2:List AV:=[.str [(97:UInt8)],.sl .sh [.agg [.str [(99:UInt8),(112:UInt8),(117:UInt8)],.int .i64 20]],.sl .sh [],.sl .sh [],.bool false];let ζ3:Heap:={boxes:=[[.sl (SK.own 0) [.agg ζ2],.sl (SK.own 1) [.agg ζ1],.sl .full []]],toks:=[1,1],loops:=[]:Heap};let ζ4:List (List AV):=[[.sl (SK.own 0) [.agg ζ2],.sl .full [],.sl .full []]];let ζ5:List AV:=[.str [(112:UInt8)],.int .i64 ↑u,.str [(97:UInt8)]];let ζ6:List (List AV):=[[.sl .full [],.sl .full [],.sl .full []]];let ζ7:List AV:=[.int .i64 ↑l,.int .i64 20];let ζ8:List AV:=[.int .i64 ↑h,.int .i64 20];let ζ9:List AV:=[.str [(97:UInt8)],.int .i64 20];gG 300 [] trivial (.callK ([]) (.bool true) known4'<|.ff<|.bin r1<|.conv c1<|.callK (ζ9) (.agg ζ2) n5<|.append (rfl:appendA 5 96 {boxes:=ζ6,toks:=[],loops:=[]:Heap} (.sl .full []) (.sl .full [.agg ζ2])=some ((.sl (SK.own 0) [.agg ζ2],{boxes:=ζ6,toks:=[1],loops:=[]:Heap})))<|.yes (dT ((0:Int)<(↑u:Int)))<|.callK (ζ5) (.agg ζ1) p<|.append (rfl:appendA 11 184 {boxes:=ζ4,toks:=[1],loops:=[]:Heap} (.sl .full []) (.sl .full [.agg ζ1])=some ((.sl (SK.own 1) [.agg ζ1],{boxes:=ζ4,toks:=[1,1],loops:=[]:Heap})))<|.bin r2<|.conv c2<|.bin r3<|.conv c3<|.callG (ζ7) (x) o1 ⟨rfl,rfl⟩ Res.p<|.callG (ζ8) (y) o2 ⟨rfl,rfl⟩ Res.p<|.effY (show Does cfg (.build [AV.flt 0,AV.flt 0] [(0,1,.c x),(1,1,.c y)]) ζ3 (.agg [x,y]) ζ3 from bl _)<|.callG ([.agg [.sl (SK.own 0) [.agg ζ2],.sl (SK.own 1) [.agg ζ1],.sl .full []],.str [(97:UInt8)],.agg [x,y]]) (.int .i64 2) lv Shuts.p ⟨rfl,rfl⟩<|.yes (dT ((↑h:Int)<(↑u:Int)))<|.fin ((.ret (.bool ((2:Int)==(2:Int))),ζ3)) rfl)
  ·rw[if_neg g]at lv
   by_cases hlt:u<l
   ·rw[if_pos hlt]at lv
    exact let ζ1:List AV:=[.str [(112:UInt8)],.str [],.int .i64 0,.sl .sh [.agg [.str [(99:UInt8),(112:UInt8),(117:UInt8)],.int .i64 ↑u]],.sl .sh [],.sl .sh [],.sl .sh [],.str [],.int .i64 0,.str [(97:UInt8)],.bool false];let ζ2:List AV:=[.str [(97:UInt8)],.sl .sh [.agg [.str [(99:UInt8),(112:UInt8),(117:UInt8)],.int .i64 20]],.sl .sh [],.sl .sh [],.bool false];let ζ3:Heap:={boxes:=[[.sl (SK.own 0) [.agg ζ2],.sl (SK.own 1) [.agg ζ1],.sl .full []]],toks:=[1,1],loops:=[]:Heap};let ζ4:List (List AV):=[[.sl (SK.own 0) [.agg ζ2],.sl .full [],.sl .full []]];let ζ5:List AV:=[.str [(112:UInt8)],.int .i64 ↑u,.str [(97:UInt8)]];let ζ6:List (List AV):=[[.sl .full [],.sl .full [],.sl .full []]];let ζ7:List AV:=[.int .i64 ↑l,.int .i64 20];let ζ8:List AV:=[.int .i64 ↑h,.int .i64 20];let ζ9:List AV:=[.str [(97:UInt8)],.int .i64 20];gG 300 [] trivial (.callK ([]) (.bool true) known4'<|.ff<|.bin r1<|.conv c1<|.callK (ζ9) (.agg ζ2) n5<|.append (rfl:appendA 5 96 {boxes:=ζ6,toks:=[],loops:=[]:Heap} (.sl .full []) (.sl .full [.agg ζ2])=some ((.sl (SK.own 0) [.agg ζ2],{boxes:=ζ6,toks:=[1],loops:=[]:Heap})))<|.yes (dT ((0:Int)<(↑u:Int)))<|.callK (ζ5) (.agg ζ1) p<|.append (rfl:appendA 11 184 {boxes:=ζ4,toks:=[1],loops:=[]:Heap} (.sl .full []) (.sl .full [.agg ζ1])=some ((.sl (SK.own 1) [.agg ζ1],{boxes:=ζ4,toks:=[1,1],loops:=[]:Heap})))<|.bin r2<|.conv c2<|.bin r3<|.conv c3<|.callG (ζ7) (x) o1 ⟨rfl,rfl⟩ Res.p<|.callG (ζ8) (y) o2 ⟨rfl,rfl⟩ Res.p<|.effY (show Does cfg (.build [AV.flt 0,AV.flt 0] [(0,1,.c x),(1,1,.c y)]) ζ3 (.agg [x,y]) ζ3 from bl _)<|.callG ([.agg [.sl (SK.own 0) [.agg ζ2],.sl (SK.own 1) [.agg ζ1],.sl .full []],.str [(97:UInt8)],.agg [x,y]]) (.int .i64 0) lv Shuts.p ⟨rfl,rfl⟩<|.no (dF ((↑h:Int)<(↑u:Int)))<|.yes (dT ((↑u:Int)<(↑l:Int)))<|.fin ((.ret (.bool ((0:Int)==(0:Int))),ζ3)) rfl)
   ·rw[if_neg hlt]at lv
    exact let ζ1:List AV:=[.str [(112:UInt8)],.str [],.int .i64 0,.sl .sh [.agg [.str [(99:UInt8),(112:UInt8),(117:UInt8)],.int .i64 ↑u]],.sl .sh [],.sl .sh [],.sl .sh [],.str [],.int .i64 0,.str [(97:UInt8)],.bool false];let ζ2:List AV:=[.str [(97:UInt8)],.sl .sh [.agg [.str [(99:UInt8),(112:UInt8),(117:UInt8)],.int .i64 20]],.sl .sh [],.sl .sh [],.bool false];let ζ3:List AV:=[.sl (SK.own 0) [.agg ζ2],.sl (SK.own 1) [.agg ζ1],.sl .full []];let ζ4:Heap:={boxes:=[ζ3],toks:=[1,1],loops:=[]:Heap};let ζ5:List (List AV):=[[.sl (SK.own 0) [.agg ζ2],.sl .full [],.sl .full []]];let ζ6:List AV:=[.str [(112:UInt8)],.int .i64 ↑u,.str [(97:UInt8)]];let ζ7:List AV:=[.sl .sh [.agg ζ2],.sl .sh [.agg ζ1],.sl .sh []];let ζ8:List (List AV):=[[.sl .full [],.sl .full [],.sl .full []]];let ζ9:List AV:=[.int .i64 ↑l,.int .i64 20];let ζ10:List AV:=[.int .i64 ↑h,.int .i64 20];let ζ11:List AV:=[.int .i64 ↑u,.int .i64 20];let ζ12:List AV:=[.str [(97:UInt8)],.int .i64 20];gG 300 [] trivial (.callK ([]) (.bool true) known4'<|.ff<|.bin r1<|.conv c1<|.callK (ζ12) (.agg ζ2) n5<|.append (rfl:appendA 5 96 {boxes:=ζ8,toks:=[],loops:=[]:Heap} (.sl .full []) (.sl .full [.agg ζ2])=some ((.sl (SK.own 0) [.agg ζ2],{boxes:=ζ8,toks:=[1],loops:=[]:Heap})))<|.yes (dT ((0:Int)<(↑u:Int)))<|.callK (ζ6) (.agg ζ1) p<|.append (rfl:appendA 11 184 {boxes:=ζ5,toks:=[1],loops:=[]:Heap} (.sl .full []) (.sl .full [.agg ζ1])=some ((.sl (SK.own 1) [.agg ζ1],{boxes:=ζ5,toks:=[1,1],loops:=[]:Heap})))<|.bin r2<|.conv c2<|.bin r3<|.conv c3<|.callG (ζ9) (x) o1 ⟨rfl,rfl⟩ Res.p<|.callG (ζ10) (y) o2 ⟨rfl,rfl⟩ Res.p<|.effY (show Does cfg (.build [AV.flt 0,AV.flt 0] [(0,1,.c x),(1,1,.c y)]) ζ4 (.agg [x,y]) ζ4 from bl _)<|.callG ([.agg ζ3,.str [(97:UInt8)],.agg [x,y]]) (.int .i64 1) lv Shuts.p ⟨rfl,rfl⟩<|.no (dF ((↑h:Int)<(↑u:Int)))<|.no (dF ((↑u:Int)<(↑l:Int)))<|.tt<|.callG ([.agg ζ3,.str [(97:UInt8)]]) (z) wo ⟨rfl,rfl⟩ Res.p<|.callG (ζ11) (z) o3 ⟨rfl,rfl⟩ Res.p<|.callG ([z,z]) (.int .i64 0) cs Shuts.p ⟨rfl,rfl⟩<|.fin ((.ret (.bool ((0:Int)==(0:Int))),ζ4)) rfl)
end Go.Aa.T
set_option linter.unusedVariables false
set_option linter.unusedSimpArgs false
set_option maxRecDepth 100000
namespace Go.Aa.T
open Go.Aa Go.Proofs
theorem tyU8{k:Nat}{x:AV}(hx:TyV Tryd.prog (k+1) 5 x):∃n:Nat,n<256∧x=.int .u8 (n:Int):=by
 obtain⟨m,rfl,hm⟩:=tyv_int Tryd.underlying5 hx
 have h':IntKind.u8.min≤m∧m≤IntKind.u8.max:=by simpa[Lit.wf,IntKind.has]using hm
 have e1:IntKind.u8.min=0:=rfl
 have e2:IntKind.u8.max=255:=rfl
 exact⟨m.toNat,by omega,by congr 1;omega⟩
theorem law3(xs:List AV)(h:TyAll Tryd.prog 6 [5,5,5] xs)(hz:SzAll Tryd.prog [5,5,5] xs):∃H',lim cfg (.fn 3) xs Heap.nil=some (.ret (.bool true),H'):=by
 obtain⟨x1,x2,x3,rfl,h1,h2,h3⟩:=tyall_3 h
 obtain⟨a,ha,rfl⟩:=tyU8 h1
 obtain⟨b,hb,rfl⟩:=tyU8 h2
 obtain⟨c,hc,rfl⟩:=tyU8 h3
 exact(levelEdges a b c ha hb hc).ret
end Go.Aa.T
namespace Go.Proofs
open Go.Shelf
def Tryd.lays160_ren:Go.Shelf.Ren:=⟨fun|160=>57|232=>61|231=>60|227=>62|234=>64|233=>63|236=>66|235=>65|228=>78|271=>81|151=>80|197=>79|120=>90|152=>89|260=>88|137=>92|119=>93|224=>94|225=>95|217=>96|266=>97|n=>n,fun|9=>9|4=>4|3=>3|5=>5|117=>108|116=>107|0=>0|124=>111|21=>21|105=>125|46=>104|119=>138|139=>141|138=>140|n=>n,fun|3=>1|4=>2|n=>n⟩
theorem Tryd.lays160:Go.Proofs.Lays.n160 Tryd.prog Tryd.lays160_ren:={
 mixed:=by kernel_rfl
 f119:=Tryd.func93.trans (congrArg some (by kernel_rfl))
 f120:=Tryd.func90.trans (congrArg some (by kernel_rfl))
 f137:=Tryd.func92.trans (congrArg some (by kernel_rfl))
 f151:=Tryd.func80.trans (congrArg some (by kernel_rfl))
 f152:=Tryd.func89.trans (congrArg some (by kernel_rfl))
 f160:=Tryd.func57.trans (congrArg some (by kernel_rfl))
 f197:=Tryd.func79.trans (congrArg some (by kernel_rfl))
 f217:=Tryd.func96.trans (congrArg some (by kernel_rfl))
 f224:=Tryd.func94.trans (congrArg some (by kernel_rfl))
 f225:=Tryd.func95.trans (congrArg some (by kernel_rfl))
 f227:=Tryd.func62.trans (congrArg some (by kernel_rfl))
 f228:=Tryd.func78.trans (congrArg some (by kernel_rfl))
 f231:=Tryd.func60.trans (congrArg some (by kernel_rfl))
 f232:=Tryd.func61.trans (congrArg some (by kernel_rfl))
 f233:=Tryd.func63.trans (congrArg some (by kernel_rfl))
 f234:=Tryd.func64.trans (congrArg some (by kernel_rfl))
 f235:=Tryd.func65.trans (congrArg some (by kernel_rfl))
 f236:=Tryd.func66.trans (congrArg some (by kernel_rfl))
 f260:=Tryd.func88.trans (congrArg some (by kernel_rfl))
 f266:=Tryd.func97.trans (congrArg some (by kernel_rfl))
 f271:=Tryd.func81.trans (congrArg some (by kernel_rfl))
 t0:=Tryd.underlying0
 a0:=Tryd.isAgg0
 z0:=Tryd.sizeOf0
 v0:=Tryd.zeroValue0
 t3:=Tryd.underlying3
 a3:=Tryd.isAgg3
 z3:=Tryd.sizeOf3
 v3:=Tryd.zeroValue3
 t4:=Tryd.underlying4
 a4:=Tryd.isAgg4
 z4:=Tryd.sizeOf4
 v4:=Tryd.zeroValue4
 t5:=Tryd.underlying5
 a5:=Tryd.isAgg5
 z5:=Tryd.sizeOf5
 v5:=Tryd.zeroValue5
 t9:=Tryd.underlying9
 a9:=Tryd.isAgg9
 z9:=Tryd.sizeOf9
 v9:=Tryd.zeroValue9
 t21:=Tryd.underlying21
 a21:=Tryd.isAgg21
 z21:=Tryd.sizeOf21
 v21:=Tryd.zeroValue21
 t46:=Tryd.underlying104
 a46:=Tryd.isAgg104
 z46:=Tryd.sizeOf104
 v46:=Tryd.zeroValue104
 t105:=Tryd.underlying125
 a105:=Tryd.isAgg125
 z105:=Tryd.sizeOf125
 v105:=Tryd.zeroValue125
 t116:=Tryd.underlying107
 a116:=Tryd.isAgg107
 z116:=Tryd.sizeOf107
 t117:=Tryd.underlying108
 a117:=Tryd.isAgg108
 z117:=Tryd.sizeOf108
 v117:=Tryd.zeroValue108
 t119:=Tryd.underlying138
 a119:=Tryd.isAgg138
 z119:=Tryd.sizeOf138
 t124:=Tryd.underlying111
 a124:=Tryd.isAgg111
 z124:=Tryd.sizeOf111
 v124:=Tryd.zeroValue111
 t138:=Tryd.underlying140
 a138:=Tryd.isAgg140
 z138:=Tryd.sizeOf140
 v138:=Tryd.zeroValue140
 t139:=Tryd.underlying141
 a139:=Tryd.isAgg141
 z139:=Tryd.sizeOf141
 v139:=Tryd.zeroValue141
 g3:=by kernel_rfl
 g4:=by kernel_rfl}
def Tryd.lays190_ren:Go.Shelf.Ren:=⟨fun|190=>55|125=>59|258=>58|128=>76|129=>77|302=>67|303=>68|304=>69|305=>70|306=>71|307=>72|308=>73|309=>74|310=>75|333=>82|329=>83|330=>84|334=>85|335=>86|336=>87|344=>91|n=>n,fun|31=>94|9=>9|3=>3|46=>104|0=>0|51=>122|53=>69|4=>4|183=>114|182=>113|131=>119|5=>5|218=>128|222=>132|228=>135|229=>136|n=>n,fun|n=>n⟩
theorem Tryd.lays190:Go.Proofs.Lays.n190 Tryd.prog Tryd.lays190_ren:={
 mixed:=by kernel_rfl
 f125:=Tryd.func59.trans (congrArg some (by kernel_rfl))
 f128:=Tryd.func76.trans (congrArg some (by kernel_rfl))
 f129:=Tryd.func77.trans (congrArg some (by kernel_rfl))
 f190:=Tryd.func55.trans (congrArg some (by kernel_rfl))
 f258:=Tryd.func58.trans (congrArg some (by kernel_rfl))
 f302:=Tryd.func67.trans (congrArg some (by kernel_rfl))
 f303:=Tryd.func68.trans (congrArg some (by kernel_rfl))
 f304:=Tryd.func69.trans (congrArg some (by kernel_rfl))
 f305:=Tryd.func70.trans (congrArg some (by kernel_rfl))
 f306:=Tryd.func71.trans (congrArg some (by kernel_rfl))
 f307:=Tryd.func72.trans (congrArg some (by kernel_rfl))
 f308:=Tryd.func73.trans (congrArg some (by kernel_rfl))
 f309:=Tryd.func74.trans (congrArg some (by kernel_rfl))
 f310:=Tryd.func75.trans (congrArg some (by kernel_rfl))
 f329:=Tryd.func83.trans (congrArg some (by kernel_rfl))
 f330:=Tryd.func84.trans (congrArg some (by kernel_rfl))
 f333:=Tryd.func82.trans (congrArg some (by kernel_rfl))
 f334:=Tryd.func85.trans (congrArg some (by kernel_rfl))
 f335:=Tryd.func86.trans (congrArg some (by kernel_rfl))
 f336:=Tryd.func87.trans (congrArg some (by kernel_rfl))
 f344:=Tryd.func91.trans (congrArg some (by kernel_rfl))
 t0:=Tryd.underlying0
 a0:=Tryd.isAgg0
 z0:=Tryd.sizeOf0
 v0:=Tryd.zeroValue0
 t3:=Tryd.underlying3
 a3:=Tryd.isAgg3
 z3:=Tryd.sizeOf3
 v3:=Tryd.zeroValue3
 t4:=Tryd.underlying4
 a4:=Tryd.isAgg4
 z4:=Tryd.sizeOf4
 v4:=Tryd.zeroValue4
 t5:=Tryd.underlying5
 a5:=Tryd.isAgg5
 z5:=Tryd.sizeOf5
 v5:=Tryd.zeroValue5
 t9:=Tryd.underlying9
 a9:=Tryd.isAgg9
 z9:=Tryd.sizeOf9
 v9:=Tryd.zeroValue9
 t31:=Tryd.underlying94
 a31:=Tryd.isAgg94
 z31:=Tryd.sizeOf94
 v31:=Tryd.zeroValue94
 t46:=Tryd.underlying104
 a46:=Tryd.isAgg104
 z46:=Tryd.sizeOf104
 v46:=Tryd.zeroValue104
 t51:=Tryd.underlying122
 a51:=Tryd.isAgg122
 z51:=Tryd.sizeOf122
 v51:=Tryd.zeroValue122
 t53:=Tryd.underlying69
 a53:=Tryd.isAgg69
 z53:=Tryd.sizeOf69
 v53:=Tryd.zeroValue69
 t131:=Tryd.underlying119
 a131:=Tryd.isAgg119
 z131:=Tryd.sizeOf119
 v131:=Tryd.zeroValue119
 t182:=Tryd.underlying113
 a182:=Tryd.isAgg113
 z182:=Tryd.sizeOf113
 v182:=Tryd.zeroValue113
 t183:=Tryd.underlying114
 a183:=Tryd.isAgg114
 z183:=Tryd.sizeOf114
 v183:=Tryd.zeroValue114
 t218:=Tryd.underlying128
 a218:=Tryd.isAgg128
 z218:=Tryd.sizeOf128
 v218:=Tryd.zeroValue128
 t222:=Tryd.underlying132
 a222:=Tryd.isAgg132
 z222:=Tryd.sizeOf132
 v222:=Tryd.zeroValue132
 t228:=Tryd.underlying135
 a228:=Tryd.isAgg135
 z228:=Tryd.sizeOf135
 v228:=Tryd.zeroValue135
 t229:=Tryd.underlying136
 a229:=Tryd.isAgg136
 z229:=Tryd.sizeOf136
 v229:=Tryd.zeroValue136}
end Go.Proofs
set_option linter.unusedVariables false
set_option linter.unusedSimpArgs false
set_option maxRecDepth 100000
namespace Go.Aa.T
open Go.Aa Go.Proofs Go.RowKit Go.Shelf
theorem cfgOk:CfgOk Tryd.prog cfg:=by
 refine⟨by kernel_rfl,fun f A h=>tab_fn h,fun f g h=> ?_,fun f h=> ?_⟩
 ·have h:extF f=some g:=h
  unfold extF at h
  split at h<;>simp only[Option.some.injEq,reduceCtorEq]at h<;>subst h
  ·exact ext_trim (fun _ _=>by kernel_rfl) fun s c w h1 h2 h3=>Any.strings_Trim_laid Tryd.lays160 (by kernel_rfl) s c w h1 h2 h3
  ·exact ext_sort (fun _ _=>by kernel_rfl) (fun a c w=>Any.slices_Sort_string_none Tryd.lays190 a c w) fun blk off cap ss w h1 h2 h3=>Any.slices_Sort_string Tryd.lays190 blk off cap ss w h1 h2 h3
  ·exact ext_bits fun b w=>by
    rw[run_callFunc_extern (fn:=Tryd.f30) Tryd.func30 (by kernel_rfl) (by kernel_rfl) (by kernel_rfl) (e:=Extern.MathFloatBits.float64bits) (by kernel_rfl)]
    rfl
  ·exact ext_frombits fun n w=>by
    rw[run_callFunc_extern (fn:=Tryd.f34) Tryd.func34 (by kernel_rfl) (by kernel_rfl) (by kernel_rfl) (e:=Extern.MathFloatBits.float64frombits) (by kernel_rfl)]
    rfl
 ·have h:(f==40)=true:=h
  have:f=40:=by simpa using h
  subst this
  exact Go.Proofs.YthlhlfiklmmenaaDoor.T.tryOk
#print axioms cfgOk
end Go.Aa.T
