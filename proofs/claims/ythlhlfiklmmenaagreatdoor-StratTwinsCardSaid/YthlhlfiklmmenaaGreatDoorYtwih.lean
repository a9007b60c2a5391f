/-
  WHAT THE LAW LEANS ON, part 8 of 13: a machine of values and its soundness; the functions of the law upon it; what they come to.
-/
import Derived.Test.YthlhlfiklmmenaaGreatDoorYtwig
set_option linter.unusedVariables false
set_option linter.unusedSimpArgs false
set_option maxRecDepth 100000
namespace Go.Aa.T
open Go.Aa Go.Proofs
def uqG(x:List UInt8):List (List UInt8)→List (List UInt8)
 |[]=>[]
 |y::l=>if y=x then uqG x l else y::uqG y l
def uq:List (List UInt8)→List (List UInt8)
 |[]=>[]
 |x::l=>x::uqG x l
def namesOf(l:List (List UInt8)):List (List UInt8):=uq (isort l)
theorem uqG_len(x:List UInt8):∀l:List (List UInt8),(uqG x l).length≤l.length
 |[]=>Nat.le_refl _
 |y::l=>by
  unfold uqG
  split
  ·have:=uqG_len x l;simp;omega
  ·have:=uqG_len y l;simp;omega
theorem uq_len(l:List (List UInt8)):(uq l).length≤l.length:=by
 cases l with
 |nil=>exact Nat.le_refl _
 |cons x l=>have:=uqG_len x l;simp[uq];omega
theorem trunc_len{bs:List (List AV)}{ls:List LRec}{v:AV}{nb nt:Nat}(h:bs.length=nb):trunc nb nt v ⟨bs,[],ls⟩=⟨bs,[],ls⟩:=by
 unfold trunc
 have e:∀(b:Bool),(if b=true then bs.take nb else bs)=bs:=fun b=>by
  split
  ·exact List.take_of_length_le (by omega)
  ·rfl
 simp only[e,List.take_nil,ite_self]
theorem unrow_one:∀(n:Nat)(cs:List AV),n≤cs.length→unrow 1 n cs=cs.take n
 |0,cs,_=>by simp[unrow]
 |n+1,[],h=>by simp at h
 |n+1,c::cs,h=>by
  simp only[unrow,if_true,List.headD_cons,List.drop_succ_cons,List.drop_zero,List.take_succ_cons]
  rw[unrow_one n cs (by simpa using h)]
theorem strs_data(l:List (List UInt8)):(l.map AV.str).all data0=true:=List.all_eq_true.2 fun x hx=>by
 obtain⟨s,-,rfl⟩:=List.mem_map.1 hx
 rfl
theorem out_box1{bs:List (List AV)}{tk:List Nat}{ls:List LRec}{kk n:Nat}{cs:List AV}(hk:bs[kk]?=some cs)(hn:n≤cs.length)(hd:cs.all data0=true):dataOut ⟨bs,tk,ls⟩ (.msl kk 0 n 1)=some (.sl .sh (cs.take n)):=by
 have h1:frzA ⟨bs,tk,ls⟩ (.msl kk 0 n 1)=some (.sl .sh (cs.take n)):=by
  simp only[frzA,frz2,frz1,hk,Nat.zero_add,List.drop_zero,Nat.mul_one]
  rw[if_pos ⟨hn,Nat.zero_le _,Nat.one_pos,hd⟩,unrow_one n cs hn]
 unfold dataOut
 rw[if_neg (by simp[shutA,shut2,shut1,isData,data2,data1,data0]),h1]
 rfl
theorem does_load1{kk m:Nat}{bs:List (List AV)}{tk:List Nat}{ls:List LRec}{C:List (List UInt8)}{y:List UInt8}(hk:bs[kk]?=some (C.map .str))(hy:C[m]?=some y):Does cfg (.load false 1 (.c (.ptr kk m))) ⟨bs,tk,ls⟩ (.str y) ⟨bs,tk,ls⟩:=fun T=>by
 have hm:=(List.getElem?_eq_some_iff.1 hy).1
 have:loadA false 1 ⟨bs,tk,ls⟩ (.ptr kk m)=some (.str y):=by
  simp only[loadA,hk,List.length_map]
  rw[if_pos (by omega)]
  simp[hy]
 simp only[opStep,ev,this]
theorem does_store1{kk m:Nat}{bs:List (List AV)}{tk:List Nat}{ls:List LRec}{C:List (List UInt8)}(y:List UInt8)(hk:bs[kk]?=some (C.map .str))(hm:m<C.length):Does cfg (.store 1 (.c (.ptr kk m)) (.c (.str y))) ⟨bs,tk,ls⟩ .undef ⟨bs.set kk ((C.set m y).map .str),tk,ls⟩:=fun T=>by
 have:storeA 1 ⟨bs,tk,ls⟩ (.ptr kk m) (.str y)=some ⟨bs.set kk ((C.set m y).map .str),tk,ls⟩:=by
  simp only[storeA,hk,List.length_map]
  rw[if_pos ⟨by omega,rfl,rfl,by omega⟩]
  simp[AV.cells,paste,List.map_set]
 simp only[opStep,ev,this]
theorem does_growB{es b kk n:Nat}{B:List (List AV)}{tk:List Nat}{ls:List LRec}{cs:List AV}{v:AV}{sk:SK}(hk:B[kk]?=some cs)(hn:cs.length=n*es)(h0:0<n)(hd:cs.all data0=true)(hv:cellsN es v=true)(hvd:dataOk [v]=true)(hb:(n+1)*b≤140737488355328):
 Does cfg (.appendM es b (.c (.msl kk 0 n es)) (.c (.sl sk [v]))) ⟨B,tk,ls⟩ (.msl B.length 0 (n+1) es) ⟨B.set kk []++[cs++v.cells],tk,ls⟩:=fun T=>by
 have:appendMA es b ⟨B,tk,ls⟩ (.msl kk 0 n es) (.sl sk [v])=some (.msl B.length 0 (n+1) es,⟨B.set kk []++[cs++v.cells],tk,ls⟩):=by
  simp only[appendMA,hk]
  rw[if_pos ⟨trivial,trivial,h0,hn,hd,hb,by simp only[lenOk,List.all_cons,List.all_nil,Bool.and_true];exact hv,hvd⟩]
  simp[rowCells]
 simp only[opStep,ev,this]
theorem does_newB{es b:Nat}{B:List (List AV)}{tk:List Nat}{ls:List LRec}{v:AV}{sk:SK}(hv:cellsN es v=true)(hvd:dataOk [v]=true)(hb:b≤140737488355328):
 Does cfg (.appendM es b (.c (.sl .full [])) (.c (.sl sk [v]))) ⟨B,tk,ls⟩ (.msl B.length 0 1 es) ⟨B++[v.cells],tk,ls⟩:=fun T=>by
 have:appendMA es b ⟨B,tk,ls⟩ (.sl .full []) (.sl sk [v])=some (.msl B.length 0 1 es,⟨B++[v.cells],tk,ls⟩):=by
  simp only[appendMA]
  rw[if_pos ⟨by trivial,by trivial,by simpa using hb,by simp only[lenOk,List.all_cons,List.all_nil,Bool.and_true];exact hv,hvd⟩]
  simp[rowCells]
 simp only[opStep,ev,this]
section
variable(kk n:Nat)(B0:List (List AV))
def RetC(res:List (List UInt8))(r:ARes×Heap):Prop:=∃(m:Nat)(C:List (List UInt8)),r=(.ret (.msl kk 0 m 1),⟨B0.set kk (C.map .str),[],[]⟩)∧C.take m=res∧m≤C.length∧C.length=n
theorem compact_loop2(hn:n<9223372036854775807)(hk0:kk<B0.length)(k0:Nat)(h1:1≤k0):∀(post:List (List UInt8))(q m:Nat)(prev:List UInt8)(U C:List (List UInt8))(hm:m=k0+q)(hq:1≤q)(hC:C.length=n)(hU:C.take U.length=U)(hd:C.drop (m-1)=prev::post)(hl:U.length+1≤m)(T:Env)
 (hT:Has T [(0,.msl kk 0 n 1),(3,.int .i64 U.length),(4,.msl kk k0 (n-k0) 1),(5,.int .i64 q)]),
 Goes cfg a228 k228_1 T ⟨B0.set kk (C.map .str),[],[]⟩ (RetC kk n B0 (U++uqG prev post)):=by
 intro post
 induction post with
 |nil=>
  intro q m prev U C hm hq hC hU hd hl T hT
  have hlen:n-(m-1)=1:=by
   have:=congrArg List.length hd
   simpa[hC]using this
  have hk:(B0.set kk (C.map AV.str))[kk]?=some (C.map .str):=by rw[List.getElem?_set_self hk0]
  have c1:binA .lss (.int .i64 (q:Nat)) (.int .i64 ((n-k0:Nat):Int))=some (.bool false):=lssF (by omega)
  have s1:sliceA 1 (.msl kk 0 n 1) (some (.int .i64 (U.length:Nat))) none none=some (.msl kk U.length (n-U.length) 1):=by
   simp only[sliceA,sliceM,boundA]
   rw[if_neg (by omega)]
   rw[if_pos ⟨by omega,by omega⟩]
   simp only[Int.toNat_natCast]
   rw[if_pos (by omega)]
   simp
  have s2:sliceA 1 (.msl kk 0 n 1) none (some (.int .i64 (U.length:Nat))) none=some (.msl kk 0 U.length 1):=by
   simp only[sliceA,sliceM,boundA]
   rw[if_neg (by omega)]
   rw[if_pos ⟨by omega,by omega⟩]
   simp only[Int.toNat_natCast]
   rw[if_pos (by omega)]
   simp
  have cl:Does cfg (.clearM [.str []] (.c (.msl kk U.length (n-U.length) 1))) ⟨B0.set kk (C.map .str),[],[]⟩ (.tuple []) ⟨B0.set kk ((U++List.replicate (n-U.length) []).map .str),[],[]⟩:=fun T=>by
   have e0:(List.replicate (n-U.length) [AV.str []]).flatten=List.replicate (n-U.length) (.str []):=by
    generalize n-U.length=j
    induction j with
    |zero=>rfl
    |succ j ih=>rw[List.replicate_succ,List.flatten_cons,ih];rfl
   have:clearA [.str []] ⟨B0.set kk (C.map .str),[],[]⟩ (.msl kk U.length (n-U.length) 1)=some ⟨B0.set kk ((U++List.replicate (n-U.length) []).map .str),[],[]⟩:=by
    simp only[clearA,hk]
    rw[if_pos ⟨by simp[hC];omega,rfl,by omega,by omega,rfl⟩,e0,paste_spec _ _ _ (by simp[hC];omega)]
    simp only[List.set_set]
    congr 3
    rw[←List.map_take,hU,List.drop_eq_nil_of_le (by simp[hC];omega)]
    simp
   simp only[opStep,ev,this]
  exact let ζ1:Heap:={boxes:=B0.set kk (List.map .str (U++List.replicate (n-U.length) [])),toks:=[],loops:=[]:Heap};gG 60 _ hT (.len (rfl:lenA false (.msl kk k0 (n-k0) 1)=some (.int .i64 (↑(n-k0):Int)))<|.no (dF ((↑q:Int)<(↑(n-k0):Int)))<|.slice s1<|.effY cl<|.slice s2<|.fin ((.ret (.msl kk 0 U.length 1),ζ1)) (by exact⟨U.length,U++List.replicate (n-U.length) [],rfl,by simp[uqG],by simp,by simp;omega⟩))
 |cons y post ih=>
  intro q m prev U C hm hq hC hU hd hl T hT
  have hlen:n-(m-1)=post.length+2:=by
   have:=congrArg List.length hd
   simpa[hC]using this
  have hk:(B0.set kk (C.map AV.str))[kk]?=some (C.map .str):=by rw[List.getElem?_set_self hk0]
  have c1:binA .lss (.int .i64 (q:Nat)) (.int .i64 ((n-k0:Nat):Int))=some (.bool true):=lssT (by omega)
  have hprev:C[k0+(q-1)]?=some prev:=by
   have:=drop_at hd
   rwa [show m-1=k0+(q-1)by omega]at this
  have hd1:C.drop m=y::post:=by
   have:=drop_next hd
   rwa [show m-1+1=m by omega]at this
  have hy:C[k0+q]?=some y:=by rw[←hm];exact drop_at hd1
  obtain⟨q,rfl⟩:∃p,q=p+1:=⟨q-1,by omega⟩
  have i1:idxA 1 (.msl kk k0 (n-k0) 1) (.int .i64 ((q+1:Nat):Int))=some (.ptr kk (k0+(q+1))):=by
   have:=idx_msl (k:=kk) (off:=k0) (n:=n-k0) (es:=1) (q:=.i64) (i:=q+1) (by omega)
   rwa [Nat.mul_one]at this
  have i2:idxA 1 (.msl kk k0 (n-k0) 1) (.int .i64 (q:Nat))=some (.ptr kk (k0+q)):=by
   have:=idx_msl (k:=kk) (off:=k0) (n:=n-k0) (es:=1) (q:=.i64) (i:=q) (by omega)
   rwa [Nat.mul_one]at this
  have l1:=does_load1 (tk:=[]) (ls:=[]) hk hy
  rw[Nat.add_sub_cancel]at hprev
  have l2:=does_load1 (tk:=[]) (ls:=[]) hk hprev
  have d1:=dec_i (i:=q) (by omega)
  by_cases e:y=prev
  ·have hg:uqG prev (y::post)=uqG prev post:=by simp[uqG,e]
   rw[hg]
   have n1:binA .neq (.str y) (.str prev)=some (.bool false):=strNeF e
   have ih':=ih (q+1+1) (m+1) prev U C (by omega) (by omega) hC hU (by rw[Nat.add_sub_cancel,hd1,e]) (by omega)
   exact let ζ1:Heap:={boxes:=B0.set kk (List.map .str C),toks:=[],loops:=[]:Heap};gG 90 _ hT (.len (rfl:lenA false (.msl kk k0 (n-k0) 1)=some (.int .i64 (↑(n-k0):Int)))<|.yes (dT ((↑(q+1):Int)<(↑(n-k0):Int)))<|.idx i1<|.effY l1<|.bin d1<|.idx i2<|.effY l2<|.no (show(!y==prev)=false from by have hh:(y==prev)=true:=(by simpa using e);simp[hh])<|.bin (show binA .add (.int .i64 (↑(q+1):Int)) (.int .i64 1)=some (.int .i64 (↑(q+1+1):Int))from inc_i (by omega))<|.cutQ k228_1 [(0,.msl kk 0 n 1),(3,.int .i64 (↑U.length)),(4,.msl kk k0 (n-k0) 1),(5,.int .i64 (↑(q+1+1):Int))] (ζ1) (fun T hT=>(ih' T hT)))
  ·have hg:uqG prev (y::post)=y::uqG y post:=by simp[uqG,e]
   rw[hg]
   have n1:binA .neq (.str y) (.str prev)=some (.bool true):=strNeT e
   have i3:idxA 1 (.msl kk 0 n 1) (.int .i64 (U.length:Nat))=some (.ptr kk U.length):=by
    have:=idx_msl (k:=kk) (off:=0) (n:=n) (es:=1) (q:=.i64) (i:=U.length) (by omega)
    rwa [Nat.mul_one,Nat.zero_add]at this
   have st:=does_store1 (tk:=[]) (ls:=[]) y hk (m:=U.length) (by omega)
   rw[List.set_set]at st
   have ih':=ih (q+1+1) (m+1) y (U++[y]) (C.set U.length y) (by omega) (by omega) (by simp[hC]) (by
    rw[List.length_append,List.length_singleton,List.take_add_one,List.getElem?_set_self (by omega),List.take_set_of_le (Nat.le_refl _),hU]
    rfl) (by
    rw[Nat.add_sub_cancel,List.drop_set_of_lt (by omega),hd1]) (by simp;omega)
   rw[List.append_assoc]at ih'
   have el:((U++[y]).length:Int)=((U.length+1:Nat):Int):=by simp
   rw[el]at ih'
   have inc:=inc_i (i:=U.length) (by omega)
   exact let ζ1:Heap:={boxes:=B0.set kk (List.map .str C),toks:=[],loops:=[]:Heap};let ζ2:Heap:={boxes:=B0.set kk (List.map .str (C.set U.length y)),toks:=[],loops:=[]:Heap};gG 90 _ hT (.len (rfl:lenA false (.msl kk k0 (n-k0) 1)=some (.int .i64 (↑(n-k0):Int)))<|.yes (dT ((↑(q+1):Int)<(↑(n-k0):Int)))<|.idx i1<|.effY l1<|.bin d1<|.idx i2<|.effY l2<|.yes (show(!y==prev)=true from by have hh:¬((y==prev)=true):=(by simpa using e);simp[hh])<|.idx i1<|.effY l1<|.idx i3<|.effY st<|.bin inc<|.bin (show binA .add (.int .i64 (↑(q+1):Int)) (.int .i64 1)=some (.int .i64 (↑(q+1+1):Int))from inc_i (by omega))<|.cutQ k228_1 [(0,.msl kk 0 n 1),(3,.int .i64 (↑(U.length+1):Int)),(4,.msl kk k0 (n-k0) 1),(5,.int .i64 (↑(q+1+1):Int))] (ζ2) (fun T hT=>(ih' T hT)))
theorem compact_loop1(hn:n<9223372036854775807)(hk0:kk<B0.length):∀(post:List (List UInt8))(m:Nat)(prev:List UInt8)(C:List (List UInt8))(hm:1≤m)(hC:C.length=n)(hd:C.drop (m-1)=prev::post)(hu:uq C=C.take m++uqG prev post)(T:Env)
 (hT:Has T [(0,.msl kk 0 n 1),(3,.int .i64 m)]),
 Goes cfg a228 k228_0 T ⟨B0.set kk (C.map .str),[],[]⟩ (RetC kk n B0 (uq C)):=by
 intro post
 induction post with
 |nil=>
  intro m prev C hm hC hd hu T hT
  have hlen:n-(m-1)=1:=by
   have:=congrArg List.length hd
   simpa[hC]using this
  have c1:binA .lss (.int .i64 (m:Nat)) (.int .i64 (n:Nat))=some (.bool false):=lssF (by omega)
  have e:uq C=C:=by
   rw[hu,List.take_of_length_le (by omega)];simp[uqG]
  rw[e]
  exact gG 60 _ hT (.len (rfl:lenA false (.msl kk 0 n 1)=some (.int .i64 ↑n))<|.no (dF ((↑m:Int)<(↑n:Int)))<|.fin ((.ret (.msl kk 0 n 1),{boxes:=B0.set kk (List.map .str C),toks:=[],loops:=[]:Heap})) (by exact⟨n,C,rfl,List.take_of_length_le (by omega),by omega,hC⟩))
 |cons y post ih=>
  intro m prev C hm hC hd hu T hT
  have hlen:n-(m-1)=post.length+2:=by
   have:=congrArg List.length hd
   simpa[hC]using this
  have hk:(B0.set kk (C.map AV.str))[kk]?=some (C.map .str):=by rw[List.getElem?_set_self hk0]
  have c1:binA .lss (.int .i64 (m:Nat)) (.int .i64 (n:Nat))=some (.bool true):=lssT (by omega)
  have hprev:C[m-1]?=some prev:=drop_at hd
  have hd1:C.drop m=y::post:=by
   have:=drop_next hd
   rwa [show m-1+1=m by omega]at this
  have hy:C[m]?=some y:=drop_at hd1
  obtain⟨q,rfl⟩:∃p,m=p+1:=⟨m-1,by omega⟩
  have i1:idxA 1 (.msl kk 0 n 1) (.int .i64 ((q+1:Nat):Int))=some (.ptr kk (q+1)):=by
   have:=idx_msl (k:=kk) (off:=0) (n:=n) (es:=1) (q:=.i64) (i:=q+1) (by omega)
   rwa [Nat.mul_one,Nat.zero_add]at this
  have i2:idxA 1 (.msl kk 0 n 1) (.int .i64 (q:Nat))=some (.ptr kk q):=by
   have:=idx_msl (k:=kk) (off:=0) (n:=n) (es:=1) (q:=.i64) (i:=q) (by omega)
   rwa [Nat.mul_one,Nat.zero_add]at this
  have l1:=does_load1 (tk:=[]) (ls:=[]) hk hy
  rw[Nat.add_sub_cancel]at hprev
  have l2:=does_load1 (tk:=[]) (ls:=[]) hk hprev
  have d1:=dec_i (i:=q) (by omega)
  by_cases e:y=prev
  ·have n1:binA .eql (.str y) (.str prev)=some (.bool true):=strEqT e
   have hg:uqG prev (y::post)=uqG prev post:=by simp[uqG,e]
   have s1:sliceA 1 (.msl kk 0 n 1) (some (.int .i64 ((q+1:Nat):Int))) none none=some (.msl kk (q+1) (n-(q+1)) 1):=by
    simp only[sliceA,sliceM,boundA]
    rw[if_neg (by omega)]
    rw[if_pos ⟨by omega,by omega⟩]
    simp only[Int.toNat_natCast]
    rw[if_pos (by omega)]
    simp
   have h2:=compact_loop2 kk n B0 hn hk0 (q+1) (by omega) post 1 (q+1+1) prev (C.take (q+1)) C rfl (by omega) hC (by simp[List.take_take]) (by rw[Nat.add_sub_cancel,hd1,e]) (by simp;omega)
   have el:((C.take (q+1)).length:Int)=((q+1:Nat):Int):=by
    rw[List.length_take,Nat.min_eq_left (by omega)]
   rw[el,←hg,←hu]at h2
   exact let ζ1:Heap:={boxes:=B0.set kk (List.map .str C),toks:=[],loops:=[]:Heap};gG 90 _ hT (.len (rfl:lenA false (.msl kk 0 n 1)=some (.int .i64 ↑n))<|.yes (dT ((↑(q+1):Int)<(↑n:Int)))<|.idx i1<|.effY l1<|.bin d1<|.idx i2<|.effY l2<|.yes (show(y==prev)=true from(by simpa using e))<|.slice s1<|.cutQ k228_1 [(0,.msl kk 0 n 1),(3,.int .i64 (↑(q+1):Int)),(4,.msl kk (q+1) (n-(q+1)) 1),(5,.int .i64 1)] (ζ1) (fun T hT=>(h2 T hT)))
  ·have n1:binA .eql (.str y) (.str prev)=some (.bool false):=strEqF e
   have hg:uqG prev (y::post)=y::uqG y post:=by simp[uqG,e]
   have ih':=ih (q+1+1) y C (by omega) hC (by rw[Nat.add_sub_cancel,hd1]) (by
    rw[hu,hg,List.take_add_one (i:=q+1),hy];simp)
   exact let ζ1:Heap:={boxes:=B0.set kk (List.map .str C),toks:=[],loops:=[]:Heap};gG 90 _ hT (.len (rfl:lenA false (.msl kk 0 n 1)=some (.int .i64 ↑n))<|.yes (dT ((↑(q+1):Int)<(↑n:Int)))<|.idx i1<|.effY l1<|.bin d1<|.idx i2<|.effY l2<|.no (show(y==prev)=false from Bool.eq_false_iff.2 (by simpa using e))<|.bin (show binA .add (.int .i64 (↑(q+1):Int)) (.int .i64 1)=some (.int .i64 (↑(q+1+1):Int))from inc_i (by omega))<|.cutQ k228_0 [(0,.msl kk 0 n 1),(3,.int .i64 (↑(q+1+1):Int))] (ζ1) (fun T hT=>(ih' T hT)))
theorem compact_any(hn:n<9223372036854775807)(hk0:kk<B0.length)(C:List (List UInt8))(hC:C.length=n)(h0:0<n):
 ∃(m:Nat)(C':List (List UInt8)),Does cfg (.callM (.c (.func 228 [])) [.c (.msl kk 0 n 1)]) ⟨B0.set kk (C.map .str),[],[]⟩ (.msl kk 0 m 1) ⟨B0.set kk (C'.map .str),[],[]⟩∧C'.take m=uq C∧m≤C'.length∧C'.length=n:=by
 have key:Goes cfg a228 [.c c228] (initEnv [.msl kk 0 n 1]) ⟨B0.set kk (C.map .str),[],[]⟩ (RetC kk n B0 (uq C)):=by
  by_cases h2:n<2
  ·obtain⟨x,rfl⟩:∃x,C=[x]:=by
    match C,hC with
    |[x],_=>exact⟨x,rfl⟩
    |[],h=>simp at h;omega
    |_::_::_,h=>simp at h;omega
   exact gG 60 [] trivial (.len (rfl:lenA false (.msl kk 0 n 1)=some (.int .i64 ↑n))<|.yes (dT ((↑n:Int)<(2:Int)))<|.fin ((.ret (.msl kk 0 n 1),{boxes:=B0.set kk (List.map .str [x]),toks:=[],loops:=[]:Heap})) (by exact⟨n,[x],rfl,by simp at hC;subst hC;rfl,by simpa using Nat.le_of_eq hC.symm,hC⟩))
  ·obtain⟨x,l,rfl⟩:∃x l,C=x::l:=by
    cases C with
    |nil=>simp at hC;omega
    |cons x l=>exact⟨x,l,rfl⟩
   have h1:=compact_loop1 kk n B0 hn hk0 l 1 x (x::l) (by omega) hC rfl rfl
   exact gG 60 [] trivial (.len (rfl:lenA false (.msl kk 0 n 1)=some (.int .i64 ↑n))<|.no (dF ((↑n:Int)<(2:Int)))<|.cutQ k228_0 [(0,.msl kk 0 n 1),(3,.int .i64 1)] ({boxes:=B0.set kk (List.map .str (x::l)),toks:=[],loops:=[]:Heap}) (fun T hT=>(h1 T hT)))
 obtain⟨r,h,m,C',rfl,h1,h2,h3⟩:=key
 refine⟨m,C',?_,h1,h2,h3⟩
 have h':lim cfg (.fn 228) [.msl kk 0 n 1] ⟨B0.set kk (C.map .str),[],[]⟩=some (.ret (.msl kk 0 m 1),⟨B0.set kk (C'.map .str),[],[]⟩):=by rw[l228];exact h
 have hd:=does_callM (xs:=[.msl kk 0 n 1]) h' rfl rfl
 rwa [show shutA (.msl kk 0 m 1)=.msl kk 0 m 1 from rfl,trunc_len (by simp)]at hd
end
end Go.Aa.T
set_option linter.unusedVariables false
set_option linter.unusedSimpArgs false
set_option maxRecDepth 100000
namespace Go.Aa.T
open Go.Aa Go.Proofs
def encV(v:List Amount):AV:=.sl .sh (v.map encA)
def allNames(vs:List (List Amount)):List (List UInt8):=vs.flatMap fun v=>v.map Amount.name
theorem allNames_cons(v:List Amount)(vs:List (List Amount)):allNames (v::vs)=v.map Amount.name++allNames vs:=rfl
def rM(kk:Nat):List (List UInt8)→AV
 |[]=>.sl .full []
 |_::l=>.msl kk 0 (l.length+1) 1
theorem strsA_map:∀l:List (List UInt8),strsA (l.map .str)=some l
 |[]=>rfl
 |s::l=>by simp[strsA,strsA_map l]
theorem sort_does{kk:Nat}{B:List (List AV)}{l:List (List UInt8)}(hk:B[kk]?=some (l.map .str))(h0:0<l.length)(hb:l.length≤140737488355328):
 Does cfg (.callM (.c (.func 227 [])) [.c (.msl kk 0 l.length 1)]) ⟨B,[],[]⟩ (.tuple []) ⟨B.set kk ((isort l).map .str),[],[]⟩:=by
 have h:lim cfg (.fn 227) [.msl kk 0 l.length 1] ⟨B,[],[]⟩=some (.ret (.tuple []),⟨B.set kk ((isort l).map .str),[],[]⟩):=by
  rw[lim_ext (g:=sortE) rfl rfl]
  have e:sortE [.msl kk 0 l.length 1] ⟨B,[],[]⟩=some (.tuple [],⟨B.set kk ((isort l).map .str),[],[]⟩):=by
   simp only[sortE,hk]
   rw[if_pos ⟨trivial,trivial,h0,by simp,hb⟩,List.take_of_length_le (by simp),strsA_map,List.drop_eq_nil_of_le (by simp)]
   simp
  rw[e];rfl
 have hd:=does_callM (xs:=[.msl kk 0 l.length 1]) h rfl rfl
 rwa [show shutA (.tuple [])=.tuple []from rfl,trunc_len (by simp)]at hd
theorem does_data{g:FuncId}{xs:List AV}{v:AV}(h:Gives cfg g xs v)(zs:List AV)(hx:zs.map shutA=xs)(hd:xs.all isData=true)(h1:shutA v=v)(h2:isData v=true)(H:Heap):
 Does cfg (.call (.c (.func g [])) (zs.map .c)) H v H∧Does cfg (.callM (.c (.func g [])) (zs.map .c)) H v H:=by
 obtain⟨H',h⟩:=h.ret
 constructor<;>intro T
 ·have e:(zs.map Opd.c).map (fun x=>shutA (ev T x))=xs:=by rw[List.map_map];exact hx
  simp only[opStep,e]
  rw[show ev T (.c (.func g []))=.func g []from rfl]
  simp only[callV,hd,List.all_nil,Bool.and_self,if_true,List.append_nil,h,dataOut,h1,h2]
 ·have e:(zs.map Opd.c).map (fun x=>shutA (ev T x))=xs:=by rw[List.map_map];exact hx
  simp only[opStep,e]
  rw[show ev T (.c (.func g []))=.func g []from rfl]
  simp only[callW,hd,List.all_nil,Bool.and_self,if_true,List.append_nil,h,h1,h2]
theorem sort_none:Gives cfg 227 [.sl .sh []] (.tuple []):=by
 have h:lim cfg (.fn 227) [.sl .sh []] Heap.nil=some (.ret (.tuple []),Heap.nil):=by rw[lim_ext (g:=sortE) rfl rfl];rfl
 exact Gives.of h
theorem compact_none:Gives cfg 228 [.sl .sh []] (.sl .sh []):=by
 refine Gives.run (l228 _ _) ?_
 exact gG 60 [] trivial (.len (show lenA false (.sl .sh [])=some (.int .i64 (↑[].length:Int))from len_sl _ _)<|.tt<|.fin ((.ret (.sl .sh []),{boxes:=[],toks:=[],loops:=[]:Heap})) rfl)
def FinN(acc:List (List UInt8)):ARes×Heap→Prop:=IsOut (.sl .sh ((namesOf acc).map .str))
theorem names_end(vs:List (List Amount))(acc:List (List UInt8))(B:List (List AV))(kk:Nat)(hB:acc=[]∨B[kk]?=some (acc.map .str))(hl:acc.length≤100000)(T:Env)(i:Nat)(hi:vs.length≤i)
 (hT:Has T [(3,rM kk acc),(8,.sl .sh (vs.map encV)),(9,.int .i64 vs.length),(10,.int .i64 i)]):Goes cfg a273 k273_0 T ⟨B,[],[]⟩ (FinN acc):=by
 cases acc with
 |nil=>
  have h1:=(does_data sort_none [.sl .full []] rfl rfl rfl rfl ⟨B,[],[]⟩).2
  have h2:=(does_data compact_none [.sl .full []] rfl rfl rfl rfl ⟨B,[],[]⟩).2
  exact let ζ1:Heap:={boxes:=B,toks:=[],loops:=[]:Heap};gG 60 _ hT (.no (dF ((↑i:Int)<(↑vs.length:Int)))<|.effY h1<|.effY h2<|.fin ((.ret (.sl .sh []),ζ1)) (by exact⟨_,rfl,rfl⟩))
 |cons x l=>
  have hk:B[kk]?=some ((x::l).map .str):=by simpa using hB
  have h1:=sort_does hk (by simp) (by omega)
  have hkl:kk<B.length:=(List.getElem?_eq_some_iff.1 hk).1
  obtain⟨m,C,h2,h3,h4,h5⟩:=compact_any kk (x::l).length B (by omega) hkl (isort (x::l)) (isort_length _) (by simp)
  rw[List.length_cons]at h1 h2 h5
  have hout:dataOut ⟨B.set kk (C.map .str),[],[]⟩ (.msl kk 0 m 1)=some (.sl .sh ((namesOf (x::l)).map .str)):=by
   have:=out_box1 (bs:=B.set kk (C.map .str)) (tk:=[]) (ls:=[]) (kk:=kk) (n:=m) (List.getElem?_set_self hkl) (by simpa using h4) (strs_data C)
   rw[this,←List.map_take,h3];rfl
  exact let ζ1:Heap:={boxes:=B.set kk (List.map .str (isort (x::l))),toks:=[],loops:=[]:Heap};let ζ2:Heap:={boxes:=B.set kk (List.map .str C),toks:=[],loops:=[]:Heap};gG 60 _ hT (.no (dF ((↑i:Int)<(↑vs.length:Int)))<|.effY h1<|.effY h2<|.fin ((.ret (.msl kk 0 m 1),ζ2)) (by exact⟨_,rfl,hout⟩))
theorem names_outer(vs:List (List Amount))(hv:vs.length≤100)(hs:∀v∈vs,v.length≤100):∀(post:List (List Amount))(i:Nat)(hd:vs.drop i=post)(hi:i≤vs.length)(acc:List (List UInt8))(B:List (List AV))(kk:Nat)(hB:acc=[]∨B[kk]?=some (acc.map .str))(hl:acc.length≤100*i)(T:Env)
 (hT:Has T [(3,rM kk acc),(8,.sl .sh (vs.map encV)),(9,.int .i64 vs.length),(10,.int .i64 i)]),Goes cfg a273 k273_0 T ⟨B,[],[]⟩ (FinN (acc++allNames post)):=by
 intro post
 induction post with
 |nil=>
  intro i hd hi acc B kk hB hl T hT
  have hge:=drop_ge hd
  rw[show acc++allNames []=acc by simp[allNames]]
  exact names_end vs acc B kk hB (by omega) T i hge hT
 |cons v post ih=>
  intro i hd hi acc B kk hB hl T hT
  have hlt:=drop_lt hd
  have hnx:=drop_next hd
  have hvl:=hs v (drop_mem hd)
  have hix:idxA 1 (.sl .sh (vs.map encV)) (.int .i64 (i:Nat))=some (.ref [encV v]):=idx_row (f:=encV) hd rfl
  have inner:∀(ip:List Amount)(j:Nat)(hj:v.drop j=ip)(hj0:j≤v.length)(acc:List (List UInt8))(B:List (List AV))(kk:Nat)(hB:acc=[]∨B[kk]?=some (acc.map .str))(hl:acc.length≤100*i+j)(T:Env)
   (hT:Has T [(3,rM kk acc),(8,.sl .sh (vs.map encV)),(9,.int .i64 vs.length),(10,.int .i64 i),(14,encV v),(15,.int .i64 v.length),(16,.int .i64 j)]),Goes cfg a273 k273_1 T ⟨B,[],[]⟩ (FinN (acc++(ip.map Amount.name++allNames post))):=by
   intro ip
   induction ip with
   |nil=>
    intro j hj hj0 acc B kk hB hl T hT
    have hge:=drop_ge hj
    have ih':=ih (i+1) hnx hlt acc B kk hB (by omega)
    rw[List.map_nil,List.nil_append]
    exact gG 60 _ hT (.no (dF ((↑j:Int)<(↑v.length:Int)))<|.bin (iI i)<|.cutQ k273_0 [(3,rM kk acc),(8,.sl .sh (vs.map encV)),(9,.int .i64 (↑vs.length)),(10,.int .i64 (↑(i+1)))] ({boxes:=B,toks:=[],loops:=[]:Heap}) (fun T hT=>(ih' T hT)))
   |cons x ip ihj=>
    intro j hj hj0 acc B kk hB hl T hT
    have hltj:=drop_lt hj
    have hnxj:=drop_next hj
    have hxi:idxA 2 (encV v) (.int .i64 (j:Nat))=some (.ref [.str x.name,.int .i64 x.n]):=idx_row (f:=encA) hj rfl
    have e:acc++((x::ip).map Amount.name++allNames post)=(acc++[x.name])++(ip.map Amount.name++allNames post):=by simp
    rw[e]
    cases acc with
    |nil=>
     have ap:=does_newB (es:=1) (b:=16) (B:=B++[(encA x).cells]) (tk:=[]) (ls:=[]) (v:=.str x.name) (sk:=.full) rfl rfl (by omega)
     have ih':=ihj (j+1) hnxj hltj [x.name] (B++[(encA x).cells]++[[AV.str x.name]]) (B++[(encA x).cells]).length (.inr (by simp)) (by simp;omega)
     exact let ζ1:Heap:={boxes:=B++[[AV.str x.name,.int .i64 x.n]],toks:=[],loops:=[]:Heap};gG 90 _ hT (.yes (dT ((↑j:Int)<(↑v.length:Int)))<|.idx hxi<|.load (rfl:loadA true 2 {boxes:=B,toks:=[],loops:=[]:Heap} (.ref [.str x.name,.int .i64 x.n])=some (.agg [.str x.name,.int .i64 x.n]))<|.store (show storeA 2 {boxes:=B++[[AV.str [],.int .i64 0]],toks:=[],loops:=[]:Heap} (.ptr B.length 0) (.agg [.str x.name,.int .i64 x.n])=some (ζ1)from store_box2 (cs:=[.str [],.int .i64 0]) (cs':=[.str x.name,.int .i64 x.n]) (by simp+zetaDelta) rfl (by simp+zetaDelta [List.set_append]))<|.load (lB false 1 ζ1 B.length 0 (.str x.name) [.str x.name,.int .i64 x.n])<|.effY ap<|.bin (iI j)<|.cutQ k273_1 [(3,.msl (B++[[AV.str x.name,.int .i64 x.n]]).length 0 1 1),(8,.sl .sh (vs.map encV)),(9,.int .i64 (↑vs.length)),(10,.int .i64 ↑i),(14,.sl .sh (v.map encA)),(15,.int .i64 (↑v.length)),(16,.int .i64 (↑(j+1):Int))] ({boxes:=B++[[AV.str x.name,.int .i64 x.n]]++[[AV.str x.name]],toks:=[],loops:=[]:Heap}) (fun T hT=>(ih' T hT)))
    |cons y l=>
     have hk:B[kk]?=some ((y::l).map .str):=by simpa using hB
     have hk2:(B++[(encA x).cells])[kk]?=some ((y::l).map .str):=by rw[List.getElem?_append_left (List.getElem?_eq_some_iff.1 hk).1,hk]
     have ap:=does_growB (es:=1) (b:=16) (n:=l.length+1) (tk:=[]) (ls:=[]) (v:=.str x.name) (sk:=.full) hk2 (by simp) (by omega) (strs_data _) rfl rfl (by simp at hl;omega)
     obtain⟨D,hD⟩:∃D,D=(y::l).map AV.str++(AV.str x.name).cells:=⟨_,rfl⟩
     rw[←hD]at ap
     have ih':=ihj (j+1) hnxj hltj ((y::l)++[x.name]) ((B++[(encA x).cells]).set kk []++[D]) (B++[(encA x).cells]).length (.inr (by
      rw[List.getElem?_append_right (by simp),hD];simp[AV.cells])) (by simp at hl⊢;omega)
     have er:rM (B++[(encA x).cells]).length ((y::l)++[x.name])=.msl (B++[(encA x).cells]).length 0 (l.length+1+1) 1:=by simp[rM]
     rw[er]at ih'
     exact let ζ1:Heap:={boxes:=(B++[(encA x).cells]).set kk []++[D],toks:=[],loops:=[]:Heap};let ζ2:Heap:={boxes:=B++[[AV.str x.name,.int .i64 x.n]],toks:=[],loops:=[]:Heap};gG 90 _ hT (.yes (dT ((↑j:Int)<(↑v.length:Int)))<|.idx hxi<|.load (rfl:loadA true 2 {boxes:=B,toks:=[],loops:=[]:Heap} (.ref [.str x.name,.int .i64 x.n])=some (.agg [.str x.name,.int .i64 x.n]))<|.store (show storeA 2 {boxes:=B++[[AV.str [],.int .i64 0]],toks:=[],loops:=[]:Heap} (.ptr B.length 0) (.agg [.str x.name,.int .i64 x.n])=some (ζ2)from store_box2 (cs:=[.str [],.int .i64 0]) (cs':=[.str x.name,.int .i64 x.n]) (by simp+zetaDelta) rfl (by simp+zetaDelta [List.set_append]))<|.load (lB false 1 ζ2 B.length 0 (.str x.name) [.str x.name,.int .i64 x.n])<|.effY ap<|.bin (iI j)<|.cutQ k273_1 [(3,.msl (B++[[AV.str x.name,.int .i64 x.n]]).length 0 (l.length+1+1) 1),(8,.sl .sh (vs.map encV)),(9,.int .i64 (↑vs.length)),(10,.int .i64 ↑i),(14,.sl .sh (v.map encA)),(15,.int .i64 (↑v.length)),(16,.int .i64 (↑(j+1):Int))] (ζ1) (fun T hT=>(ih' T hT)))
  have h2:=inner v 0 rfl (Nat.zero_le _) acc B kk hB (by omega)
  rw[allNames_cons]
  exact let ζ1:Heap:={boxes:=B,toks:=[],loops:=[]:Heap};gG 60 _ hT (.yes (dT ((↑i:Int)<(↑vs.length:Int)))<|.idx hix<|.load (rfl:loadA false 1 ζ1 (.ref [.sl .sh (v.map encA)])=some (.sl .sh (v.map encA)))<|.len (lM .sh encA v)<|.cutQ k273_1 [(3,rM kk acc),(8,.sl .sh (vs.map encV)),(9,.int .i64 (↑vs.length)),(10,.int .i64 ↑i),(14,.sl .sh (v.map encA)),(15,.int .i64 (↑v.length)),(16,.int .i64 0)] (ζ1) (fun T hT=>(h2 T hT)))
theorem names_any(vs:List (List Amount))(hv:vs.length≤100)(hs:∀v∈vs,v.length≤100):GivesF cfg 273 [.sl .sh (vs.map encV)] (.sl .sh ((namesOf (allNames vs)).map .str)):=by
 refine GivesF.run (l273 _ _) ?_
 have h:=names_outer vs hv hs vs 0 rfl (Nat.zero_le _) [] [] 0 (.inl rfl) (by simp)
 exact gG 60 [] trivial (.len (lM .sh encV vs)<|.cutQ k273_0 [(3,.sl .full []),(8,.sl .sh (vs.map encV)),(9,.int .i64 (↑vs.length)),(10,.int .i64 0)] ({boxes:=[],toks:=[],loops:=[]:Heap}) (fun T hT=>(h T hT)))
end Go.Aa.T
set_option linter.unusedVariables false
set_option linter.unusedSimpArgs false
set_option maxRecDepth 100000
namespace Go.Aa.T
open Go.Aa Go.Proofs
theorem bl_eq(x y:List UInt8):Op.bytesLess x y=decide (x<y):=bytesLess_eq x y
theorem bl_irrefl(x:List UInt8):Op.bytesLess x x=false:=by rw[bl_eq];simp[List.lt_irrefl]
theorem bl_trans{x y z:List UInt8}(h1:Op.bytesLess x y=true)(h2:Op.bytesLess y z=true):Op.bytesLess x z=true:=by
 rw[bl_eq,decide_eq_true_eq]at h1 h2⊢
 exact List.lt_trans h1 h2
theorem bl_not{x y:List UInt8}(h:(Op.bytesLess x y||x==y)=false):Op.bytesLess y x=true:=by
 simp only[Bool.or_eq_false_iff,beq_eq_false_iff_ne,bl_eq,decide_eq_false_iff_not]at h
 rw[bl_eq,decide_eq_true_eq]
 obtain⟨h1,h2⟩:=h
 by_cases h3:y<x
 ·exact h3
 ·exact absurd (List.le_antisymm (List.not_lt.1 h3) (List.not_lt.1 h1)) h2
theorem bl_asym{x y:List UInt8}(h:Op.bytesLess x y=true):(Op.bytesLess y x||y==x)=false:=by
 rw[Bool.or_eq_false_iff]
 constructor
 ·cases h':Op.bytesLess y x with
  |false=>rfl
  |true=>have:=bl_trans h h';rw[bl_irrefl]at this;cases this
 ·rw[beq_eq_false_iff_ne]
  rintro rfl
  rw[bl_irrefl]at h;cases h
abbrev Rise(l:List (List UInt8)):Prop:=l.Pairwise fun x y=>Op.bytesLess x y=true
theorem rise_ext:∀{l m:List (List UInt8)},Rise l→Rise m→(∀x,x∈l↔x∈m)→l=m
 |[],[],_,_,_=>rfl
 |[],y::m,_,_,h=>absurd ((h y).2 (by simp)) (by simp)
 |x::l,[],_,_,h=>absurd ((h x).1 (by simp)) (by simp)
 |x::l,y::m,h1,h2,h=>by
  have a1:∀z,z∈l→Op.bytesLess x z=true:=fun z hz=>List.rel_of_pairwise_cons h1 hz
  have a2:∀z,z∈m→Op.bytesLess y z=true:=fun z hz=>List.rel_of_pairwise_cons h2 hz
  have e:x=y:=by
   rcases List.mem_cons.1 ((h x).1 (by simp))with e|hx
   ·exact e
   ·rcases List.mem_cons.1 ((h y).2 (by simp))with e|hy
    ·exact e.symm
    ·have:=bl_trans (a1 _ hy) (a2 _ hx)
     rw[bl_irrefl]at this;cases this
  subst e
  congr 1
  refine rise_ext (List.Pairwise.of_cons h1) (List.Pairwise.of_cons h2) fun z=> ?_
  have hz:=h z
  simp only[List.mem_cons]at hz
  constructor
  ·intro h3
   rcases hz.1 (.inr h3)with e|h4
   ·subst e;have:=a1 _ h3;rw[bl_irrefl]at this;cases this
   ·exact h4
  ·intro h3
   rcases hz.2 (.inr h3)with e|h4
   ·subst e;have:=a2 _ h3;rw[bl_irrefl]at this;cases this
   ·exact h4
theorem uqG_mem(x z:List UInt8):∀{l:List (List UInt8)},z∈uqG x l→z∈l
 |[],h=>by simp[uqG]at h
 |y::l,h=>by
  unfold uqG at h
  split at h
  ·exact List.mem_cons_of_mem _ (uqG_mem x z h)
  ·rcases List.mem_cons.1 h with rfl|h
   ·simp
   ·exact List.mem_cons_of_mem _ (uqG_mem y z h)
theorem uqG_mem2(z:List UInt8):∀{l:List (List UInt8)}{x:List UInt8},z∈l→z=x∨z∈uqG x l
 |[],x,h=>by simp at h
 |y::l,x,h=>by
  unfold uqG
  by_cases e:y=x
  ·rw[if_pos e]
   rcases List.mem_cons.1 h with rfl|h
   ·exact .inl e
   ·exact uqG_mem2 z h
  ·rw[if_neg e]
   rcases List.mem_cons.1 h with rfl|h
   ·exact .inr (by simp)
   ·rcases uqG_mem2 (x:=y) z h with h2|h2
    ·exact .inr (by simp[h2])
    ·exact .inr (by simp[h2])
theorem uq_mem{z:List UInt8}{l:List (List UInt8)}:z∈uq l↔z∈l:=by
 cases l with
 |nil=>simp[uq]
 |cons x l=>
  simp only[uq,List.mem_cons]
  constructor
  ·rintro(h|h)
   ·exact .inl h
   ·exact .inr (uqG_mem x z h)
  ·rintro(h|h)
   ·exact .inl h
   ·exact uqG_mem2 z h
theorem le_ne_bl{x y:List UInt8}(h:x≤y)(hn:y≠x):Op.bytesLess x y=true:=by
 rw[bl_eq,decide_eq_true_eq]
 by_cases h3:x<y
 ·exact h3
 ·exact absurd (List.le_antisymm (List.not_lt.1 h3) h) hn
theorem uqG_rise:∀{l:List (List UInt8)}{x:List UInt8},(x::l).Pairwise (·≤·)→Rise (x::uqG x l)
 |[],x,_=>by simp[uqG,Rise]
 |y::l,x,h=>by
  have h1:∀{z},z∈y::l→x≤z:=fun hz=>List.rel_of_pairwise_cons h hz
  have h2:=List.Pairwise.of_cons h
  unfold uqG
  by_cases e:y=x
  ·rw[if_pos e]
   refine uqG_rise ?_
   refine List.Pairwise.cons (fun z hz=>h1 (List.mem_cons_of_mem _ hz)) (List.Pairwise.of_cons h2)
  ·rw[if_neg e]
   have h3:=uqG_rise h2
   refine List.Pairwise.cons (fun z hz=> ?_) h3
   have hxy:=le_ne_bl (h1 (by simp)) e
   rcases List.mem_cons.1 hz with rfl|hz
   ·exact hxy
   ·exact bl_trans hxy (List.rel_of_pairwise_cons h3 hz)
theorem namesOf_rise(l:List (List UInt8)):Rise (namesOf l):=by
 unfold namesOf
 have h:=isort_sorted l
 cases hl:isort l with
 |nil=>simp[uq,Rise]
 |cons x m=>rw[hl]at h;exact uqG_rise h
theorem namesOf_mem{l:List (List UInt8)}{z:List UInt8}:z∈namesOf l↔z∈l:=by
 unfold namesOf
 rw[uq_mem,(isort_perm l).mem_iff]
theorem namesOf_eq{l m:List (List UInt8)}(hm:Rise m)(h:∀x,x∈l↔x∈m):namesOf l=m:=
 rise_ext (namesOf_rise l) hm fun x=>by rw[namesOf_mem,h]
def mergeN:List (List UInt8)→List (List UInt8)→List (List UInt8)
 |[],b=>b
 |x::a,[]=>x::a
 |x::a,y::b=>if Op.bytesLess x y=true then x::mergeN a (y::b)else if Op.bytesLess y x=true then y::mergeN (x::a) b else x::mergeN a b
 termination_by a b=>a.length+b.length
theorem merge_nil(b:List (List UInt8)):mergeN [] b=b:=by rw[mergeN]
theorem merge_nil2(a:List (List UInt8)):mergeN a []=a:=by cases a<;>rw[mergeN]
theorem merge_mem:∀(n:Nat)(a b:List (List UInt8)),a.length+b.length≤n→∀x,x∈mergeN a b↔x∈a∨x∈b:=by
 intro n
 induction n with
 |zero=>
  intro a b h x
  obtain rfl:a=[]:=List.length_eq_zero_iff.1 (by omega)
  obtain rfl:b=[]:=List.length_eq_zero_iff.1 (by omega)
  simp[merge_nil]
 |succ n ih=>
  intro a b h x
  cases a with
  |nil=>simp[merge_nil]
  |cons p a=>
   cases b with
   |nil=>simp[merge_nil2]
   |cons q b=>
    simp only[List.length_cons]at h
    rw[mergeN]
    by_cases h1:Op.bytesLess p q=true
    ·rw[if_pos h1,List.mem_cons,ih a (q::b) (by simp;omega)]
     simp only[List.mem_cons];constructor<;>(intro h;grind)
    ·rw[if_neg h1]
     by_cases h2:Op.bytesLess q p=true
     ·rw[if_pos h2,List.mem_cons,ih (p::a) b (by simp;omega)]
      simp only[List.mem_cons];constructor<;>(intro h;grind)
     ·have e:p=q:=by
       cases hb:(Op.bytesLess p q||p==q)with
       |false=>exact absurd (bl_not hb) h2
       |true=>simpa[h1]using hb
      rw[if_neg h2,List.mem_cons,ih a b (by omega)]
      simp only[List.mem_cons,e];constructor<;>(intro h;grind)
theorem merge_rise:∀(n:Nat)(a b:List (List UInt8)),a.length+b.length≤n→Rise a→Rise b→Rise (mergeN a b):=by
 intro n
 induction n with
 |zero=>
  intro a b h ha hb
  obtain rfl:a=[]:=List.length_eq_zero_iff.1 (by omega)
  rw[merge_nil];exact hb
 |succ n ih=>
  intro a b h ha hb
  cases a with
  |nil=>rw[merge_nil];exact hb
  |cons p a=>
   cases b with
   |nil=>rw[merge_nil2];exact ha
   |cons q b=>
    simp only[List.length_cons]at h
    have a1:∀{z},z∈a→Op.bytesLess p z=true:=fun hz=>List.rel_of_pairwise_cons ha hz
    have b1:∀{z},z∈b→Op.bytesLess q z=true:=fun hz=>List.rel_of_pairwise_cons hb hz
    have a2:=List.Pairwise.of_cons ha
    have b2:=List.Pairwise.of_cons hb
    rw[mergeN]
    by_cases h1:Op.bytesLess p q=true
    ·rw[if_pos h1]
     refine List.Pairwise.cons (fun z hz=> ?_) (ih a (q::b) (by simp;omega) a2 hb)
     rcases(merge_mem _ a (q::b) (Nat.le_refl _) z).1 hz with hz|hz
     ·exact a1 hz
     ·rcases List.mem_cons.1 hz with rfl|hz
      ·exact h1
      ·exact bl_trans h1 (b1 hz)
    ·rw[if_neg h1]
     by_cases h2:Op.bytesLess q p=true
     ·rw[if_pos h2]
      refine List.Pairwise.cons (fun z hz=> ?_) (ih (p::a) b (by simp;omega) ha b2)
      rcases(merge_mem _ (p::a) b (Nat.le_refl _) z).1 hz with hz|hz
      ·rcases List.mem_cons.1 hz with rfl|hz
       ·exact h2
       ·exact bl_trans h2 (a1 hz)
      ·exact b1 hz
     ·have e:p=q:=by
       cases hb:(Op.bytesLess p q||p==q)with
       |false=>exact absurd (bl_not hb) h2
       |true=>simpa[h1]using hb
      subst e
      rw[if_neg h2]
      refine List.Pairwise.cons (fun z hz=> ?_) (ih a b (by omega) a2 b2)
      rcases(merge_mem _ a b (Nat.le_refl _) z).1 hz with hz|hz
      ·exact a1 hz
      ·exact b1 hz
theorem merge_names{a b:List (List UInt8)}(ha:Rise a)(hb:Rise b):namesOf (a++b)=mergeN a b:=
 namesOf_eq (merge_rise _ a b (Nat.le_refl _) ha hb) fun x=>by rw[merge_mem _ a b (Nat.le_refl _),List.mem_append]
abbrev nms(v:List Amount):List (List UInt8):=v.map Amount.name
def rowT(l:List (List UInt8)):AV:=rowS Heap.nil (l.map .str)
def rowU(l:List (List UInt8)):Heap:=rowH Heap.nil (l.map .str)
theorem names_ref_loop(a b:List Amount)(ha:a.length≤1000)(hb:b.length≤1000):∀(n:Nat)(pa pb:List Amount)(i k:Nat)(hn:pa.length+pb.length≤n)(hda:a.drop i=pa)(hdb:b.drop k=pb)(acc:List (List UInt8))(hl:acc.length+pa.length+pb.length≤2000)(T:Env)
 (hT:Has T [(0,.sl .sh (a.map encA)),(1,.sl .sh (b.map encA)),(5,rowT acc),(6,.int .i64 i),(7,.int .i64 k)]),
 Goes cfg a266 k266_0 T (rowU acc) (IsRet (rowT (acc++mergeN (nms pa) (nms pb)))):=by
 intro n
 induction n with
 |zero=>
  intro pa pb i k hn hda hdb acc hl T hT
  obtain rfl:pa=[]:=List.length_eq_zero_iff.1 (by omega)
  obtain rfl:pb=[]:=List.length_eq_zero_iff.1 (by omega)
  have h1:=drop_ge hda
  have h2:=drop_ge hdb
  rw[show nms []=[]from rfl,merge_nil,List.append_nil]
  exact gG 60 _ hT (.len (lM .sh encA a)<|.no (dF ((↑i:Int)<(↑a.length:Int)))<|.len (lM .sh encA b)<|.no (dF ((↑k:Int)<(↑b.length:Int)))<|.fin ((.ret (rowT acc),rowU acc)) rfl)
 |succ n ih=>
  intro pa pb i k hn hda hdb acc hl T hT
  have ap:∀s:List UInt8,appendA 1 16 (rowU acc) (rowT acc) (.sl .full [.str s])=some (rowT (acc++[s]),rowU (acc++[s])):=fun s=>row_append_map (f:=AV.str) (by simp;omega) (lenOk_map fun _=>rfl) rfl rfl
  cases pa with
  |nil=>
   have h1:=drop_ge hda
   cases pb with
   |nil=>
    have h2:=drop_ge hdb
    rw[show nms []=[]from rfl,merge_nil,List.append_nil]
    exact gG 60 _ hT (.len (lM .sh encA a)<|.no (dF ((↑i:Int)<(↑a.length:Int)))<|.len (lM .sh encA b)<|.no (dF ((↑k:Int)<(↑b.length:Int)))<|.fin ((.ret (rowT acc),rowU acc)) rfl)
   |cons y pb=>
    have h2:=drop_lt hdb
    have h3:=drop_next hdb
    have ih':=ih [] pb i (k+1) (by simp at hn⊢;omega) hda h3 (acc++[y.name]) (by simp at hl⊢;omega)
    rw[show nms []=[]from rfl,merge_nil]at ih'⊢
    have e:acc++nms (y::pb)=acc++[y.name]++nms pb:=by simp[nms]
    rw[e]
    have hy:idxA 2 (.sl .sh (b.map encA)) (.int .i64 (k:Nat))=some (.ref [.str y.name,.int .i64 y.n]):=idx_row (f:=encA) hdb rfl
    exact let ζ1:Heap:=(roomH (roomH (rowU acc) (resvCells [mV 31 7,mV 32 1,⟨some 33,.len false (.t 32),none,[1]⟩,⟨some 34,.bin BinOp.geq (.t 31) (.t 33),none,[1,2,0]⟩,⟨some 35,.mov (.t 34),none,[0,2,1,3]⟩,{dst:=some 36,op:=.mov (.t 6),guard:=some (35,false),deps:=[3,1,2,0,4]:AOper},{dst:=some 37,op:=.mov (.t 0),guard:=some (35,false),deps:=[3,1,2,0,4]:AOper},{dst:=some 38,op:=.len false (.t 37),guard:=some (35,false),deps:=[4,0,2,1,3,6]:AOper},{dst:=some 39,op:=.bin BinOp.lss (.t 36) (.t 38),guard:=some (35,false),deps:=[6,7,4,0,2,1,3,5]:AOper},{dst:=some 40,op:=.mov (.t 39),guard:=some (35,false),deps:=[5,3,1,2,0,4,7,6,8]:AOper},{dst:=some 41,op:=.mov (.t 0),guard:=some (40,true),deps:=[8,6,7,4,0,2,1,3,5,9]:AOper},{dst:=some 42,op:=.mov (.t 6),guard:=some (40,true),deps:=[8,6,7,4,0,2,1,3,5,9]:AOper},{dst:=some 43,op:=.idx 2 (.t 41) (.t 42),guard:=some (40,true),deps:=[11,9,5,3,1,2,0,4,7,6,8,10]:AOper},{dst:=some 44,op:=.fld 0 1 (.t 43),guard:=some (40,true),deps:=[10,8,6,7,4,0,2,1,3,5,9,11,12]:AOper},{dst:=some 45,op:=.load false 1 (.t 44),guard:=some (40,true),deps:=[12,11,9,5,3,1,2,0,4,7,6,8,10,13]:AOper},{dst:=some 46,op:=.mov (.t 1),guard:=some (40,true),deps:=[8,6,7,4,0,2,1,3,5,9]:AOper},{dst:=some 47,op:=.mov (.t 7),guard:=some (40,true),deps:=[8,6,7,4,0,2,1,3,5,9]:AOper},{dst:=some 48,op:=.idx 2 (.t 46) (.t 47),guard:=some (40,true),deps:=[16,9,5,3,1,2,0,4,7,6,8,15]:AOper},{dst:=some 49,op:=.fld 0 1 (.t 48),guard:=some (40,true),deps:=[15,8,6,7,4,0,2,1,3,5,9,16,17]:AOper},{dst:=some 50,op:=.load false 1 (.t 49),guard:=some (40,true),deps:=[17,16,9,5,3,1,2,0,4,7,6,8,15,18]:AOper},{dst:=some 51,op:=.bin BinOp.lss (.t 45) (.t 50),guard:=some (40,true),deps:=[18,15,16,17,19,13,10,8,6,7,4,0,2,1,3,5,9,11,12,14]:AOper},{dst:=some 52,op:=.pick (.t 40) (.t 51) (.c (.bool false)),guard:=some (35,false),deps:=[14,12,11,10,13,19,17,16,15,18,20,8,6,7,4,0,2,1,3,5,9]:AOper},⟨some 53,.pick (.t 35) (.c (.bool true)) (.t 52),none,[9,5,7,6,8,20,18,15,16,17,19,13,10,11,12,14,21,3,1,2,0,4]⟩,⟨some 30,.mov (.t 53),none,[4,0,2,1,3,21,14,12,11,10,13,19,17,16,15,18,20,8,6,7,5,9,22]⟩])) (resvCells [mV 65 6,mV 66 0,⟨some 67,.len false (.t 66),none,[1]⟩,⟨some 68,.bin BinOp.geq (.t 65) (.t 67),none,[1,2,0]⟩,⟨some 69,.mov (.t 68),none,[0,2,1,3]⟩,{dst:=some 70,op:=.mov (.t 1),guard:=some (69,false),deps:=[3,1,2,0,4]:AOper},{dst:=some 71,op:=.mov (.t 7),guard:=some (69,false),deps:=[3,1,2,0,4]:AOper},{dst:=some 72,op:=.idx 2 (.t 70) (.t 71),guard:=some (69,false),deps:=[6,4,0,2,1,3,5]:AOper},{dst:=some 73,op:=.fld 0 1 (.t 72),guard:=some (69,false),deps:=[5,3,1,2,0,4,6,7]:AOper},{dst:=some 74,op:=.load false 1 (.t 73),guard:=some (69,false),deps:=[7,6,4,0,2,1,3,5,8]:AOper},{dst:=some 75,op:=.mov (.t 0),guard:=some (69,false),deps:=[3,1,2,0,4]:AOper},{dst:=some 76,op:=.mov (.t 6),guard:=some (69,false),deps:=[3,1,2,0,4]:AOper},{dst:=some 77,op:=.idx 2 (.t 75) (.t 76),guard:=some (69,false),deps:=[11,4,0,2,1,3,10]:AOper},{dst:=some 78,op:=.fld 0 1 (.t 77),guard:=some (69,false),deps:=[10,3,1,2,0,4,11,12]:AOper},{dst:=some 79,op:=.load false 1 (.t 78),guard:=some (69,false),deps:=[12,11,4,0,2,1,3,10,13]:AOper},{dst:=some 80,op:=.bin BinOp.lss (.t 74) (.t 79),guard:=some (69,false),deps:=[13,10,11,12,14,8,5,3,1,2,0,4,6,7,9]:AOper},⟨some 81,.pick (.t 69) (.c (.bool true)) (.t 80),none,[9,7,6,5,8,14,12,11,10,13,15,3,1,2,0,4]⟩,⟨some 64,.mov (.t 81),none,[4,0,2,1,3,15,13,10,11,12,14,8,5,6,7,9,16]⟩]));gG 90 _ hT (.len (lM .sh encA a)<|.no (dF ((↑i:Int)<(↑a.length:Int)))<|.len (lM .sh encA b)<|.yes (dT ((↑k:Int)<(↑b.length:Int)))<|.len (lM .sh encA b)<|.no (dF ((↑b.length:Int)≤(↑k:Int)))<|.len (lM .sh encA a)<|.no (dF ((↑i:Int)<(↑a.length:Int)))<|.ff<|.len (lM .sh encA a)<|.yes (dT ((↑a.length:Int)≤(↑i:Int)))<|.tt<|.idx hy<|.load (rfl:loadA false 1 ζ1 (.ref [.str y.name])=some (.str y.name))<|.append (show appendA 1 16 ζ1 (rowT acc) (.sl .full [.str y.name])=some ((rowT (acc++[y.name]),rowU (acc++[y.name])))from ap _)<|.bin (iI k)<|.cutQ k266_0 [(0,.sl .sh (a.map encA)),(1,.sl .sh (b.map encA)),(5,rowT (acc++[y.name])),(6,.int .i64 ↑i),(7,.int .i64 (↑(k+1):Int))] (rowU (acc++[y.name])) (fun T hT=>(ih' T hT)))
  |cons x pa=>
   have h1:=drop_lt hda
   have h1n:=drop_next hda
   have hx:idxA 2 (.sl .sh (a.map encA)) (.int .i64 (i:Nat))=some (.ref [.str x.name,.int .i64 x.n]):=idx_row (f:=encA) hda rfl
   cases pb with
   |nil=>
    have h2:=drop_ge hdb
    have ih':=ih pa [] (i+1) k (by simp at hn⊢;omega) h1n hdb (acc++[x.name]) (by simp at hl⊢;omega)
    rw[show nms []=[]from rfl,merge_nil2]at ih'⊢
    have e:acc++nms (x::pa)=acc++[x.name]++nms pa:=by simp[nms]
    rw[e]
    exact let ζ1:Heap:=(roomH (rowU acc) (resvCells [mV 31 7,mV 32 1,⟨some 33,.len false (.t 32),none,[1]⟩,⟨some 34,.bin BinOp.geq (.t 31) (.t 33),none,[1,2,0]⟩,⟨some 35,.mov (.t 34),none,[0,2,1,3]⟩,{dst:=some 36,op:=.mov (.t 6),guard:=some (35,false),deps:=[3,1,2,0,4]:AOper},{dst:=some 37,op:=.mov (.t 0),guard:=some (35,false),deps:=[3,1,2,0,4]:AOper},{dst:=some 38,op:=.len false (.t 37),guard:=some (35,false),deps:=[4,0,2,1,3,6]:AOper},{dst:=some 39,op:=.bin BinOp.lss (.t 36) (.t 38),guard:=some (35,false),deps:=[6,7,4,0,2,1,3,5]:AOper},{dst:=some 40,op:=.mov (.t 39),guard:=some (35,false),deps:=[5,3,1,2,0,4,7,6,8]:AOper},{dst:=some 41,op:=.mov (.t 0),guard:=some (40,true),deps:=[8,6,7,4,0,2,1,3,5,9]:AOper},{dst:=some 42,op:=.mov (.t 6),guard:=some (40,true),deps:=[8,6,7,4,0,2,1,3,5,9]:AOper},{dst:=some 43,op:=.idx 2 (.t 41) (.t 42),guard:=some (40,true),deps:=[11,9,5,3,1,2,0,4,7,6,8,10]:AOper},{dst:=some 44,op:=.fld 0 1 (.t 43),guard:=some (40,true),deps:=[10,8,6,7,4,0,2,1,3,5,9,11,12]:AOper},{dst:=some 45,op:=.load false 1 (.t 44),guard:=some (40,true),deps:=[12,11,9,5,3,1,2,0,4,7,6,8,10,13]:AOper},{dst:=some 46,op:=.mov (.t 1),guard:=some (40,true),deps:=[8,6,7,4,0,2,1,3,5,9]:AOper},{dst:=some 47,op:=.mov (.t 7),guard:=some (40,true),deps:=[8,6,7,4,0,2,1,3,5,9]:AOper},{dst:=some 48,op:=.idx 2 (.t 46) (.t 47),guard:=some (40,true),deps:=[16,9,5,3,1,2,0,4,7,6,8,15]:AOper},{dst:=some 49,op:=.fld 0 1 (.t 48),guard:=some (40,true),deps:=[15,8,6,7,4,0,2,1,3,5,9,16,17]:AOper},{dst:=some 50,op:=.load false 1 (.t 49),guard:=some (40,true),deps:=[17,16,9,5,3,1,2,0,4,7,6,8,15,18]:AOper},{dst:=some 51,op:=.bin BinOp.lss (.t 45) (.t 50),guard:=some (40,true),deps:=[18,15,16,17,19,13,10,8,6,7,4,0,2,1,3,5,9,11,12,14]:AOper},{dst:=some 52,op:=.pick (.t 40) (.t 51) (.c (.bool false)),guard:=some (35,false),deps:=[14,12,11,10,13,19,17,16,15,18,20,8,6,7,4,0,2,1,3,5,9]:AOper},⟨some 53,.pick (.t 35) (.c (.bool true)) (.t 52),none,[9,5,7,6,8,20,18,15,16,17,19,13,10,11,12,14,21,3,1,2,0,4]⟩,⟨some 30,.mov (.t 53),none,[4,0,2,1,3,21,14,12,11,10,13,19,17,16,15,18,20,8,6,7,5,9,22]⟩]));gG 90 _ hT (.len (lM .sh encA a)<|.yes (dT ((↑i:Int)<(↑a.length:Int)))<|.tt<|.len (lM .sh encA b)<|.yes (dT ((↑b.length:Int)≤(↑k:Int)))<|.tt<|.idx hx<|.load (rfl:loadA false 1 ζ1 (.ref [.str x.name])=some (.str x.name))<|.append (show appendA 1 16 ζ1 (rowT acc) (.sl .full [.str x.name])=some ((rowT (acc++[x.name]),rowU (acc++[x.name])))from ap _)<|.bin (iI i)<|.cutQ k266_0 [(0,.sl .sh (a.map encA)),(1,.sl .sh (b.map encA)),(5,rowT (acc++[x.name])),(6,.int .i64 (↑(i+1))),(7,.int .i64 ↑k)] (rowU (acc++[x.name])) (fun T hT=>(ih' T hT)))
   |cons y pb=>
    have h2:=drop_lt hdb
    have h2n:=drop_next hdb
    have hy:idxA 2 (.sl .sh (b.map encA)) (.int .i64 (k:Nat))=some (.ref [.str y.name,.int .i64 y.n]):=idx_row (f:=encA) hdb rfl
    have e0:nms (x::pa)=x.name::nms pa:=rfl
    have e1:nms (y::pb)=y.name::nms pb:=rfl
    rw[e0,e1,mergeN]
    by_cases q1:Op.bytesLess x.name y.name=true
    ·have ih':=ih pa (y::pb) (i+1) k (by simp at hn⊢;omega) h1n hdb (acc++[x.name]) (by simp at hl⊢;omega)
     rw[if_pos q1]
     rw[e1,List.append_assoc,List.singleton_append]at ih'
     exact let ζ1:Heap:=(roomH (rowU acc) (resvCells [mV 31 7,mV 32 1,⟨some 33,.len false (.t 32),none,[1]⟩,⟨some 34,.bin BinOp.geq (.t 31) (.t 33),none,[1,2,0]⟩,⟨some 35,.mov (.t 34),none,[0,2,1,3]⟩,{dst:=some 36,op:=.mov (.t 6),guard:=some (35,false),deps:=[3,1,2,0,4]:AOper},{dst:=some 37,op:=.mov (.t 0),guard:=some (35,false),deps:=[3,1,2,0,4]:AOper},{dst:=some 38,op:=.len false (.t 37),guard:=some (35,false),deps:=[4,0,2,1,3,6]:AOper},{dst:=some 39,op:=.bin BinOp.lss (.t 36) (.t 38),guard:=some (35,false),deps:=[6,7,4,0,2,1,3,5]:AOper},{dst:=some 40,op:=.mov (.t 39),guard:=some (35,false),deps:=[5,3,1,2,0,4,7,6,8]:AOper},{dst:=some 41,op:=.mov (.t 0),guard:=some (40,true),deps:=[8,6,7,4,0,2,1,3,5,9]:AOper},{dst:=some 42,op:=.mov (.t 6),guard:=some (40,true),deps:=[8,6,7,4,0,2,1,3,5,9]:AOper},{dst:=some 43,op:=.idx 2 (.t 41) (.t 42),guard:=some (40,true),deps:=[11,9,5,3,1,2,0,4,7,6,8,10]:AOper},{dst:=some 44,op:=.fld 0 1 (.t 43),guard:=some (40,true),deps:=[10,8,6,7,4,0,2,1,3,5,9,11,12]:AOper},{dst:=some 45,op:=.load false 1 (.t 44),guard:=some (40,true),deps:=[12,11,9,5,3,1,2,0,4,7,6,8,10,13]:AOper},{dst:=some 46,op:=.mov (.t 1),guard:=some (40,true),deps:=[8,6,7,4,0,2,1,3,5,9]:AOper},{dst:=some 47,op:=.mov (.t 7),guard:=some (40,true),deps:=[8,6,7,4,0,2,1,3,5,9]:AOper},{dst:=some 48,op:=.idx 2 (.t 46) (.t 47),guard:=some (40,true),deps:=[16,9,5,3,1,2,0,4,7,6,8,15]:AOper},{dst:=some 49,op:=.fld 0 1 (.t 48),guard:=some (40,true),deps:=[15,8,6,7,4,0,2,1,3,5,9,16,17]:AOper},{dst:=some 50,op:=.load false 1 (.t 49),guard:=some (40,true),deps:=[17,16,9,5,3,1,2,0,4,7,6,8,15,18]:AOper},{dst:=some 51,op:=.bin BinOp.lss (.t 45) (.t 50),guard:=some (40,true),deps:=[18,15,16,17,19,13,10,8,6,7,4,0,2,1,3,5,9,11,12,14]:AOper},{dst:=some 52,op:=.pick (.t 40) (.t 51) (.c (.bool false)),guard:=some (35,false),deps:=[14,12,11,10,13,19,17,16,15,18,20,8,6,7,4,0,2,1,3,5,9]:AOper},⟨some 53,.pick (.t 35) (.c (.bool true)) (.t 52),none,[9,5,7,6,8,20,18,15,16,17,19,13,10,11,12,14,21,3,1,2,0,4]⟩,⟨some 30,.mov (.t 53),none,[4,0,2,1,3,21,14,12,11,10,13,19,17,16,15,18,20,8,6,7,5,9,22]⟩]));gG 90 _ hT (.len (lM .sh encA a)<|.yes (dT ((↑i:Int)<(↑a.length:Int)))<|.tt<|.len (lM .sh encA b)<|.no (dF ((↑b.length:Int)≤(↑k:Int)))<|.len (lM .sh encA a)<|.yes (dT ((↑i:Int)<(↑a.length:Int)))<|.idx hx<|.load (rfl:loadA false 1 ζ1 (.ref [.str x.name])=some (.str x.name))<|.idx hy<|.load (rfl:loadA false 1 ζ1 (.ref [.str y.name])=some (.str y.name))<|.yes (show(Op.bytesLess x.name y.name)=true from(by omega))<|.idx hx<|.load (rfl:loadA false 1 ζ1 (.ref [.str x.name])=some (.str x.name))<|.append (show appendA 1 16 ζ1 (rowT acc) (.sl .full [.str x.name])=some ((rowT (acc++[x.name]),rowU (acc++[x.name])))from ap _)<|.bin (iI i)<|.cutQ k266_0 [(0,.sl .sh (a.map encA)),(1,.sl .sh (b.map encA)),(5,rowT (acc++[x.name])),(6,.int .i64 (↑(i+1))),(7,.int .i64 ↑k)] (rowU (acc++[x.name])) (fun T hT=>(ih' T hT)))
    ·rw[if_neg q1]
     by_cases q2:Op.bytesLess y.name x.name=true
     ·have ih':=ih (x::pa) pb i (k+1) (by simp at hn⊢;omega) hda h2n (acc++[y.name]) (by simp at hl⊢;omega)
      rw[if_pos q2]
      rw[e0,List.append_assoc,List.singleton_append]at ih'
      exact let ζ1:Heap:=(roomH (rowU acc) (resvCells [mV 31 7,mV 32 1,⟨some 33,.len false (.t 32),none,[1]⟩,⟨some 34,.bin BinOp.geq (.t 31) (.t 33),none,[1,2,0]⟩,⟨some 35,.mov (.t 34),none,[0,2,1,3]⟩,{dst:=some 36,op:=.mov (.t 6),guard:=some (35,false),deps:=[3,1,2,0,4]:AOper},{dst:=some 37,op:=.mov (.t 0),guard:=some (35,false),deps:=[3,1,2,0,4]:AOper},{dst:=some 38,op:=.len false (.t 37),guard:=some (35,false),deps:=[4,0,2,1,3,6]:AOper},{dst:=some 39,op:=.bin BinOp.lss (.t 36) (.t 38),guard:=some (35,false),deps:=[6,7,4,0,2,1,3,5]:AOper},{dst:=some 40,op:=.mov (.t 39),guard:=some (35,false),deps:=[5,3,1,2,0,4,7,6,8]:AOper},{dst:=some 41,op:=.mov (.t 0),guard:=some (40,true),deps:=[8,6,7,4,0,2,1,3,5,9]:AOper},{dst:=some 42,op:=.mov (.t 6),guard:=some (40,true),deps:=[8,6,7,4,0,2,1,3,5,9]:AOper},{dst:=some 43,op:=.idx 2 (.t 41) (.t 42),guard:=some (40,true),deps:=[11,9,5,3,1,2,0,4,7,6,8,10]:AOper},{dst:=some 44,op:=.fld 0 1 (.t 43),guard:=some (40,true),deps:=[10,8,6,7,4,0,2,1,3,5,9,11,12]:AOper},{dst:=some 45,op:=.load false 1 (.t 44),guard:=some (40,true),deps:=[12,11,9,5,3,1,2,0,4,7,6,8,10,13]:AOper},{dst:=some 46,op:=.mov (.t 1),guard:=some (40,true),deps:=[8,6,7,4,0,2,1,3,5,9]:AOper},{dst:=some 47,op:=.mov (.t 7),guard:=some (40,true),deps:=[8,6,7,4,0,2,1,3,5,9]:AOper},{dst:=some 48,op:=.idx 2 (.t 46) (.t 47),guard:=some (40,true),deps:=[16,9,5,3,1,2,0,4,7,6,8,15]:AOper},{dst:=some 49,op:=.fld 0 1 (.t 48),guard:=some (40,true),deps:=[15,8,6,7,4,0,2,1,3,5,9,16,17]:AOper},{dst:=some 50,op:=.load false 1 (.t 49),guard:=some (40,true),deps:=[17,16,9,5,3,1,2,0,4,7,6,8,15,18]:AOper},{dst:=some 51,op:=.bin BinOp.lss (.t 45) (.t 50),guard:=some (40,true),deps:=[18,15,16,17,19,13,10,8,6,7,4,0,2,1,3,5,9,11,12,14]:AOper},{dst:=some 52,op:=.pick (.t 40) (.t 51) (.c (.bool false)),guard:=some (35,false),deps:=[14,12,11,10,13,19,17,16,15,18,20,8,6,7,4,0,2,1,3,5,9]:AOper},⟨some 53,.pick (.t 35) (.c (.bool true)) (.t 52),none,[9,5,7,6,8,20,18,15,16,17,19,13,10,11,12,14,21,3,1,2,0,4]⟩,⟨some 30,.mov (.t 53),none,[4,0,2,1,3,21,14,12,11,10,13,19,17,16,15,18,20,8,6,7,5,9,22]⟩]));let ζ2:Heap:=(roomH ζ1 (resvCells [mV 65 6,mV 66 0,⟨some 67,.len false (.t 66),none,[1]⟩,⟨some 68,.bin BinOp.geq (.t 65) (.t 67),none,[1,2,0]⟩,⟨some 69,.mov (.t 68),none,[0,2,1,3]⟩,{dst:=some 70,op:=.mov (.t 1),guard:=some (69,false),deps:=[3,1,2,0,4]:AOper},{dst:=some 71,op:=.mov (.t 7),guard:=some (69,false),deps:=[3,1,2,0,4]:AOper},{dst:=some 72,op:=.idx 2 (.t 70) (.t 71),guard:=some (69,false),deps:=[6,4,0,2,1,3,5]:AOper},{dst:=some 73,op:=.fld 0 1 (.t 72),guard:=some (69,false),deps:=[5,3,1,2,0,4,6,7]:AOper},{dst:=some 74,op:=.load false 1 (.t 73),guard:=some (69,false),deps:=[7,6,4,0,2,1,3,5,8]:AOper},{dst:=some 75,op:=.mov (.t 0),guard:=some (69,false),deps:=[3,1,2,0,4]:AOper},{dst:=some 76,op:=.mov (.t 6),guard:=some (69,false),deps:=[3,1,2,0,4]:AOper},{dst:=some 77,op:=.idx 2 (.t 75) (.t 76),guard:=some (69,false),deps:=[11,4,0,2,1,3,10]:AOper},{dst:=some 78,op:=.fld 0 1 (.t 77),guard:=some (69,false),deps:=[10,3,1,2,0,4,11,12]:AOper},{dst:=some 79,op:=.load false 1 (.t 78),guard:=some (69,false),deps:=[12,11,4,0,2,1,3,10,13]:AOper},{dst:=some 80,op:=.bin BinOp.lss (.t 74) (.t 79),guard:=some (69,false),deps:=[13,10,11,12,14,8,5,3,1,2,0,4,6,7,9]:AOper},⟨some 81,.pick (.t 69) (.c (.bool true)) (.t 80),none,[9,7,6,5,8,14,12,11,10,13,15,3,1,2,0,4]⟩,⟨some 64,.mov (.t 81),none,[4,0,2,1,3,15,13,10,11,12,14,8,5,6,7,9,16]⟩]));gG 120 _ hT (.len (lM .sh encA a)<|.yes (dT ((↑i:Int)<(↑a.length:Int)))<|.tt<|.len (lM .sh encA b)<|.no (dF ((↑b.length:Int)≤(↑k:Int)))<|.len (lM .sh encA a)<|.yes (dT ((↑i:Int)<(↑a.length:Int)))<|.idx hx<|.load (rfl:loadA false 1 ζ1 (.ref [.str x.name])=some (.str x.name))<|.idx hy<|.load (rfl:loadA false 1 ζ1 (.ref [.str y.name])=some (.str y.name))<|.no (show(Op.bytesLess x.name y.name)=false from Bool.eq_false_iff.2 (by omega))<|.len (lM .sh encA a)<|.no (dF ((↑a.length:Int)≤(↑i:Int)))<|.idx hy<|.load (rfl:loadA false 1 ζ2 (.ref [.str y.name])=some (.str y.name))<|.idx hx<|.load (rfl:loadA false 1 ζ2 (.ref [.str x.name])=some (.str x.name))<|.yes (show(Op.bytesLess y.name x.name)=true from(by omega))<|.idx hy<|.load (rfl:loadA false 1 ζ2 (.ref [.str y.name])=some (.str y.name))<|.append (show appendA 1 16 ζ2 (rowT acc) (.sl .full [.str y.name])=some ((rowT (acc++[y.name]),rowU (acc++[y.name])))from ap _)<|.bin (iI k)<|.cutQ k266_0 [(0,.sl .sh (a.map encA)),(1,.sl .sh (b.map encA)),(5,rowT (acc++[y.name])),(6,.int .i64 ↑i),(7,.int .i64 (↑(k+1):Int))] (rowU (acc++[y.name])) (fun T hT=>(ih' T hT)))
     ·have ih':=ih pa pb (i+1) (k+1) (by simp at hn⊢;omega) h1n h2n (acc++[x.name]) (by simp at hl⊢;omega)
      rw[if_neg q2]
      rw[List.append_assoc,List.singleton_append]at ih'
      exact let ζ1:Heap:=(roomH (rowU acc) (resvCells [mV 31 7,mV 32 1,⟨some 33,.len false (.t 32),none,[1]⟩,⟨some 34,.bin BinOp.geq (.t 31) (.t 33),none,[1,2,0]⟩,⟨some 35,.mov (.t 34),none,[0,2,1,3]⟩,{dst:=some 36,op:=.mov (.t 6),guard:=some (35,false),deps:=[3,1,2,0,4]:AOper},{dst:=some 37,op:=.mov (.t 0),guard:=some (35,false),deps:=[3,1,2,0,4]:AOper},{dst:=some 38,op:=.len false (.t 37),guard:=some (35,false),deps:=[4,0,2,1,3,6]:AOper},{dst:=some 39,op:=.bin BinOp.lss (.t 36) (.t 38),guard:=some (35,false),deps:=[6,7,4,0,2,1,3,5]:AOper},{dst:=some 40,op:=.mov (.t 39),guard:=some (35,false),deps:=[5,3,1,2,0,4,7,6,8]:AOper},{dst:=some 41,op:=.mov (.t 0),guard:=some (40,true),deps:=[8,6,7,4,0,2,1,3,5,9]:AOper},{dst:=some 42,op:=.mov (.t 6),guard:=some (40,true),deps:=[8,6,7,4,0,2,1,3,5,9]:AOper},{dst:=some 43,op:=.idx 2 (.t 41) (.t 42),guard:=some (40,true),deps:=[11,9,5,3,1,2,0,4,7,6,8,10]:AOper},{dst:=some 44,op:=.fld 0 1 (.t 43),guard:=some (40,true),deps:=[10,8,6,7,4,0,2,1,3,5,9,11,12]:AOper},{dst:=some 45,op:=.load false 1 (.t 44),guard:=some (40,true),deps:=[12,11,9,5,3,1,2,0,4,7,6,8,10,13]:AOper},{dst:=some 46,op:=.mov (.t 1),guard:=some (40,true),deps:=[8,6,7,4,0,2,1,3,5,9]:AOper},{dst:=some 47,op:=.mov (.t 7),guard:=some (40,true),deps:=[8,6,7,4,0,2,1,3,5,9]:AOper},{dst:=some 48,op:=.idx 2 (.t 46) (.t 47),guard:=some (40,true),deps:=[16,9,5,3,1,2,0,4,7,6,8,15]:AOper},{dst:=some 49,op:=.fld 0 1 (.t 48),guard:=some (40,true),deps:=[15,8,6,7,4,0,2,1,3,5,9,16,17]:AOper},{dst:=some 50,op:=.load false 1 (.t 49),guard:=some (40,true),deps:=[17,16,9,5,3,1,2,0,4,7,6,8,15,18]:AOper},{dst:=some 51,op:=.bin BinOp.lss (.t 45) (.t 50),guard:=some (40,true),deps:=[18,15,16,17,19,13,10,8,6,7,4,0,2,1,3,5,9,11,12,14]:AOper},{dst:=some 52,op:=.pick (.t 40) (.t 51) (.c (.bool false)),guard:=some (35,false),deps:=[14,12,11,10,13,19,17,16,15,18,20,8,6,7,4,0,2,1,3,5,9]:AOper},⟨some 53,.pick (.t 35) (.c (.bool true)) (.t 52),none,[9,5,7,6,8,20,18,15,16,17,19,13,10,11,12,14,21,3,1,2,0,4]⟩,⟨some 30,.mov (.t 53),none,[4,0,2,1,3,21,14,12,11,10,13,19,17,16,15,18,20,8,6,7,5,9,22]⟩]));let ζ2:Heap:=(roomH ζ1 (resvCells [mV 65 6,mV 66 0,⟨some 67,.len false (.t 66),none,[1]⟩,⟨some 68,.bin BinOp.geq (.t 65) (.t 67),none,[1,2,0]⟩,⟨some 69,.mov (.t 68),none,[0,2,1,3]⟩,{dst:=some 70,op:=.mov (.t 1),guard:=some (69,false),deps:=[3,1,2,0,4]:AOper},{dst:=some 71,op:=.mov (.t 7),guard:=some (69,false),deps:=[3,1,2,0,4]:AOper},{dst:=some 72,op:=.idx 2 (.t 70) (.t 71),guard:=some (69,false),deps:=[6,4,0,2,1,3,5]:AOper},{dst:=some 73,op:=.fld 0 1 (.t 72),guard:=some (69,false),deps:=[5,3,1,2,0,4,6,7]:AOper},{dst:=some 74,op:=.load false 1 (.t 73),guard:=some (69,false),deps:=[7,6,4,0,2,1,3,5,8]:AOper},{dst:=some 75,op:=.mov (.t 0),guard:=some (69,false),deps:=[3,1,2,0,4]:AOper},{dst:=some 76,op:=.mov (.t 6),guard:=some (69,false),deps:=[3,1,2,0,4]:AOper},{dst:=some 77,op:=.idx 2 (.t 75) (.t 76),guard:=some (69,false),deps:=[11,4,0,2,1,3,10]:AOper},{dst:=some 78,op:=.fld 0 1 (.t 77),guard:=some (69,false),deps:=[10,3,1,2,0,4,11,12]:AOper},{dst:=some 79,op:=.load false 1 (.t 78),guard:=some (69,false),deps:=[12,11,4,0,2,1,3,10,13]:AOper},{dst:=some 80,op:=.bin BinOp.lss (.t 74) (.t 79),guard:=some (69,false),deps:=[13,10,11,12,14,8,5,3,1,2,0,4,6,7,9]:AOper},⟨some 81,.pick (.t 69) (.c (.bool true)) (.t 80),none,[9,7,6,5,8,14,12,11,10,13,15,3,1,2,0,4]⟩,⟨some 64,.mov (.t 81),none,[4,0,2,1,3,15,13,10,11,12,14,8,5,6,7,9,16]⟩]));gG 120 _ hT (.len (lM .sh encA a)<|.yes (dT ((↑i:Int)<(↑a.length:Int)))<|.tt<|.len (lM .sh encA b)<|.no (dF ((↑b.length:Int)≤(↑k:Int)))<|.len (lM .sh encA a)<|.yes (dT ((↑i:Int)<(↑a.length:Int)))<|.idx hx<|.load (rfl:loadA false 1 ζ1 (.ref [.str x.name])=some (.str x.name))<|.idx hy<|.load (rfl:loadA false 1 ζ1 (.ref [.str y.name])=some (.str y.name))<|.no (show(Op.bytesLess x.name y.name)=false from Bool.eq_false_iff.2 (by omega))<|.len (lM .sh encA a)<|.no (dF ((↑a.length:Int)≤(↑i:Int)))<|.idx hy<|.load (rfl:loadA false 1 ζ2 (.ref [.str y.name])=some (.str y.name))<|.idx hx<|.load (rfl:loadA false 1 ζ2 (.ref [.str x.name])=some (.str x.name))<|.no (show(Op.bytesLess y.name x.name)=false from Bool.eq_false_iff.2 (by omega))<|.idx hx<|.load (rfl:loadA false 1 ζ2 (.ref [.str x.name])=some (.str x.name))<|.append (show appendA 1 16 ζ2 (rowT acc) (.sl .full [.str x.name])=some ((rowT (acc++[x.name]),rowU (acc++[x.name])))from ap _)<|.bin (iI i)<|.bin (iI k)<|.cutQ k266_0 [(0,.sl .sh (a.map encA)),(1,.sl .sh (b.map encA)),(5,rowT (acc++[x.name])),(6,.int .i64 (↑(i+1))),(7,.int .i64 (↑(k+1):Int))] (rowU (acc++[x.name])) (fun T hT=>(ih' T hT)))
theorem names_ref(a b:List Amount)(ha:a.length≤1000)(hb:b.length≤1000):Gives cfg 266 [.sl .sh (a.map encA),.sl .sh (b.map encA)] (rowT (mergeN (nms a) (nms b))):=by
 refine Gives.run (l266 _ _) ?_
 have h:=names_ref_loop a b ha hb (a.length+b.length) a b 0 0 (Nat.le_refl _) rfl rfl [] (by simp;omega)
 rw[List.nil_append]at h
 exact gG 60 [] trivial (.cutQ k266_0 [(0,.sl .sh (a.map encA)),(1,.sl .sh (b.map encA)),(5,.sl .full []),(6,.int .i64 0),(7,.int .i64 0)] ({boxes:=[],toks:=[],loops:=[]:Heap}) (fun T hT=>(h T hT)))
end Go.Aa.T
set_option linter.unusedVariables false
set_option linter.unusedSimpArgs false
set_option maxRecDepth 100000
namespace Go.Aa.T
open Go.Aa Go.Proofs
def stopV(e:Int):AV:=.iface 211 (.agg [.int .i64 e])
theorem stop_ok:Gives cfg 68 [.int .i64 0] (.tuple []):=by
 refine Gives.run (l68 _ _) ?_
 exact gG 60 [] trivial (.ff<|.fin ((.ret (.tuple []),{boxes:=[],toks:=[],loops:=[]:Heap})) rfl)
theorem stop_pan{e:Int}(h:¬e=0):Pans cfg 68 [.int .i64 e] (stopV e):=by
 refine Pans.run (l68 _ _) ?_
 exact gG 60 [] trivial (.op (.bin .neq (.c (.int .i64 e)) (.c (.int .i64 0))) (.bool true) (pure_step (fun _=>neqT (k:=.i64) h) fun _ _ _=>rfl)<|.tt<|.panicI 211 (.agg [.int .i64 e]) Heap.nil rfl)
def skF{X:Type}:List X→SK
 |[]=>.full
 |_::_=>.own 0
instance{X:Type}(l:List X)(xs:List AV):Shut (.sl (skF l) xs) (.sl .sh xs):=⟨by cases l<;>exact⟨rfl,rfl⟩⟩
section
variable{X:Type}(enc:X→AV)
def tkR(acc:List X):List Nat:=(rowH Heap.nil (acc.map enc)).toks
theorem tk_nil:tkR enc []=[]:=rfl
theorem tk_cons(x:X)(l:List X):tkR enc (x::l)=[l.length+1]:=by simp[tkR,rowH,Heap.nil]
def rowF(l:List X):AV:=.sl (skF l) (l.map enc)
instance(l:List X):Shut (rowF enc l) (.sl .sh (l.map enc)):=⟨by cases l<;>exact⟨rfl,rfl⟩⟩
theorem rowF_eq(l:List X):rowF enc l=rowS Heap.nil (l.map enc):=by cases l<;>rfl
theorem row_append_T{x:X}{es bytes:Nat}{bs:List (List AV)}{ls:List LRec}{ys:List X}(h:((ys.map enc).length+1)*bytes≤140737488355328)(hl:lenOk es (ys.map enc)=true)(hv:cellsN es (enc x)=true)(hd:dataOk [enc x]=true):
 appendA es bytes ⟨bs,tkR enc ys,ls⟩ (rowF enc ys) (.sl .full [enc x])=some (rowF enc (ys++[x]),⟨bs,tkR enc (ys++[x]),ls⟩):=by
 rw[rowF_eq,rowF_eq]
 have hh:=row_append_map (f:=enc) (x:=x) (H:=Heap.nil) h hl hv hd
 cases ys with
 |nil=>
  simp only[rowS,rowH,List.map_nil,List.nil_append,List.map_cons,tkR,Heap.nil]at hh⊢
  simp only[appendA]at hh⊢
  split at hh
  ·rename_i hc;rw[if_pos hc];rfl
  ·cases hh
 |cons y ys=>
  simp only[rowS,rowH,List.cons_append,List.map_cons,tkR,Heap.nil]at hh⊢
  simp only[appendA]at hh⊢
  split at hh
  ·rename_i hc
   rw[if_pos hc]
   split at hh
   ·rename_i hc2
    rw[if_pos hc2]
    simp only[Option.some.injEq,Prod.mk.injEq,Heap.mk.injEq,true_and,and_true]at hh⊢
    exact hh
   ·cases hh
  ·cases hh
end
end Go.Aa.T
