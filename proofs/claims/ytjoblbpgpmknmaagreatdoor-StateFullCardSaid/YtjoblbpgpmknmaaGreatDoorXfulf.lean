/-
  WHAT THE LAW LEANS ON, part 6 of 8: a machine of values and its soundness; the functions of the law upon it; what they come to.
-/
import Derived.Test.YtjoblbpgpmknmaaGreatDoorXfule
set_option linter.unusedVariables false
set_option linter.unusedSimpArgs false
set_option maxRecDepth 100000
namespace Go.Aa.T
open Go.Aa Go.Proofs
def short1(x:Amount):Bool:=decide (x.name.length≤50)
def fewA(l:List Amount):Bool:=decide (l.length≤20)&&l.all short1
instance(n:Node):Dat (encN n):=⟨rfl,rfl⟩
def fewN(n:Node):Bool:=decide (n.name.length≤50)&&(fewA n.cap&&(fewP n.labels&&fewT n.taints))
structure FewNd(n:Node):Prop where
 cap:n.cap.length≤20
 labels:n.labels.length≤20
 taints:n.taints.length≤20
def ordG{X:Type}(nm:X→List UInt8)(s:List X)(i:Nat)(x:X):Bool:=match i with
 |0=>false
 |j+1=>match s[j]? with
  |some p=>Op.bytesLess (nm x) (nm p)||nm x==nm p
  |none=>false
def ckAl{X:Type}(ck:X→Int)(nm:X→List UInt8)(s:List X):Nat→List X→Int
 |_,[]=>0
 |i,x::post=>if ck x=0 then(if ordG nm s i x then 13 else ckAl ck nm s (i+1) post)else ck x
def ckAll{X:Type}(most:Nat)(ck:X→Int)(nm:X→List UInt8)(s:List X):Int:=if s.length≤most then ckAl ck nm s 0 s else 4
def findG{X:Type}(nm:X→List UInt8)(l:List X)(n:List UInt8):Option X:=l.find? fun x=>nm x==n
theorem ckNs_name(x:Node):Gives cfg 170 [encN x] (.str (Node.name x)):=by
 refine Gives.run (l170 _ _) ?_
 exact goG 60 [] trivial (.fin ((.ret (.str x.name),{boxes:=[[.str x.name,.sl .sh (x.cap.map encA),.sl .sh (x.labels.map encP),.sl .sh (x.taints.map encT),.bool x.cordon]],toks:=[],loops:=[]:Heap})) rfl) (by kernel_rfl)
theorem ckNs_loop(l:List Node)(hn:l.length≤32):∀(post:List Node)(i:Nat)(bs:List (List AV))(hd:l.drop i=post)(T:Env)(hT:Has T [(0,.sl .sh (l.map encN)),(2,.func 170 []),(3,.func 171 []),(16,.sl .sh (l.map encN)),(17,.int .i64 l.length),(18,.int .i64 i)]),
 Goes cfg a169 k169_0 T ⟨bs,[],[]⟩ (IsRet (.int .i64 (ckAl ckN Node.name l i post))):=by
 intro post
 induction post with
 |nil=>
  intro i bs hd T hT
  have hge:=drop_ge hd
  exact goG 60 _ hT (.no (decide_eq_false (p:=(↑i:Int)<(↑l.length:Int)) (by omega))<|.fin ((.ret (.int .i64 0),{boxes:=bs,toks:=[],loops:=[]:Heap})) rfl) (by kernel_rfl)
 |cons x post ih=>
  intro i bs hd T hT
  have hlt:=drop_lt hd
  have hnx:=drop_next hd
  have hc:=ckN_any x
  have e:ckAl ckN Node.name l i (x::post)=if ckN x=0 then(if ordG Node.name l i x then 13 else ckAl ckN Node.name l (i+1) post)else ckN x:=rfl
  rw[e]
  generalize ckN x=c at hc⊢
  cases i with
  |zero=>exact let ζ1:List AV:=[.str x.name,.sl .sh (x.cap.map encA),.sl .sh (x.labels.map encP),.sl .sh (x.taints.map encT),.bool x.cordon];let ζ2:Heap:={boxes:=bs++[ζ1],toks:=[],loops:=[]:Heap};let ζ3:List AV:=[.str [],.sl .full [],.sl .full [],.sl .full [],.bool false];goG 60 _ hT (.yes (decide_eq_true (p:=(↑(0:Nat):Int)<(↑l.length:Int)) (by omega))<|.idx (show idxA 5 (.sl .sh (l.map encN)) (.int .i64 (↑(0:Nat):Int))=some (.ref (encN x).cells)from idx_row hd (by rfl))<|.load (rfl:loadA true 5 {boxes:=bs,toks:=[],loops:=[]:Heap} (.ref ζ1)=some (.agg ζ1))<|.store (show storeA 5 {boxes:=bs++[ζ3],toks:=[],loops:=[]:Heap} (.ptr bs.length (0:Nat)) (.agg ζ1)=some (ζ2)from store_box2 (cs:=ζ3) (cs':=ζ1) (by simp+zetaDelta) rfl (by simp+zetaDelta [List.set_append]))<|.load (show loadA true 5 ζ2 (.ptr bs.length (0:Nat))=some (.agg ζ1)from load_box (cs:=ζ1) (by simp+zetaDelta) rfl)<|.callK ([.agg ζ1]) (.int .i64 c) (show Gives cfg (171:FuncId) [encN x] (.int .i64 c)from hc)<|.split ((c !=(0:Int))=true) (fun h1=>.yes (show(c !=(0:Int))=true from h1)<|.fin ((.ret (.int .i64 c),ζ2)) (by simp only[IsRet];grind[ordG])) (fun h1=>.no (show(c !=(0:Int))=false from Bool.eq_false_iff.2 h1)<|.ff<|.ff<|.bin (show binA .add (.int .i64 (↑(0:Nat):Int)) (.int .i64 1)=some (.int .i64 (↑((0:Nat)+(1:Nat)):Int))from inc_i (by omega))<|.cutQ k169_0 [(0,.sl .sh (l.map encN)),(2,.func (170:Nat) []),(3,.func (171:Nat) []),(16,.sl .sh (l.map encN)),(17,.int .i64 (↑l.length)),(18,.int .i64 (↑((0:Nat)+(1:Nat)):Int))] (ζ2) (fun T hT=>(ih ((0:Nat)+(1:Nat)) (bs++[ζ1]) hnx T hT).to (by grind[ordG])))) (by kernel_rfl)
  |succ j=>
   obtain⟨p,hp⟩:∃p,l[j]?=some p:=⟨l[j],List.getElem?_eq_getElem (by omega)⟩
   exact let ζ1:List AV:=[.str x.name,.sl .sh (x.cap.map encA),.sl .sh (x.labels.map encP),.sl .sh (x.taints.map encT),.bool x.cordon];let ζ2:Heap:={boxes:=bs++[ζ1],toks:=[],loops:=[]:Heap};let ζ3:List AV:=[.str p.name,.sl .sh (p.cap.map encA),.sl .sh (p.labels.map encP),.sl .sh (p.taints.map encT),.bool p.cordon];let ζ4:List AV:=[.str [],.sl .full [],.sl .full [],.sl .full [],.bool false];goG 60 _ hT (.yes (decide_eq_true (p:=(↑(j+(1:Nat)):Int)<(↑l.length:Int)) (by omega))<|.idx (show idxA 5 (.sl .sh (l.map encN)) (.int .i64 (↑(j+(1:Nat)):Int))=some (.ref (encN x).cells)from idx_row hd (by rfl))<|.load (rfl:loadA true 5 {boxes:=bs,toks:=[],loops:=[]:Heap} (.ref ζ1)=some (.agg ζ1))<|.store (show storeA 5 {boxes:=bs++[ζ4],toks:=[],loops:=[]:Heap} (.ptr bs.length (0:Nat)) (.agg ζ1)=some (ζ2)from store_box2 (cs:=ζ4) (cs':=ζ1) (by simp+zetaDelta) rfl (by simp+zetaDelta [List.set_append]))<|.load (show loadA true 5 ζ2 (.ptr bs.length (0:Nat))=some (.agg ζ1)from load_box (cs:=ζ1) (by simp+zetaDelta) rfl)<|.callK ([.agg ζ1]) (.int .i64 c) (show Gives cfg (171:FuncId) [encN x] (.int .i64 c)from hc)<|.split ((c !=(0:Int))=true) (fun h1=>.yes (show(c !=(0:Int))=true from h1)<|.fin ((.ret (.int .i64 c),ζ2)) (by simp only[IsRet];grind[ordG])) (fun h1=>.no (show(c !=(0:Int))=false from Bool.eq_false_iff.2 h1)<|.yes (decide_eq_true (p:=(0:Int)<(↑(j+(1:Nat)):Int)) (by omega))<|.load (show loadA true 5 ζ2 (.ptr bs.length (0:Nat))=some (.agg ζ1)from load_box (cs:=ζ1) (by simp+zetaDelta) rfl)<|.callK ([.agg ζ1]) (.str x.name) (show Gives cfg (170:FuncId) [encN x] (.str x.name)from ckNs_name _)<|.bin (show binA .sub (.int .i64 (↑(j+(1:Nat)):Int)) (.int .i64 1)=some (.int .i64 ↑j)from dec_i (by omega))<|.idx (show idxA 5 (.sl .sh (l.map encN)) (.int .i64 ↑j)=some (.ref (encN p).cells)from idx_get hp (by rfl))<|.load (rfl:loadA true 5 ζ2 (.ref ζ3)=some (.agg ζ3))<|.callK ([.agg ζ3]) (.str p.name) (show Gives cfg (170:FuncId) [encN p] (.str p.name)from ckNs_name _)<|.split ((Op.bytesLess x.name p.name||x.name==p.name)=true) (fun h2=>.yes (show(Op.bytesLess x.name p.name||x.name==p.name)=true from h2)<|.fin ((.ret (.int .i64 13),ζ2)) (by simp only[IsRet];grind[ordG])) (fun h2=>.no (show(Op.bytesLess x.name p.name||x.name==p.name)=false from Bool.eq_false_iff.2 h2)<|.bin (show binA .add (.int .i64 (↑(j+(1:Nat)):Int)) (.int .i64 1)=some (.int .i64 (↑(j+(1:Nat)+(1:Nat)):Int))from inc_i (by omega))<|.cutQ k169_0 [(0,.sl .sh (l.map encN)),(2,.func (170:Nat) []),(3,.func (171:Nat) []),(16,.sl .sh (l.map encN)),(17,.int .i64 (↑l.length)),(18,.int .i64 (↑(j+(1:Nat)+(1:Nat)):Int))] (ζ2) (fun T hT=>(ih (j+(1:Nat)+(1:Nat)) (bs++[ζ1]) hnx T hT).to (by grind[ordG]))))) (by kernel_rfl)
theorem ckNs_rows(l:List Node):Gives cfg 169 [.sl .sh (l.map encN),.int .i64 32,.func 170 [],.func 171 []] (.int .i64 (ckAll 32 ckN Node.name l)):=by
 refine Gives.run (l169 _ _) ?_
 have h:=fun hn=>ckNs_loop l hn l 0 [] rfl
 exact let ζ1:Heap:={boxes:=[],toks:=[],loops:=[]:Heap};goG 60 [] trivial (.len (show lenA false (.sl .sh (l.map encN))=some (.int .i64 (↑l.length))from len_map _)<|.split ((32:Int)<(↑l.length:Int)) (fun h1=>.yes (decide_eq_true (p:=(32:Int)<(↑l.length:Int)) h1)<|.fin ((.ret (.int .i64 4),ζ1)) (by simp only[IsRet];grind[ckAll])) (fun h1=>.no (decide_eq_false (p:=(32:Int)<(↑l.length:Int)) h1)<|.len (show lenA false (.sl .sh (l.map encN))=some (.int .i64 (↑l.length))from len_map _)<|.cutQ k169_0 [(0,.sl .sh (l.map encN)),(2,.func (170:Nat) []),(3,.func (171:Nat) []),(16,.sl .sh (l.map encN)),(17,.int .i64 (↑l.length)),(18,.int .i64 0)] (ζ1) (fun T hT=>(h (by omega) T hT).to (by grind[ckAll])))) (by kernel_rfl)
theorem ckNs_any(l:List Node):Gives cfg 102 [.sl .sh (l.map encN)] (.int .i64 (ckAll 32 ckN Node.name l)):=by
 refine Gives.run (l102 _ _) ?_
 have h:=ckNs_rows l
 exact goG 60 [] trivial (.callK ([.sl .sh (l.map encN),.int .i64 32,.func (170:Nat) [],.func (171:Nat) []]) (.int .i64 (ckAll (32:Nat) ckN Node.name l)) (show Gives cfg (169:FuncId) [.sl .sh (l.map encN),.int .i64 32,.func (170:FuncId) [],.func (171:FuncId) []] (.int .i64 (ckAll (32:Nat) ckN Node.name l))from h)<|.fin ((.ret (.int .i64 (ckAll (32:Nat) ckN Node.name l)),{boxes:=[],toks:=[],loops:=[]:Heap})) rfl) (by kernel_rfl)
def noN:Node:=⟨[],[],[],[],false⟩
def findNZ:List AV:=[.str [],.sl .full [],.sl .full [],.sl .full [],.bool false]
def findNV:Option Node→AV
 |none=>.tuple [.agg findNZ,.bool false]
 |some x=>.tuple [encN x,.bool true]
theorem findN_any_loop(l:List Node)(s:List UInt8)(hn:l.length<9223372036854775807):∀(post:List Node)(i:Nat)(bs:List (List AV))(hd:l.drop i=post)(T:Env)(hT:Has T [(4,.ptr 0 0),(1,.str s),(8,.sl .sh (l.map encN)),(9,.int .i64 l.length),(10,.int .i64 i)]),
 Goes cfg a79 k79_0 T ⟨findNZ::bs,[],[]⟩ (IsRet (findNV (findG Node.name post s))):=by
 intro post
 induction post with
 |nil=>
  intro i bs hd T hT
  have hge:=drop_ge hd
  exact let ζ1:List AV:=[.str [],.sl .full [],.sl .full [],.sl .full [],.bool false];let ζ2:Heap:={boxes:=ζ1::bs,toks:=[],loops:=[]:Heap};goG 60 _ hT (.no (decide_eq_false (p:=(↑i:Int)<(↑l.length:Int)) (by omega))<|.store (show storeA 5 ζ2 (.ptr 0 0) (.agg ζ1)=some (ζ2)from store_box2 (cs:=ζ1) (cs':=ζ1) (by simp+zetaDelta) rfl (by simp+zetaDelta [List.set_append]))<|.fin ((.ret (.tuple [.agg ζ1,.bool false]),ζ2)) rfl) (by kernel_rfl)
 |cons x post ih=>
  intro i bs hd T hT
  have hlt:=drop_lt hd
  have hnx:=drop_next hd
  by_cases hx:Node.name x=s
  ·have e:findG Node.name (x::post) s=some x:=by simp[findG,List.find?_cons,hx]
   rw[e]
   exact let ζ1:List AV:=[.str x.name,.sl .sh (x.cap.map encA),.sl .sh (x.labels.map encP),.sl .sh (x.taints.map encT),.bool x.cordon];let ζ2:List AV:=[.str [],.sl .full [],.sl .full [],.sl .full [],.bool false];let ζ3:Heap:={boxes:=ζ2::(bs++[ζ1]),toks:=[],loops:=[]:Heap};let ζ4:Heap:={boxes:=ζ1::(bs++[ζ1]),toks:=[],loops:=[]:Heap};goG 60 _ hT (.yes (decide_eq_true (p:=(↑i:Int)<(↑l.length:Int)) (by omega))<|.idx (show idxA 5 (.sl .sh (l.map encN)) (.int .i64 ↑i)=some (.ref (encN x).cells)from idx_row hd (by rfl))<|.load (rfl:loadA true 5 {boxes:=ζ2::bs,toks:=[],loops:=[]:Heap} (.ref ζ1)=some (.agg ζ1))<|.store (show storeA 5 {boxes:=ζ2::(bs++[ζ2]),toks:=[],loops:=[]:Heap} (.ptr (ζ2::bs).length (0:Nat)) (.agg ζ1)=some (ζ3)from store_box2 (cs:=ζ2) (cs':=ζ1) (by simp+zetaDelta) rfl (by simp+zetaDelta [List.set_append]))<|.load (show loadA false 1 ζ3 (.ptr (ζ2::bs).length (0:Nat))=some (.str x.name)from load_box (cs:=ζ1) (by simp+zetaDelta) rfl)<|.yes (show(x.name==s)=true from(by simpa using hx))<|.load (show loadA true 5 ζ3 (.ptr (ζ2::bs).length (0:Nat))=some (.agg ζ1)from load_box (cs:=ζ1) (by simp+zetaDelta) rfl)<|.store (show storeA 5 ζ3 (.ptr 0 0) (.agg ζ1)=some (ζ4)from store_box2 (cs:=ζ2) (cs':=ζ1) (by simp+zetaDelta) rfl (by simp+zetaDelta [List.set_append]))<|.fin ((.ret (.tuple [.agg ζ1,.bool true]),ζ4)) rfl) (by kernel_rfl)
  ·have e:findG Node.name (x::post) s=findG Node.name post s:=by simp[findG,List.find?_cons,hx]
   rw[e]
   exact let ζ1:List AV:=[.str x.name,.sl .sh (x.cap.map encA),.sl .sh (x.labels.map encP),.sl .sh (x.taints.map encT),.bool x.cordon];let ζ2:List AV:=[.str [],.sl .full [],.sl .full [],.sl .full [],.bool false];let ζ3:Heap:={boxes:=ζ2::(bs++[ζ1]),toks:=[],loops:=[]:Heap};goG 60 _ hT (.yes (decide_eq_true (p:=(↑i:Int)<(↑l.length:Int)) (by omega))<|.idx (show idxA 5 (.sl .sh (l.map encN)) (.int .i64 ↑i)=some (.ref (encN x).cells)from idx_row hd (by rfl))<|.load (rfl:loadA true 5 {boxes:=ζ2::bs,toks:=[],loops:=[]:Heap} (.ref ζ1)=some (.agg ζ1))<|.store (show storeA 5 {boxes:=ζ2::(bs++[ζ2]),toks:=[],loops:=[]:Heap} (.ptr (ζ2::bs).length (0:Nat)) (.agg ζ1)=some (ζ3)from store_box2 (cs:=ζ2) (cs':=ζ1) (by simp+zetaDelta) rfl (by simp+zetaDelta [List.set_append]))<|.load (show loadA false 1 ζ3 (.ptr (ζ2::bs).length (0:Nat))=some (.str x.name)from load_box (cs:=ζ1) (by simp+zetaDelta) rfl)<|.no (show(x.name==s)=false from Bool.eq_false_iff.2 (by simpa using hx))<|.bin (show binA .add (.int .i64 ↑i) (.int .i64 1)=some (.int .i64 (↑(i+1)))from inc_i (by omega))<|.cutQ k79_0 [(4,.ptr 0 0),(1,.str s),(8,.sl .sh (l.map encN)),(9,.int .i64 (↑l.length)),(10,.int .i64 (↑(i+1)))] (ζ3) (fun T hT=>(ih (i+(1:Nat)) (bs++[ζ1]) hnx T hT))) (by kernel_rfl)
theorem findN_any(l:List Node)(s:List UInt8)(hn:l.length<9223372036854775807):Gives cfg 79 [.sl .sh (l.map encN),.str s] (findNV (findG Node.name l s)):=by
 refine Gives.run (l79 _ _) ?_
 have h:=findN_any_loop l s hn l 0 [] rfl
 exact goG 60 [] trivial (.len (show lenA false (.sl .sh (l.map encN))=some (.int .i64 (↑l.length))from len_map _)<|.cutQ k79_0 [(4,.ptr 0 0),(1,.str s),(8,.sl .sh (l.map encN)),(9,.int .i64 (↑l.length)),(10,.int .i64 0)] ({boxes:=[[.str [],.sl .full [],.sl .full [],.sl .full [],.bool false]],toks:=[],loops:=[]:Heap}) (fun T hT=>(h T hT))) (by kernel_rfl)
end Go.Aa.T
set_option linter.unusedVariables false
set_option linter.unusedSimpArgs false
set_option maxRecDepth 100000
namespace Go.Aa.T
open Go.Aa Go.Proofs
def inI(a:Int):Prop:= -9223372036854775808≤a∧a≤9223372036854775807
def bothE(a b:Int):Int:=if a<0 then 1 else if b<0 then 1 else 0
theorem both_any(a b:Int):Gives cfg 194 [.int .i64 a,.int .i64 b] (.int .i64 (bothE a b)):=by
 refine Gives.run (l194 _ _) ?_
 exact let ζ1:Heap:={boxes:=[],toks:=[],loops:=[]:Heap};goG 60 [] trivial (.split (a<(0:Int)) (fun h1=>.yes (decide_eq_true (p:=a<(0:Int)) h1)<|.tt<|.fin ((.ret (.int .i64 1),ζ1)) (by simp only[IsRet];grind[bothE])) (fun h1=>.no (decide_eq_false (p:=a<(0:Int)) h1)<|.split (b<(0:Int)) (fun h2=>.yes (decide_eq_true (p:=b<(0:Int)) h2)<|.fin ((.ret (.int .i64 1),ζ1)) (by simp only[IsRet];grind[bothE])) (fun h2=>.no (decide_eq_false (p:=b<(0:Int)) h2)<|.fin ((.ret (.int .i64 0),ζ1)) (by simp only[IsRet];grind[bothE])))) (by kernel_rfl)
theorem wrap_u64{x:Int}(h1:0≤x)(h2:x<18446744073709551616):IntKind.u64.wrap x=x:=by
 simp only[IntKind.wrap,IntKind.bits,IntKind.signed,Bool.false_and,show(2:Int)^64=18446744073709551616 from rfl,Bool.false_eq_true,if_false]
 omega
theorem conv_u64{x:Int}(h1:0≤x)(h2:x<18446744073709551616):convA (.int .u64) (.int .i64 x)=some (.int .u64 x):=by
 simp[convA,wrap_u64 h1 h2]
theorem addU{a b:Int}(h1:0≤a+b)(h2:a+b<18446744073709551616):binA .add (.int .u64 a) (.int .u64 b)=some (.int .u64 (a+b)):=by
 simp[binA,intBin,wrap_u64 h1 h2]
def toldQ(n:Int):Int×Int:=if 9223372036854775807<n then(0,5)else(n,0)
theorem told_any(n:Int)(h:0≤n):Gives cfg 195 [.int .u64 n,.bool false] (.tuple [.int .i64 (toldQ n).1,.int .i64 (toldQ n).2]):=by
 refine Gives.run (l195 _ _) ?_
 by_cases hn:9223372036854775807<n
 ·have e:toldQ n=(0,5):=by simp[toldQ,hn]
  rw[e]
  exact goG 60 [] trivial (.ff<|.yes (decide_eq_true (p:=(9223372036854775807:Int)<n) (by exact hn))<|.fin ((.ret (.tuple [.int .i64 0,.int .i64 5]),{boxes:=[],toks:=[],loops:=[]:Heap})) rfl) (by kernel_rfl)
 ·have e:toldQ n=(n,0):=by simp[toldQ,hn]
  rw[e]
  have hc:convA (.int .i64) (.int .u64 n)=some (.int .i64 n):=conv_i64 (by omega)
  exact goG 60 [] trivial (.ff<|.no (decide_eq_false (p:=(9223372036854775807:Int)<n) (by exact hn))<|.conv (show convA (CV.int IntKind.i64) (.int .u64 n)=some (.int .i64 n)from hc)<|.fin ((.ret (.tuple [.int .i64 n,.int .i64 0]),{boxes:=[],toks:=[],loops:=[]:Heap})) rfl) (by kernel_rfl)
def addQ(a b:Int):Int×Int:=if bothE a b≠0 then(0,bothE a b)else toldQ (a+b)
theorem both_ok{a b:Int}(h:bothE a b=0):0≤a∧0≤b:=by
 unfold bothE at h
 split at h
 ·cases h
 ·split at h
  ·cases h
  ·omega
theorem qadd_any(a b:Int)(ha:inI a)(hb:inI b):Gives cfg 129 [.int .i64 a,.int .i64 b] (.tuple [.int .i64 (addQ a b).1,.int .i64 (addQ a b).2]):=by
 refine Gives.run (l129 _ _) ?_
 obtain⟨ha1,ha2⟩:=ha
 obtain⟨hb1,hb2⟩:=hb
 have h0:=both_any a b
 by_cases he:bothE a b=0
 ·have e:addQ a b=toldQ (a+b):=by simp[addQ,he]
  rw[e]
  obtain⟨i1,i2⟩:=both_ok he
  rw[he]at h0
  have h1:=told_any (a+b) (by omega)
  have c1:convA (.int .u64) (.int .i64 a)=some (.int .u64 a):=conv_u64 i1 (by omega)
  have c2:convA (.int .u64) (.int .i64 b)=some (.int .u64 b):=conv_u64 i2 (by omega)
  have c3:binA .add (.int .u64 a) (.int .u64 b)=some (.int .u64 (a+b)):=addU (by omega) (by omega)
  exact let ζ1:List AV:=[.int .i64 (toldQ (a+b)).fst,.int .i64 (toldQ (a+b)).snd];goG 60 [] trivial (.callK ([.int .i64 a,.int .i64 b]) (.int .i64 0) (show Gives cfg (194:FuncId) [.int .i64 a,.int .i64 b] (.int .i64 0)from h0)<|.ff<|.conv (show convA (CV.int IntKind.u64) (.int .i64 a)=some (.int .u64 a)from c1)<|.conv (show convA (CV.int IntKind.u64) (.int .i64 b)=some (.int .u64 b)from c2)<|.bin (show binA .add (.int .u64 a) (.int .u64 b)=some (.int .u64 (a+b))from c3)<|.callK ([.int .u64 (a+b),.bool false]) (.tuple ζ1) (show Gives cfg (195:FuncId) [.int .u64 (a+b),.bool false] (.tuple ζ1)from h1)<|.fin ((.ret (.tuple ζ1),{boxes:=[],toks:=[],loops:=[]:Heap})) rfl) (by kernel_rfl)
 ·have e:addQ a b=(0,bothE a b):=by simp[addQ,he]
  rw[e]
  generalize bothE a b=c at*
  exact goG 60 [] trivial (.callK ([.int .i64 a,.int .i64 b]) (.int .i64 c) (show Gives cfg (194:FuncId) [.int .i64 a,.int .i64 b] (.int .i64 c)from h0)<|.yes (show(c !=(0:Int))=true from(by simpa using he))<|.fin ((.ret (.tuple [.int .i64 0,.int .i64 c]),{boxes:=[],toks:=[],loops:=[]:Heap})) rfl) (by kernel_rfl)
def getQ(v:List Amount)(s:List UInt8):Int:=match v.find? (fun x=>x.name==s)with
 |some x=>x.n
 |none=>0
theorem getQ_cons(x:Amount)(v:List Amount)(s:List UInt8):getQ (x::v) s=if x.name=s then x.n else getQ v s:=by
 unfold getQ
 by_cases h:x.name=s
 ·simp[List.find?_cons,h]
 ·simp[List.find?_cons,h]
section
variable{H:Heap}{g:FuncId}{k:Nat}{p:Amount→Bool}
theorem idxV_loop(hd:∀y:Amount,Does cfg (.call (.c (.func g [.ptr k 0])) [.c (encA y)]) H (.bool (p y)) H)(l:List Amount)(hn:l.length<9223372036854775807):∀(post:List Amount)(i:Nat)(hdr:l.drop i=post)(T:Env)
 (hT:Has T [(0,.sl .sh (l.map encA)),(1,.func g [.ptr k 0]),(7,.int .i64 l.length),(8,.int .i64 i)]),
 Goes cfg a131 k131_0 T H (fun r=>r=(.ret (.int .i64 (fidxB p post i)),H)):=by
 intro post
 induction post with
 |nil=>
  intro i hdr T hT
  have hge:=drop_ge hdr
  exact goG 60 _ hT (.no (decide_eq_false (p:=(↑i:Int)<(↑l.length:Int)) (by omega))<|.fin ((.ret (.int .i64 (-1:Int)),H)) rfl) (by kernel_rfl)
 |cons x post ih=>
  intro i hdr T hT
  have hlt:=drop_lt hdr
  have hnx:=drop_next hdr
  have hdx:=hd x
  cases hp:p x with
  |true=>
   rw[hp]at hdx
   have e:fidxB p (x::post) i=i:=by simp[fidxB,hp]
   rw[e]
   exact goG 60 _ hT (.yes (decide_eq_true (p:=(↑i:Int)<(↑l.length:Int)) (by omega))<|.idx (show idxA 2 (.sl .sh (l.map encA)) (.int .i64 ↑i)=some (.ref (encA x).cells)from idx_row hdr (by rfl))<|.load (rfl:loadA true 2 H (.ref [.str x.name,.int .i64 x.n])=some (.agg [.str x.name,.int .i64 x.n]))<|.effY (show Does cfg (.call (.c (.func g [.ptr k (0:Nat)])) [.c (encA x)]) H (.bool true) H from hdx)<|.tt<|.fin ((.ret (.int .i64 ↑i),H)) rfl) (by kernel_rfl)
  |false=>
   rw[hp]at hdx
   have e:fidxB p (x::post) i=fidxB p post (i+1):=by simp[fidxB,hp]
   rw[e]
   exact goG 60 _ hT (.yes (decide_eq_true (p:=(↑i:Int)<(↑l.length:Int)) (by omega))<|.idx (show idxA 2 (.sl .sh (l.map encA)) (.int .i64 ↑i)=some (.ref (encA x).cells)from idx_row hdr (by rfl))<|.load (rfl:loadA true 2 H (.ref [.str x.name,.int .i64 x.n])=some (.agg [.str x.name,.int .i64 x.n]))<|.effY (show Does cfg (.call (.c (.func g [.ptr k (0:Nat)])) [.c (encA x)]) H (.bool false) H from hdx)<|.ff<|.bin (show binA .add (.int .i64 ↑i) (.int .i64 1)=some (.int .i64 (↑(i+1)))from inc_i (by omega))<|.cutQ k131_0 [(0,.sl .sh (l.map encA)),(1,.func g [.ptr k (0:Nat)]),(7,.int .i64 (↑l.length)),(8,.int .i64 (↑(i+1)))] (H) (fun T hT=>(ih (i+(1:Nat)) hnx T hT))) (by kernel_rfl)
theorem idxV(hd:∀y:Amount,Does cfg (.call (.c (.func g [.ptr k 0])) [.c (encA y)]) H (.bool (p y)) H)(l:List Amount)(hn:l.length<9223372036854775807):
 lim cfg (.fn 131) [.sl .sh (l.map encA),.func g [.ptr k 0]] H=some (.ret (.int .i64 (fidxB p l 0)),H):=by
 rw[l131]
 have h:=idxV_loop hd l hn l 0 rfl
 have key:Goes cfg a131 [.c c131] (initEnv [.sl .sh (l.map encA),.func g [.ptr k 0]]) H (fun r=>r=(.ret (.int .i64 (fidxB p l 0)),H)):=by
  exact goG 60 [] trivial (.len (show lenA false (.sl .sh (l.map encA))=some (.int .i64 (↑l.length))from len_map _)<|.cutQ k131_0 [(0,.sl .sh (l.map encA)),(1,.func g [.ptr k (0:Nat)]),(7,.int .i64 (↑l.length)),(8,.int .i64 0)] (H) (fun T hT=>(h T hT))) (by kernel_rfl)
 obtain⟨r,h,rfl⟩:=key
 exact h
end
theorem fidx_get(s:List UInt8):∀(l pre:List Amount)(i:Nat),pre.length=i→(getQ l s=0∧fidxB (fun x:Amount=>x.name==s) l i= -1)∨∃j x,fidxB (fun x:Amount=>x.name==s) l i=(j:Nat)∧(pre++l)[j]?=some x∧getQ l s=x.n
 |[],pre,i,h=>.inl ⟨rfl,rfl⟩
 |x::l,pre,i,h=>by
  by_cases hx:x.name=s
  ·refine .inr ⟨i,x,by simp[fidxB,hx],by simp[←h],by rw[getQ_cons,if_pos hx]⟩
  ·have e1:fidxB (fun x:Amount=>x.name==s) (x::l) i=fidxB (fun x:Amount=>x.name==s) l (i+1):=by simp[fidxB,hx]
   rw[getQ_cons,if_neg hx,e1]
   rcases fidx_get s l (pre++[x]) (i+1) (by simp[h])with h1|⟨j,y,h1,h2,h3⟩
   ·exact .inl h1
   ·exact .inr ⟨j,y,h1,by simpa using h2,h3⟩
theorem get_one(s:List UInt8)(y:Amount):Does cfg (.call (.c (.func 132 [.ptr 0 0])) [.c (encA y)]) ⟨[[.str s]],[],[]⟩ (.bool (y.name==s)) ⟨[[.str s]],[],[]⟩:=by
 have key:Goes cfg a132 [.c c132] (initEnv [encA y,.ptr 0 0]) ⟨[[.str s]],[],[]⟩ (fun r=>r=(.ret (.bool (y.name==s)),⟨[[.str s]]++[(encA y).cells],[],[]⟩)):=by
  exact goG 60 [] trivial (.fin ((.ret (.bool (y.name==s)),{boxes:=[[.str s],[.str y.name,.int .i64 y.n]],toks:=[],loops:=[]:Heap})) rfl) (by kernel_rfl)
 obtain⟨r,h,rfl⟩:=key
 have h2:lim cfg (.fn 132) ([encA y]++[.ptr 0 0]) ⟨[[.str s]],[],[]⟩=some (.ret (.bool (y.name==s)),⟨[[.str s]]++[(encA y).cells],[],[]⟩):=by
  rw[l132];exact h
 have hd:=does_callE h2 rfl rfl
 rwa [show shutA (.bool (y.name==s))=.bool (y.name==s)from rfl,trunc_plain (bs:=[[.str s]]) (ex:=[(encA y).cells]) (ts:=[]) rfl]at hd
theorem getQ_any(v:List Amount)(s:List UInt8)(hn:v.length<9223372036854775807):Gives cfg 57 [.sl .sh (v.map encA),.str s] (.int .i64 (getQ v s)):=by
 refine Gives.run (l57 _ _) ?_
 have h0:=does_callE (xs:=[.sl .sh (v.map encA),.func 132 [.ptr 0 0]]) (caps:=[]) (idxV (g:=132) (k:=0) (get_one s) v hn) rfl rfl
 rw[show shutA (.int .i64 (fidxB (fun y:Amount=>y.name==s) v 0))=.int .i64 (fidxB (fun y:Amount=>y.name==s) v 0)from rfl,
  show trunc (⟨[[.str s]],[],[]⟩:Heap).boxes.length (⟨[[.str s]],[],[]⟩:Heap).toks.length (.int .i64 (fidxB (fun y:Amount=>y.name==s) v 0)) ⟨[[.str s]],[],[]⟩=⟨[[.str s]],[],[]⟩from rfl]at h0
 rcases fidx_get s v [] 0 rfl with⟨h1,h2⟩|⟨j,x,h1,h2,h3⟩
 ·rw[h2]at h0
  rw[h1]
  exact let ζ1:Heap:={boxes:=[[.str s]],toks:=[],loops:=[]:Heap};goG 60 [] trivial (.effY (show Does cfg (.call (.c (.func (131:FuncId) [])) (List.map .c [.sl .sh (v.map encA),.func (132:FuncId) [.ptr 0 0]])) ζ1 (.int .i64 (-1:Int)) ζ1 from h0)<|.tt<|.fin ((.ret (.int .i64 0),ζ1)) rfl) (by kernel_rfl)
 ·rw[h1]at h0
  rw[h3]
  have hx:idxA 2 (.sl .sh (v.map encA)) (.int .i64 (j:Nat))=some (.ref [.str x.name,.int .i64 x.n]):=idx_get (f:=encA) (x:=x) (by simpa using h2) rfl
  exact let ζ1:Heap:={boxes:=[[.str s]],toks:=[],loops:=[]:Heap};goG 60 [] trivial (.effY (show Does cfg (.call (.c (.func (131:FuncId) [])) (List.map .c [.sl .sh (v.map encA),.func (132:FuncId) [.ptr 0 0]])) ζ1 (.int .i64 ↑j) ζ1 from h0)<|.ff<|.idx (show idxA 2 (.sl .sh (v.map encA)) (.int .i64 ↑j)=some (.ref [.str x.name,.int .i64 x.n])from hx)<|.fin ((.ret (.int .i64 x.n),ζ1)) rfl) (by kernel_rfl)
def fitsV(need have_:List Amount):Bool:=need.all fun x=>decide (x.n≤getQ have_ x.name)
theorem fits_one(w:List Amount)(hn:w.length<9223372036854775807)(y:Amount):Does cfg (.call (.c (.func 134 [.ptr 0 0])) [.c (encA y)]) ⟨[[.sl .sh (w.map encA)]],[],[]⟩ (.bool (decide (getQ w y.name<y.n))) ⟨[[.sl .sh (w.map encA)]],[],[]⟩:=by
 have hg:=getQ_any w y.name hn
 have key:Goes cfg a134 [.c c134] (initEnv [encA y,.ptr 0 0]) ⟨[[.sl .sh (w.map encA)]],[],[]⟩ (fun r=>r=(.ret (.bool (decide (getQ w y.name<y.n))),⟨[[.sl .sh (w.map encA)]]++[(encA y).cells],[],[]⟩)):=by
  exact let ζ1:List AV:=[.sl .sh (w.map encA),.str y.name];goG 60 [] trivial (.callK (ζ1) (.int .i64 (getQ w y.name)) (show Gives cfg (57:FuncId) ζ1 (.int .i64 (getQ w y.name))from hg)<|.fin ((.ret (.bool (decide (getQ w y.name<y.n))),{boxes:=[[.sl .sh (w.map encA)],[.str y.name,.int .i64 y.n]],toks:=[],loops:=[]:Heap})) rfl) (by kernel_rfl)
 obtain⟨r,h,rfl⟩:=key
 have h2:lim cfg (.fn 134) ([encA y]++[.ptr 0 0]) ⟨[[.sl .sh (w.map encA)]],[],[]⟩=some (.ret (.bool (decide (getQ w y.name<y.n))),⟨[[.sl .sh (w.map encA)]]++[(encA y).cells],[],[]⟩):=by
  rw[l134];exact h
 have hd:=does_callE h2 rfl rfl
 rwa [show shutA (.bool (decide (getQ w y.name<y.n)))=.bool (decide (getQ w y.name<y.n))from rfl,trunc_plain (bs:=[[.sl .sh (w.map encA)]]) (ex:=[(encA y).cells]) (ts:=[]) rfl]at hd
theorem fits_has(v w:List Amount)(hv:v.length<9223372036854775807)(hn:w.length<9223372036854775807):lim cfg (.fn 133) [.sl .sh (v.map encA),.func 134 [.ptr 0 0]] ⟨[[.sl .sh (w.map encA)]],[],[]⟩=some (.ret (.bool (v.any fun y=>decide (getQ w y.name<y.n))),⟨[[.sl .sh (w.map encA)]],[],[]⟩):=by
 rw[l133]
 have h0:=does_callE (xs:=[.sl .sh (v.map encA),.func 134 [.ptr 0 0]]) (caps:=[]) (idxV (g:=134) (k:=0) (fits_one w hn) v hv) rfl rfl
 rw[show shutA (.int .i64 (fidxB (fun y:Amount=>decide (getQ w y.name<y.n)) v 0))=.int .i64 (fidxB (fun y:Amount=>decide (getQ w y.name<y.n)) v 0)from rfl,
  show trunc (⟨[[.sl .sh (w.map encA)]],[],[]⟩:Heap).boxes.length (⟨[[.sl .sh (w.map encA)]],[],[]⟩:Heap).toks.length (.int .i64 (fidxB (fun y:Amount=>decide (getQ w y.name<y.n)) v 0)) ⟨[[.sl .sh (w.map encA)]],[],[]⟩=⟨[[.sl .sh (w.map encA)]],[],[]⟩from rfl]at h0
 have hf:=fidxB_ge (fun y:Amount=>decide (getQ w y.name<y.n)) v 0
 generalize fidxB (fun y:Amount=>decide (getQ w y.name<y.n)) v 0=c at h0 hf
 have key:Goes cfg a133 [.c c133] (initEnv [.sl .sh (v.map encA),.func 134 [.ptr 0 0]]) ⟨[[.sl .sh (w.map encA)]],[],[]⟩ (fun r=>r=(.ret (.bool (v.any fun y=>decide (getQ w y.name<y.n))),⟨[[.sl .sh (w.map encA)]],[],[]⟩)):=by
  exact let ζ1:Heap:={boxes:=[[.sl .sh (w.map encA)]],toks:=[],loops:=[]:Heap};goG 60 [] trivial (.effY (show Does cfg (.call (.c (.func (131:FuncId) [])) (List.map .c [.sl .sh (v.map encA),.func (134:FuncId) [.ptr 0 0]])) ζ1 (.int .i64 c) ζ1 from h0)<|.fin ((.ret (.bool (decide ((0:Int)≤c))),ζ1)) (by simp+zetaDelta [←hf])) (by kernel_rfl)
 obtain⟨r,h,rfl⟩:=key
 exact h
theorem fits_any(v w:List Amount)(hv:v.length<9223372036854775807)(hn:w.length<9223372036854775807):Gives cfg 58 [.sl .sh (v.map encA),.sl .sh (w.map encA)] (.bool (fitsV v w)):=by
 refine Gives.run (l58 _ _) ?_
 have h0:=does_callE (xs:=[.sl .sh (v.map encA),.func 134 [.ptr 0 0]]) (caps:=[]) (fits_has v w hv hn) rfl rfl
 have e:fitsV v w= !(v.any fun y=>decide (getQ w y.name<y.n)):=by
  unfold fitsV
  rw[List.not_any_eq_all_not]
  congr 1;funext x
  rw[←decide_not]
  exact decide_eq_decide.2 (by omega)
 rw[e]
 generalize(v.any fun y=>decide (getQ w y.name<y.n))=b at h0⊢
 rw[show trunc (⟨[[.sl .sh (w.map encA)]],[],[]⟩:Heap).boxes.length (⟨[[.sl .sh (w.map encA)]],[],[]⟩:Heap).toks.length (shutA (.bool b)) ⟨[[.sl .sh (w.map encA)]],[],[]⟩=⟨[[.sl .sh (w.map encA)]],[],[]⟩from rfl,show shutA (.bool b)=.bool b from rfl]at h0
 exact let ζ1:Heap:={boxes:=[[.sl .sh (w.map encA)]],toks:=[],loops:=[]:Heap};goG 60 [] trivial (.effY (show Does cfg (.call (.c (.func (133:FuncId) [])) (List.map .c [.sl .sh (v.map encA),.func (134:FuncId) [.ptr 0 0]])) ζ1 (.bool b) ζ1 from h0)<|.fin ((.ret (.bool !b),ζ1)) rfl) (by kernel_rfl)
end Go.Aa.T
set_option linter.unusedVariables false
set_option linter.unusedSimpArgs false
set_option maxRecDepth 100000
namespace Go.Aa.T
open Go.Aa Go.Proofs
def uqG(x:List UInt8):List (List UInt8)→List (List UInt8)
 |[]=>[]
 |y::l=>if y=x then uqG x l else y::uqG y l
def uq:List (List UInt8)→List (List UInt8)
 |[]=>[]
 |x::l=>x::uqG x l
def namesOf(l:List (List UInt8)):List (List UInt8):=uq (isort l)
theorem uqG_len(x:List UInt8):∀l:List (List UInt8),(uqG x l).length≤l.length
 |[]=>Nat.le_refl _
 |y::l=>by
  unfold uqG
  split
  ·have:=uqG_len x l;simp;omega
  ·have:=uqG_len y l;simp;omega
theorem uq_len(l:List (List UInt8)):(uq l).length≤l.length:=by
 cases l with
 |nil=>exact Nat.le_refl _
 |cons x l=>have:=uqG_len x l;simp[uq];omega
theorem trunc_len{bs:List (List AV)}{ls:List LRec}{v:AV}{nb nt:Nat}(h:bs.length=nb):trunc nb nt v ⟨bs,[],ls⟩=⟨bs,[],ls⟩:=by
 unfold trunc
 have e:∀(b:Bool),(if b=true then bs.take nb else bs)=bs:=fun b=>by
  split
  ·exact List.take_of_length_le (by omega)
  ·rfl
 simp only[e,List.take_nil,ite_self]
theorem unrow_one:∀(n:Nat)(cs:List AV),n≤cs.length→unrow 1 n cs=cs.take n
 |0,cs,_=>by simp[unrow]
 |n+1,[],h=>by simp at h
 |n+1,c::cs,h=>by
  simp only[unrow,if_true,List.headD_cons,List.drop_succ_cons,List.drop_zero,List.take_succ_cons]
  rw[unrow_one n cs (by simpa using h)]
theorem strs_data(l:List (List UInt8)):(l.map AV.str).all data0=true:=List.all_eq_true.2 fun x hx=>by
 obtain⟨s,-,rfl⟩:=List.mem_map.1 hx
 rfl
theorem out_box1{bs:List (List AV)}{tk:List Nat}{ls:List LRec}{kk n:Nat}{cs:List AV}(hk:bs[kk]?=some cs)(hn:n≤cs.length)(hd:cs.all data0=true):dataOut ⟨bs,tk,ls⟩ (.msl kk 0 n 1)=some (.sl .sh (cs.take n)):=by
 have h1:frzA ⟨bs,tk,ls⟩ (.msl kk 0 n 1)=some (.sl .sh (cs.take n)):=by
  simp only[frzA,frz2,frz1,hk,Nat.zero_add,List.drop_zero,Nat.mul_one]
  rw[if_pos ⟨hn,Nat.zero_le _,Nat.one_pos,hd⟩,unrow_one n cs hn]
 unfold dataOut
 rw[if_neg (by simp[shutA,shut2,shut1,isData,data2,data1,data0]),h1]
 rfl
theorem does_load1{kk m:Nat}{bs:List (List AV)}{tk:List Nat}{ls:List LRec}{C:List (List UInt8)}{y:List UInt8}(hk:bs[kk]?=some (C.map .str))(hy:C[m]?=some y):Does cfg (.load false 1 (.c (.ptr kk m))) ⟨bs,tk,ls⟩ (.str y) ⟨bs,tk,ls⟩:=fun T=>by
 have hm:=(List.getElem?_eq_some_iff.1 hy).1
 have:loadA false 1 ⟨bs,tk,ls⟩ (.ptr kk m)=some (.str y):=by
  simp only[loadA,hk,List.length_map]
  rw[if_pos (by omega)]
  simp[hy]
 simp only[opStep,ev,this]
theorem does_store1{kk m:Nat}{bs:List (List AV)}{tk:List Nat}{ls:List LRec}{C:List (List UInt8)}(y:List UInt8)(hk:bs[kk]?=some (C.map .str))(hm:m<C.length):Does cfg (.store 1 (.c (.ptr kk m)) (.c (.str y))) ⟨bs,tk,ls⟩ .undef ⟨bs.set kk ((C.set m y).map .str),tk,ls⟩:=fun T=>by
 have:storeA 1 ⟨bs,tk,ls⟩ (.ptr kk m) (.str y)=some ⟨bs.set kk ((C.set m y).map .str),tk,ls⟩:=by
  simp only[storeA,hk,List.length_map]
  rw[if_pos ⟨by omega,rfl,rfl,by omega⟩]
  simp[AV.cells,paste,List.map_set]
 simp only[opStep,ev,this]
theorem does_growB{es b kk n:Nat}{B:List (List AV)}{tk:List Nat}{ls:List LRec}{cs:List AV}{v:AV}{sk:SK}(hk:B[kk]?=some cs)(hn:cs.length=n*es)(h0:0<n)(hd:cs.all data0=true)(hv:cellsN es v=true)(hvd:dataOk [v]=true)(hb:(n+1)*b≤140737488355328):
 Does cfg (.appendM es b (.c (.msl kk 0 n es)) (.c (.sl sk [v]))) ⟨B,tk,ls⟩ (.msl B.length 0 (n+1) es) ⟨B.set kk []++[cs++v.cells],tk,ls⟩:=fun T=>by
 have:appendMA es b ⟨B,tk,ls⟩ (.msl kk 0 n es) (.sl sk [v])=some (.msl B.length 0 (n+1) es,⟨B.set kk []++[cs++v.cells],tk,ls⟩):=by
  simp only[appendMA,hk]
  rw[if_pos ⟨trivial,trivial,h0,hn,hd,hb,by simp only[lenOk,List.all_cons,List.all_nil,Bool.and_true];exact hv,hvd⟩]
  simp[rowCells]
 simp only[opStep,ev,this]
theorem does_newB{es b:Nat}{B:List (List AV)}{tk:List Nat}{ls:List LRec}{v:AV}{sk:SK}(hv:cellsN es v=true)(hvd:dataOk [v]=true)(hb:b≤140737488355328):
 Does cfg (.appendM es b (.c (.sl .full [])) (.c (.sl sk [v]))) ⟨B,tk,ls⟩ (.msl B.length 0 1 es) ⟨B++[v.cells],tk,ls⟩:=fun T=>by
 have:appendMA es b ⟨B,tk,ls⟩ (.sl .full []) (.sl sk [v])=some (.msl B.length 0 1 es,⟨B++[v.cells],tk,ls⟩):=by
  simp only[appendMA]
  rw[if_pos ⟨by trivial,by trivial,by simpa using hb,by simp only[lenOk,List.all_cons,List.all_nil,Bool.and_true];exact hv,hvd⟩]
  simp[rowCells]
 simp only[opStep,ev,this]
section
variable(kk n:Nat)(B0:List (List AV))
def RetC(res:List (List UInt8))(r:ARes×Heap):Prop:=∃(m:Nat)(C:List (List UInt8)),r=(.ret (.msl kk 0 m 1),⟨B0.set kk (C.map .str),[],[]⟩)∧C.take m=res∧m≤C.length∧C.length=n
theorem compact_loop2(hn:n<9223372036854775807)(hk0:kk<B0.length)(k0:Nat)(h1:1≤k0):∀(post:List (List UInt8))(q m:Nat)(prev:List UInt8)(U C:List (List UInt8))(hm:m=k0+q)(hq:1≤q)(hC:C.length=n)(hU:C.take U.length=U)(hd:C.drop (m-1)=prev::post)(hl:U.length+1≤m)(T:Env)
 (hT:Has T [(0,.msl kk 0 n 1),(3,.int .i64 U.length),(4,.msl kk k0 (n-k0) 1),(5,.int .i64 q)]),
 Goes cfg a205 k205_1 T ⟨B0.set kk (C.map .str),[],[]⟩ (RetC kk n B0 (U++uqG prev post)):=by
 intro post
 induction post with
 |nil=>
  intro q m prev U C hm hq hC hU hd hl T hT
  have hlen:n-(m-1)=1:=by
   have:=congrArg List.length hd
   simpa[hC]using this
  have hk:(B0.set kk (C.map AV.str))[kk]?=some (C.map .str):=by rw[List.getElem?_set_self hk0]
  have c1:binA .lss (.int .i64 (q:Nat)) (.int .i64 ((n-k0:Nat):Int))=some (.bool false):=lssF (by omega)
  have s1:sliceA 1 (.msl kk 0 n 1) (some (.int .i64 (U.length:Nat))) none none=some (.msl kk U.length (n-U.length) 1):=by
   simp only[sliceA,sliceM,boundA]
   rw[if_neg (by omega)]
   rw[if_pos ⟨by omega,by omega⟩]
   simp only[Int.toNat_natCast]
   rw[if_pos (by omega)]
   simp
  have s2:sliceA 1 (.msl kk 0 n 1) none (some (.int .i64 (U.length:Nat))) none=some (.msl kk 0 U.length 1):=by
   simp only[sliceA,sliceM,boundA]
   rw[if_neg (by omega)]
   rw[if_pos ⟨by omega,by omega⟩]
   simp only[Int.toNat_natCast]
   rw[if_pos (by omega)]
   simp
  have cl:Does cfg (.clearM [.str []] (.c (.msl kk U.length (n-U.length) 1))) ⟨B0.set kk (C.map .str),[],[]⟩ (.tuple []) ⟨B0.set kk ((U++List.replicate (n-U.length) []).map .str),[],[]⟩:=fun T=>by
   have e0:(List.replicate (n-U.length) [AV.str []]).flatten=List.replicate (n-U.length) (.str []):=by
    generalize n-U.length=j
    induction j with
    |zero=>rfl
    |succ j ih=>rw[List.replicate_succ,List.flatten_cons,ih];rfl
   have:clearA [.str []] ⟨B0.set kk (C.map .str),[],[]⟩ (.msl kk U.length (n-U.length) 1)=some ⟨B0.set kk ((U++List.replicate (n-U.length) []).map .str),[],[]⟩:=by
    simp only[clearA,hk]
    rw[if_pos ⟨by simp[hC];omega,rfl,by omega,by omega,rfl⟩,e0,paste_spec _ _ _ (by simp[hC];omega)]
    simp only[List.set_set]
    congr 3
    rw[←List.map_take,hU,List.drop_eq_nil_of_le (by simp[hC];omega)]
    simp
   simp only[opStep,ev,this]
  exact let ζ1:Heap:={boxes:=B0.set kk (List.map .str (U++List.replicate (n-U.length) [])),toks:=[],loops:=[]:Heap};goG 60 _ hT (.len (rfl:lenA false (.msl kk k0 (n-k0) (1:Nat))=some (.int .i64 (↑(n-k0):Int)))<|.no (decide_eq_false (p:=(↑q:Int)<(↑(n-k0):Int)) (by omega))<|.slice (show sliceA (1:Nat) (.msl kk (0:Nat) n (1:Nat)) (some (.int .i64 (↑U.length))) none none=some (.msl kk U.length (n-U.length) (1:Nat))from s1)<|.effY (show Does cfg (.clearM [.str []] (.c (.msl kk U.length (n-U.length) (1:Nat)))) {boxes:=B0.set kk (List.map .str C),toks:=[],loops:=[]:Heap} (.tuple []) ζ1 from cl)<|.slice (show sliceA (1:Nat) (.msl kk (0:Nat) n (1:Nat)) none (some (.int .i64 (↑U.length))) none=some (.msl kk (0:Nat) U.length (1:Nat))from s2)<|.fin ((.ret (.msl kk (0:Nat) U.length (1:Nat)),ζ1)) (by exact⟨U.length,U++List.replicate (n-U.length) [],rfl,by simp[uqG],by simp,by simp;omega⟩)) (by kernel_rfl)
 |cons y post ih=>
  intro q m prev U C hm hq hC hU hd hl T hT
  have hlen:n-(m-1)=post.length+2:=by
   have:=congrArg List.length hd
   simpa[hC]using this
  have hk:(B0.set kk (C.map AV.str))[kk]?=some (C.map .str):=by rw[List.getElem?_set_self hk0]
  have c1:binA .lss (.int .i64 (q:Nat)) (.int .i64 ((n-k0:Nat):Int))=some (.bool true):=lssT (by omega)
  have hprev:C[k0+(q-1)]?=some prev:=by
   have:=drop_at hd
   rwa [show m-1=k0+(q-1)by omega]at this
  have hd1:C.drop m=y::post:=by
   have:=drop_next hd
   rwa [show m-1+1=m by omega]at this
  have hy:C[k0+q]?=some y:=by rw[←hm];exact drop_at hd1
  obtain⟨q,rfl⟩:∃p,q=p+1:=⟨q-1,by omega⟩
  have i1:idxA 1 (.msl kk k0 (n-k0) 1) (.int .i64 ((q+1:Nat):Int))=some (.ptr kk (k0+(q+1))):=by
   have:=idx_msl (k:=kk) (off:=k0) (n:=n-k0) (es:=1) (q:=.i64) (i:=q+1) (by omega)
   rwa [Nat.mul_one]at this
  have i2:idxA 1 (.msl kk k0 (n-k0) 1) (.int .i64 (q:Nat))=some (.ptr kk (k0+q)):=by
   have:=idx_msl (k:=kk) (off:=k0) (n:=n-k0) (es:=1) (q:=.i64) (i:=q) (by omega)
   rwa [Nat.mul_one]at this
  have l1:=does_load1 (tk:=[]) (ls:=[]) hk hy
  rw[Nat.add_sub_cancel]at hprev
  have l2:=does_load1 (tk:=[]) (ls:=[]) hk hprev
  have d1:=dec_i (i:=q) (by omega)
  by_cases e:y=prev
  ·have hg:uqG prev (y::post)=uqG prev post:=by simp[uqG,e]
   rw[hg]
   have n1:binA .neq (.str y) (.str prev)=some (.bool false):=strNeF e
   have ih':=ih (q+1+1) (m+1) prev U C (by omega) (by omega) hC hU (by rw[Nat.add_sub_cancel,hd1,e]) (by omega)
   exact let ζ1:Heap:={boxes:=B0.set kk (List.map .str C),toks:=[],loops:=[]:Heap};goG 90 _ hT (.len (rfl:lenA false (.msl kk k0 (n-k0) (1:Nat))=some (.int .i64 (↑(n-k0):Int)))<|.yes (decide_eq_true (p:=(↑(q+(1:Nat)):Int)<(↑(n-k0):Int)) (by omega))<|.idx (show idxA 1 (.msl kk k0 (n-k0) (1:Nat)) (.int .i64 (↑(q+(1:Nat)):Int))=some (.ptr kk (k0+(q+(1:Nat))))from i1)<|.effY (show Does cfg (.load false (1:Nat) (.c (.ptr kk (k0+(q+(1:Nat)))))) ζ1 (.str y) ζ1 from l1)<|.bin (show binA .sub (.int .i64 (↑(q+(1:Nat)):Int)) (.int .i64 1)=some (.int .i64 ↑q)from d1)<|.idx (show idxA 1 (.msl kk k0 (n-k0) (1:Nat)) (.int .i64 ↑q)=some (.ptr kk (k0+q))from i2)<|.effY (show Does cfg (.load false (1:Nat) (.c (.ptr kk (k0+q)))) ζ1 (.str prev) ζ1 from l2)<|.no (show(!y==prev)=false from by have hh:(y==prev)=true:=(by simpa using e);simp[hh])<|.bin (show binA .add (.int .i64 (↑(q+(1:Nat)):Int)) (.int .i64 1)=some (.int .i64 (↑(q+(1:Nat)+(1:Nat)):Int))from inc_i (by omega))<|.cutQ k205_1 [(0,.msl kk (0:Nat) n (1:Nat)),(3,.int .i64 (↑U.length)),(4,.msl kk k0 (n-k0) (1:Nat)),(5,.int .i64 (↑(q+(1:Nat)+(1:Nat)):Int))] (ζ1) (fun T hT=>(ih' T hT))) (by kernel_rfl)
  ·have hg:uqG prev (y::post)=y::uqG y post:=by simp[uqG,e]
   rw[hg]
   have n1:binA .neq (.str y) (.str prev)=some (.bool true):=strNeT e
   have i3:idxA 1 (.msl kk 0 n 1) (.int .i64 (U.length:Nat))=some (.ptr kk U.length):=by
    have:=idx_msl (k:=kk) (off:=0) (n:=n) (es:=1) (q:=.i64) (i:=U.length) (by omega)
    rwa [Nat.mul_one,Nat.zero_add]at this
   have st:=does_store1 (tk:=[]) (ls:=[]) y hk (m:=U.length) (by omega)
   rw[List.set_set]at st
   have ih':=ih (q+1+1) (m+1) y (U++[y]) (C.set U.length y) (by omega) (by omega) (by simp[hC]) (by
    rw[List.length_append,List.length_singleton,List.take_add_one,List.getElem?_set_self (by omega),List.take_set_of_le (Nat.le_refl _),hU]
    rfl) (by
    rw[Nat.add_sub_cancel,List.drop_set_of_lt (by omega),hd1]) (by simp;omega)
   rw[List.append_assoc]at ih'
   have el:((U++[y]).length:Int)=((U.length+1:Nat):Int):=by simp
   rw[el]at ih'
   have inc:=inc_i (i:=U.length) (by omega)
   exact let ζ1:Heap:={boxes:=B0.set kk (List.map .str C),toks:=[],loops:=[]:Heap};let ζ2:Heap:={boxes:=B0.set kk (List.map .str (C.set U.length y)),toks:=[],loops:=[]:Heap};goG 90 _ hT (.len (rfl:lenA false (.msl kk k0 (n-k0) (1:Nat))=some (.int .i64 (↑(n-k0):Int)))<|.yes (decide_eq_true (p:=(↑(q+(1:Nat)):Int)<(↑(n-k0):Int)) (by omega))<|.idx (show idxA 1 (.msl kk k0 (n-k0) (1:Nat)) (.int .i64 (↑(q+(1:Nat)):Int))=some (.ptr kk (k0+(q+(1:Nat))))from i1)<|.effY (show Does cfg (.load false (1:Nat) (.c (.ptr kk (k0+(q+(1:Nat)))))) ζ1 (.str y) ζ1 from l1)<|.bin (show binA .sub (.int .i64 (↑(q+(1:Nat)):Int)) (.int .i64 1)=some (.int .i64 ↑q)from d1)<|.idx (show idxA 1 (.msl kk k0 (n-k0) (1:Nat)) (.int .i64 ↑q)=some (.ptr kk (k0+q))from i2)<|.effY (show Does cfg (.load false (1:Nat) (.c (.ptr kk (k0+q)))) ζ1 (.str prev) ζ1 from l2)<|.yes (show(!y==prev)=true from by have hh:¬((y==prev)=true):=(by simpa using e);simp[hh])<|.idx (show idxA 1 (.msl kk k0 (n-k0) (1:Nat)) (.int .i64 (↑(q+(1:Nat)):Int))=some (.ptr kk (k0+(q+(1:Nat))))from i1)<|.effY (show Does cfg (.load false (1:Nat) (.c (.ptr kk (k0+(q+(1:Nat)))))) ζ1 (.str y) ζ1 from l1)<|.idx (show idxA 1 (.msl kk (0:Nat) n (1:Nat)) (.int .i64 (↑U.length))=some (.ptr kk U.length)from i3)<|.effY (show Does cfg (.store (1:Nat) (.c (.ptr kk U.length)) (.c (.str y))) ζ1 .undef ζ2 from st)<|.bin (show binA .add (.int .i64 (↑U.length)) (.int .i64 1)=some (.int .i64 (↑(U.length+(1:Nat)):Int))from inc)<|.bin (show binA .add (.int .i64 (↑(q+(1:Nat)):Int)) (.int .i64 1)=some (.int .i64 (↑(q+(1:Nat)+(1:Nat)):Int))from inc_i (by omega))<|.cutQ k205_1 [(0,.msl kk (0:Nat) n (1:Nat)),(3,.int .i64 (↑(U.length+(1:Nat)):Int)),(4,.msl kk k0 (n-k0) (1:Nat)),(5,.int .i64 (↑(q+(1:Nat)+(1:Nat)):Int))] (ζ2) (fun T hT=>(ih' T hT))) (by kernel_rfl)
theorem compact_loop1(hn:n<9223372036854775807)(hk0:kk<B0.length):∀(post:List (List UInt8))(m:Nat)(prev:List UInt8)(C:List (List UInt8))(hm:1≤m)(hC:C.length=n)(hd:C.drop (m-1)=prev::post)(hu:uq C=C.take m++uqG prev post)(T:Env)
 (hT:Has T [(0,.msl kk 0 n 1),(3,.int .i64 m)]),
 Goes cfg a205 k205_0 T ⟨B0.set kk (C.map .str),[],[]⟩ (RetC kk n B0 (uq C)):=by
 intro post
 induction post with
 |nil=>
  intro m prev C hm hC hd hu T hT
  have hlen:n-(m-1)=1:=by
   have:=congrArg List.length hd
   simpa[hC]using this
  have c1:binA .lss (.int .i64 (m:Nat)) (.int .i64 (n:Nat))=some (.bool false):=lssF (by omega)
  have e:uq C=C:=by
   rw[hu,List.take_of_length_le (by omega)];simp[uqG]
  rw[e]
  exact goG 60 _ hT (.len (rfl:lenA false (.msl kk (0:Nat) n (1:Nat))=some (.int .i64 ↑n))<|.no (decide_eq_false (p:=(↑m:Int)<(↑n:Int)) (by omega))<|.fin ((.ret (.msl kk (0:Nat) n (1:Nat)),{boxes:=B0.set kk (List.map .str C),toks:=[],loops:=[]:Heap})) (by exact⟨n,C,rfl,List.take_of_length_le (by omega),by omega,hC⟩)) (by kernel_rfl)
 |cons y post ih=>
  intro m prev C hm hC hd hu T hT
  have hlen:n-(m-1)=post.length+2:=by
   have:=congrArg List.length hd
   simpa[hC]using this
  have hk:(B0.set kk (C.map AV.str))[kk]?=some (C.map .str):=by rw[List.getElem?_set_self hk0]
  have c1:binA .lss (.int .i64 (m:Nat)) (.int .i64 (n:Nat))=some (.bool true):=lssT (by omega)
  have hprev:C[m-1]?=some prev:=drop_at hd
  have hd1:C.drop m=y::post:=by
   have:=drop_next hd
   rwa [show m-1+1=m by omega]at this
  have hy:C[m]?=some y:=drop_at hd1
  obtain⟨q,rfl⟩:∃p,m=p+1:=⟨m-1,by omega⟩
  have i1:idxA 1 (.msl kk 0 n 1) (.int .i64 ((q+1:Nat):Int))=some (.ptr kk (q+1)):=by
   have:=idx_msl (k:=kk) (off:=0) (n:=n) (es:=1) (q:=.i64) (i:=q+1) (by omega)
   rwa [Nat.mul_one,Nat.zero_add]at this
  have i2:idxA 1 (.msl kk 0 n 1) (.int .i64 (q:Nat))=some (.ptr kk q):=by
   have:=idx_msl (k:=kk) (off:=0) (n:=n) (es:=1) (q:=.i64) (i:=q) (by omega)
   rwa [Nat.mul_one,Nat.zero_add]at this
  have l1:=does_load1 (tk:=[]) (ls:=[]) hk hy
  rw[Nat.add_sub_cancel]at hprev
  have l2:=does_load1 (tk:=[]) (ls:=[]) hk hprev
  have d1:=dec_i (i:=q) (by omega)
  by_cases e:y=prev
  ·have n1:binA .eql (.str y) (.str prev)=some (.bool true):=strEqT e
   have hg:uqG prev (y::post)=uqG prev post:=by simp[uqG,e]
   have s1:sliceA 1 (.msl kk 0 n 1) (some (.int .i64 ((q+1:Nat):Int))) none none=some (.msl kk (q+1) (n-(q+1)) 1):=by
    simp only[sliceA,sliceM,boundA]
    rw[if_neg (by omega)]
    rw[if_pos ⟨by omega,by omega⟩]
    simp only[Int.toNat_natCast]
    rw[if_pos (by omega)]
    simp
   have h2:=compact_loop2 kk n B0 hn hk0 (q+1) (by omega) post 1 (q+1+1) prev (C.take (q+1)) C rfl (by omega) hC (by simp[List.take_take]) (by rw[Nat.add_sub_cancel,hd1,e]) (by simp;omega)
   have el:((C.take (q+1)).length:Int)=((q+1:Nat):Int):=by
    rw[List.length_take,Nat.min_eq_left (by omega)]
   rw[el,←hg,←hu]at h2
   exact let ζ1:Heap:={boxes:=B0.set kk (List.map .str C),toks:=[],loops:=[]:Heap};goG 90 _ hT (.len (rfl:lenA false (.msl kk (0:Nat) n (1:Nat))=some (.int .i64 ↑n))<|.yes (decide_eq_true (p:=(↑(q+(1:Nat)):Int)<(↑n:Int)) (by omega))<|.idx (show idxA 1 (.msl kk (0:Nat) n (1:Nat)) (.int .i64 (↑(q+(1:Nat)):Int))=some (.ptr kk (q+(1:Nat)))from i1)<|.effY (show Does cfg (.load false (1:Nat) (.c (.ptr kk (q+(1:Nat))))) ζ1 (.str y) ζ1 from l1)<|.bin (show binA .sub (.int .i64 (↑(q+(1:Nat)):Int)) (.int .i64 1)=some (.int .i64 ↑q)from d1)<|.idx (show idxA 1 (.msl kk (0:Nat) n (1:Nat)) (.int .i64 ↑q)=some (.ptr kk q)from i2)<|.effY (show Does cfg (.load false (1:Nat) (.c (.ptr kk q))) ζ1 (.str prev) ζ1 from l2)<|.yes (show(y==prev)=true from(by simpa using e))<|.slice (show sliceA (1:Nat) (.msl kk (0:Nat) n (1:Nat)) (some (.int .i64 (↑(q+(1:Nat)):Int))) none none=some (.msl kk (q+(1:Nat)) (n-(q+(1:Nat))) (1:Nat))from s1)<|.cutQ k205_1 [(0,.msl kk (0:Nat) n (1:Nat)),(3,.int .i64 (↑(q+(1:Nat)):Int)),(4,.msl kk (q+(1:Nat)) (n-(q+(1:Nat))) (1:Nat)),(5,.int .i64 1)] (ζ1) (fun T hT=>(h2 T hT))) (by kernel_rfl)
  ·have n1:binA .eql (.str y) (.str prev)=some (.bool false):=strEqF e
   have hg:uqG prev (y::post)=y::uqG y post:=by simp[uqG,e]
   have ih':=ih (q+1+1) y C (by omega) hC (by rw[Nat.add_sub_cancel,hd1]) (by
    rw[hu,hg,List.take_add_one (i:=q+1),hy];simp)
   exact let ζ1:Heap:={boxes:=B0.set kk (List.map .str C),toks:=[],loops:=[]:Heap};goG 90 _ hT (.len (rfl:lenA false (.msl kk (0:Nat) n (1:Nat))=some (.int .i64 ↑n))<|.yes (decide_eq_true (p:=(↑(q+(1:Nat)):Int)<(↑n:Int)) (by omega))<|.idx (show idxA 1 (.msl kk (0:Nat) n (1:Nat)) (.int .i64 (↑(q+(1:Nat)):Int))=some (.ptr kk (q+(1:Nat)))from i1)<|.effY (show Does cfg (.load false (1:Nat) (.c (.ptr kk (q+(1:Nat))))) ζ1 (.str y) ζ1 from l1)<|.bin (show binA .sub (.int .i64 (↑(q+(1:Nat)):Int)) (.int .i64 1)=some (.int .i64 ↑q)from d1)<|.idx (show idxA 1 (.msl kk (0:Nat) n (1:Nat)) (.int .i64 ↑q)=some (.ptr kk q)from i2)<|.effY (show Does cfg (.load false (1:Nat) (.c (.ptr kk q))) ζ1 (.str prev) ζ1 from l2)<|.no (show(y==prev)=false from Bool.eq_false_iff.2 (by simpa using e))<|.bin (show binA .add (.int .i64 (↑(q+(1:Nat)):Int)) (.int .i64 1)=some (.int .i64 (↑(q+(1:Nat)+(1:Nat)):Int))from inc_i (by omega))<|.cutQ k205_0 [(0,.msl kk (0:Nat) n (1:Nat)),(3,.int .i64 (↑(q+(1:Nat)+(1:Nat)):Int))] (ζ1) (fun T hT=>(ih' T hT))) (by kernel_rfl)
theorem compact_any(hn:n<9223372036854775807)(hk0:kk<B0.length)(C:List (List UInt8))(hC:C.length=n)(h0:0<n):
 ∃(m:Nat)(C':List (List UInt8)),Does cfg (.callM (.c (.func 205 [])) [.c (.msl kk 0 n 1)]) ⟨B0.set kk (C.map .str),[],[]⟩ (.msl kk 0 m 1) ⟨B0.set kk (C'.map .str),[],[]⟩∧C'.take m=uq C∧m≤C'.length∧C'.length=n:=by
 have key:Goes cfg a205 [.c c205] (initEnv [.msl kk 0 n 1]) ⟨B0.set kk (C.map .str),[],[]⟩ (RetC kk n B0 (uq C)):=by
  by_cases h2:n<2
  ·obtain⟨x,rfl⟩:∃x,C=[x]:=by
    match C,hC with
    |[x],_=>exact⟨x,rfl⟩
    |[],h=>simp at h;omega
    |_::_::_,h=>simp at h;omega
   exact goG 60 [] trivial (.len (rfl:lenA false (.msl kk (0:Nat) n (1:Nat))=some (.int .i64 ↑n))<|.yes (decide_eq_true (p:=(↑n:Int)<(2:Int)) (by omega))<|.fin ((.ret (.msl kk (0:Nat) n (1:Nat)),{boxes:=B0.set kk (List.map .str [x]),toks:=[],loops:=[]:Heap})) (by exact⟨n,[x],rfl,by simp at hC;subst hC;rfl,by simpa using Nat.le_of_eq hC.symm,hC⟩)) (by kernel_rfl)
  ·obtain⟨x,l,rfl⟩:∃x l,C=x::l:=by
    cases C with
    |nil=>simp at hC;omega
    |cons x l=>exact⟨x,l,rfl⟩
   have h1:=compact_loop1 kk n B0 hn hk0 l 1 x (x::l) (by omega) hC rfl rfl
   exact goG 60 [] trivial (.len (rfl:lenA false (.msl kk (0:Nat) n (1:Nat))=some (.int .i64 ↑n))<|.no (decide_eq_false (p:=(↑n:Int)<(2:Int)) (by omega))<|.cutQ k205_0 [(0,.msl kk (0:Nat) n (1:Nat)),(3,.int .i64 1)] ({boxes:=B0.set kk (List.map .str (x::l)),toks:=[],loops:=[]:Heap}) (fun T hT=>(h1 T hT))) (by kernel_rfl)
 obtain⟨r,h,m,C',rfl,h1,h2,h3⟩:=key
 refine⟨m,C',?_,h1,h2,h3⟩
 have h':lim cfg (.fn 205) [.msl kk 0 n 1] ⟨B0.set kk (C.map .str),[],[]⟩=some (.ret (.msl kk 0 m 1),⟨B0.set kk (C'.map .str),[],[]⟩):=by rw[l205];exact h
 have hd:=does_callM (xs:=[.msl kk 0 n 1]) h' rfl rfl
 rwa [show shutA (.msl kk 0 m 1)=.msl kk 0 m 1 from rfl,trunc_len (by simp)]at hd
end
end Go.Aa.T
set_option linter.unusedVariables false
set_option linter.unusedSimpArgs false
set_option maxRecDepth 100000
namespace Go.Aa.T
open Go.Aa Go.Proofs
def encV(v:List Amount):AV:=.sl .sh (v.map encA)
def allNames(vs:List (List Amount)):List (List UInt8):=vs.flatMap fun v=>v.map Amount.name
theorem allNames_cons(v:List Amount)(vs:List (List Amount)):allNames (v::vs)=v.map Amount.name++allNames vs:=rfl
def rM(kk:Nat):List (List UInt8)→AV
 |[]=>.sl .full []
 |_::l=>.msl kk 0 (l.length+1) 1
theorem strsA_map:∀l:List (List UInt8),strsA (l.map .str)=some l
 |[]=>rfl
 |s::l=>by simp[strsA,strsA_map l]
theorem sort_does{kk:Nat}{B:List (List AV)}{l:List (List UInt8)}(hk:B[kk]?=some (l.map .str))(h0:0<l.length)(hb:l.length≤140737488355328):
 Does cfg (.callM (.c (.func 204 [])) [.c (.msl kk 0 l.length 1)]) ⟨B,[],[]⟩ (.tuple []) ⟨B.set kk ((isort l).map .str),[],[]⟩:=by
 have h:lim cfg (.fn 204) [.msl kk 0 l.length 1] ⟨B,[],[]⟩=some (.ret (.tuple []),⟨B.set kk ((isort l).map .str),[],[]⟩):=by
  rw[lim_ext (g:=sortE) rfl rfl]
  have e:sortE [.msl kk 0 l.length 1] ⟨B,[],[]⟩=some (.tuple [],⟨B.set kk ((isort l).map .str),[],[]⟩):=by
   simp only[sortE,hk]
   rw[if_pos ⟨trivial,trivial,h0,by simp,hb⟩,List.take_of_length_le (by simp),strsA_map,List.drop_eq_nil_of_le (by simp)]
   simp
  rw[e];rfl
 have hd:=does_callM (xs:=[.msl kk 0 l.length 1]) h rfl rfl
 rwa [show shutA (.tuple [])=.tuple []from rfl,trunc_len (by simp)]at hd
theorem does_data{g:FuncId}{xs:List AV}{v:AV}(h:Gives cfg g xs v)(zs:List AV)(hx:zs.map shutA=xs)(hd:xs.all isData=true)(h1:shutA v=v)(h2:isData v=true)(H:Heap):
 Does cfg (.call (.c (.func g [])) (zs.map .c)) H v H∧Does cfg (.callM (.c (.func g [])) (zs.map .c)) H v H:=by
 obtain⟨H',h⟩:=h.ret
 constructor<;>intro T
 ·have e:(zs.map Opd.c).map (fun x=>shutA (ev T x))=xs:=by rw[List.map_map];exact hx
  simp only[opStep,e]
  rw[show ev T (.c (.func g []))=.func g []from rfl]
  simp only[callV,hd,List.all_nil,Bool.and_self,if_true,List.append_nil,h,dataOut,h1,h2]
 ·have e:(zs.map Opd.c).map (fun x=>shutA (ev T x))=xs:=by rw[List.map_map];exact hx
  simp only[opStep,e]
  rw[show ev T (.c (.func g []))=.func g []from rfl]
  simp only[callW,hd,List.all_nil,Bool.and_self,if_true,List.append_nil,h,h1,h2]
theorem sort_none:Gives cfg 204 [.sl .sh []] (.tuple []):=by
 have h:lim cfg (.fn 204) [.sl .sh []] Heap.nil=some (.ret (.tuple []),Heap.nil):=by rw[lim_ext (g:=sortE) rfl rfl];rfl
 exact Gives.of h
theorem compact_none:Gives cfg 205 [.sl .sh []] (.sl .sh []):=by
 refine Gives.run (l205 _ _) ?_
 exact goG 60 [] trivial (.len (show lenA false (.sl .sh [])=some (.int .i64 (↑[].length:Int))from len_sl _ _)<|.tt<|.fin ((.ret (.sl .sh []),{boxes:=[],toks:=[],loops:=[]:Heap})) rfl) (by kernel_rfl)
def FinN(acc:List (List UInt8)):ARes×Heap→Prop:=IsOut (.sl .sh ((namesOf acc).map .str))
theorem names_end(vs:List (List Amount))(acc:List (List UInt8))(B:List (List AV))(kk:Nat)(hB:acc=[]∨B[kk]?=some (acc.map .str))(hl:acc.length≤100000)(T:Env)(i:Nat)(hi:vs.length≤i)
 (hT:Has T [(3,rM kk acc),(8,.sl .sh (vs.map encV)),(9,.int .i64 vs.length),(10,.int .i64 i)]):Goes cfg a193 k193_0 T ⟨B,[],[]⟩ (FinN acc):=by
 cases acc with
 |nil=>
  have h1:=(does_data sort_none [.sl .full []] rfl rfl rfl rfl ⟨B,[],[]⟩).2
  have h2:=(does_data compact_none [.sl .full []] rfl rfl rfl rfl ⟨B,[],[]⟩).2
  exact let ζ1:Heap:={boxes:=B,toks:=[],loops:=[]:Heap};goG 60 _ hT (.no (decide_eq_false (p:=(↑i:Int)<(↑vs.length:Int)) (by omega))<|.effY (show Does cfg (.callM (.c (.func (204:FuncId) [])) (List.map .c [.sl .full []])) ζ1 (.tuple []) ζ1 from h1)<|.effY (show Does cfg (.callM (.c (.func (205:FuncId) [])) (List.map .c [.sl .full []])) ζ1 (.sl .sh []) ζ1 from h2)<|.fin ((.ret (.sl .sh []),ζ1)) (by exact⟨_,rfl,rfl⟩)) (by kernel_rfl)
 |cons x l=>
  have hk:B[kk]?=some ((x::l).map .str):=by simpa using hB
  have h1:=sort_does hk (by simp) (by omega)
  have hkl:kk<B.length:=(List.getElem?_eq_some_iff.1 hk).1
  obtain⟨m,C,h2,h3,h4,h5⟩:=compact_any kk (x::l).length B (by omega) hkl (isort (x::l)) (isort_length _) (by simp)
  rw[List.length_cons]at h1 h2 h5
  have hout:dataOut ⟨B.set kk (C.map .str),[],[]⟩ (.msl kk 0 m 1)=some (.sl .sh ((namesOf (x::l)).map .str)):=by
   have:=out_box1 (bs:=B.set kk (C.map .str)) (tk:=[]) (ls:=[]) (kk:=kk) (n:=m) (List.getElem?_set_self hkl) (by simpa using h4) (strs_data C)
   rw[this,←List.map_take,h3];rfl
  exact let ζ1:Heap:={boxes:=B.set kk (List.map .str (isort (x::l))),toks:=[],loops:=[]:Heap};let ζ2:Heap:={boxes:=B.set kk (List.map .str C),toks:=[],loops:=[]:Heap};goG 60 _ hT (.no (decide_eq_false (p:=(↑i:Int)<(↑vs.length:Int)) (by omega))<|.effY (show Does cfg (.callM (.c (.func (204:FuncId) [])) [.c (.msl kk (0:Nat) (l.length+(1:Nat)) (1:Nat))]) {boxes:=B,toks:=[],loops:=[]:Heap} (.tuple []) ζ1 from h1)<|.effY (show Does cfg (.callM (.c (.func (205:FuncId) [])) [.c (.msl kk (0:Nat) (l.length+(1:Nat)) (1:Nat))]) ζ1 (.msl kk (0:Nat) m (1:Nat)) ζ2 from h2)<|.fin ((.ret (.msl kk (0:Nat) m (1:Nat)),ζ2)) (by exact⟨_,rfl,hout⟩)) (by kernel_rfl)
theorem names_outer(vs:List (List Amount))(hv:vs.length≤100)(hs:∀v∈vs,v.length≤100):∀(post:List (List Amount))(i:Nat)(hd:vs.drop i=post)(hi:i≤vs.length)(acc:List (List UInt8))(B:List (List AV))(kk:Nat)(hB:acc=[]∨B[kk]?=some (acc.map .str))(hl:acc.length≤100*i)(T:Env)
 (hT:Has T [(3,rM kk acc),(8,.sl .sh (vs.map encV)),(9,.int .i64 vs.length),(10,.int .i64 i)]),Goes cfg a193 k193_0 T ⟨B,[],[]⟩ (FinN (acc++allNames post)):=by
 intro post
 induction post with
 |nil=>
  intro i hd hi acc B kk hB hl T hT
  have hge:=drop_ge hd
  rw[show acc++allNames []=acc by simp[allNames]]
  exact names_end vs acc B kk hB (by omega) T i hge hT
 |cons v post ih=>
  intro i hd hi acc B kk hB hl T hT
  have hlt:=drop_lt hd
  have hnx:=drop_next hd
  have hvl:=hs v (drop_mem hd)
  have hix:idxA 1 (.sl .sh (vs.map encV)) (.int .i64 (i:Nat))=some (.ref [encV v]):=idx_row (f:=encV) hd rfl
  have inner:∀(ip:List Amount)(j:Nat)(hj:v.drop j=ip)(hj0:j≤v.length)(acc:List (List UInt8))(B:List (List AV))(kk:Nat)(hB:acc=[]∨B[kk]?=some (acc.map .str))(hl:acc.length≤100*i+j)(T:Env)
   (hT:Has T [(3,rM kk acc),(8,.sl .sh (vs.map encV)),(9,.int .i64 vs.length),(10,.int .i64 i),(14,encV v),(15,.int .i64 v.length),(16,.int .i64 j)]),Goes cfg a193 k193_1 T ⟨B,[],[]⟩ (FinN (acc++(ip.map Amount.name++allNames post))):=by
   intro ip
   induction ip with
   |nil=>
    intro j hj hj0 acc B kk hB hl T hT
    have hge:=drop_ge hj
    have ih':=ih (i+1) hnx hlt acc B kk hB (by omega)
    rw[List.map_nil,List.nil_append]
    exact goG 60 _ hT (.no (decide_eq_false (p:=(↑j:Int)<(↑v.length:Int)) (by omega))<|.bin (show binA .add (.int .i64 ↑i) (.int .i64 1)=some (.int .i64 (↑(i+1)))from inc_i (by omega))<|.cutQ k193_0 [(3,rM kk acc),(8,.sl .sh (vs.map encV)),(9,.int .i64 (↑vs.length)),(10,.int .i64 (↑(i+1)))] ({boxes:=B,toks:=[],loops:=[]:Heap}) (fun T hT=>(ih' T hT))) (by kernel_rfl)
   |cons x ip ihj=>
    intro j hj hj0 acc B kk hB hl T hT
    have hltj:=drop_lt hj
    have hnxj:=drop_next hj
    have hxi:idxA 2 (encV v) (.int .i64 (j:Nat))=some (.ref [.str x.name,.int .i64 x.n]):=idx_row (f:=encA) hj rfl
    have e:acc++((x::ip).map Amount.name++allNames post)=(acc++[x.name])++(ip.map Amount.name++allNames post):=by simp
    rw[e]
    cases acc with
    |nil=>
     have ap:=does_newB (es:=1) (b:=16) (B:=B++[(encA x).cells]) (tk:=[]) (ls:=[]) (v:=.str x.name) (sk:=.full) rfl rfl (by omega)
     have ih':=ihj (j+1) hnxj hltj [x.name] (B++[(encA x).cells]++[[AV.str x.name]]) (B++[(encA x).cells]).length (.inr (by simp)) (by simp;omega)
     exact let ζ1:Heap:={boxes:=B++[[AV.str x.name,.int .i64 x.n]],toks:=[],loops:=[]:Heap};goG 90 _ hT (.yes (decide_eq_true (p:=(↑j:Int)<(↑v.length:Int)) (by omega))<|.idx (show idxA 2 (.sl .sh (v.map encA)) (.int .i64 ↑j)=some (.ref [.str x.name,.int .i64 x.n])from hxi)<|.load (rfl:loadA true 2 {boxes:=B,toks:=[],loops:=[]:Heap} (.ref [.str x.name,.int .i64 x.n])=some (.agg [.str x.name,.int .i64 x.n]))<|.store (show storeA 2 {boxes:=B++[[AV.str [],.int .i64 0]],toks:=[],loops:=[]:Heap} (.ptr B.length (0:Nat)) (.agg [.str x.name,.int .i64 x.n])=some (ζ1)from store_box2 (cs:=[.str [],.int .i64 0]) (cs':=[.str x.name,.int .i64 x.n]) (by simp+zetaDelta) rfl (by simp+zetaDelta [List.set_append]))<|.load (show loadA false 1 ζ1 (.ptr B.length (0:Nat))=some (.str x.name)from load_box (cs:=[.str x.name,.int .i64 x.n]) (by simp+zetaDelta) rfl)<|.effY (show Does cfg (.appendM (1:Nat) (16:Nat) (.c (.sl .full [])) (.c (.sl .full [.str x.name]))) {boxes:=B++[(encA x).cells],toks:=[],loops:=[]:Heap} (.msl (B++[(encA x).cells]).length (0:Nat) (1:Nat) (1:Nat)) {boxes:=B++[(encA x).cells]++[(AV.str x.name).cells],toks:=[],loops:=[]:Heap}from ap)<|.bin (show binA .add (.int .i64 ↑j) (.int .i64 1)=some (.int .i64 (↑(j+(1:Nat)):Int))from inc_i (by omega))<|.cutQ k193_1 [(3,.msl (B++[[AV.str x.name,.int .i64 x.n]]).length (0:Nat) (1:Nat) (1:Nat)),(8,.sl .sh (vs.map encV)),(9,.int .i64 (↑vs.length)),(10,.int .i64 ↑i),(14,.sl .sh (v.map encA)),(15,.int .i64 (↑v.length)),(16,.int .i64 (↑(j+(1:Nat)):Int))] ({boxes:=B++[[AV.str x.name,.int .i64 x.n]]++[[AV.str x.name]],toks:=[],loops:=[]:Heap}) (fun T hT=>(ih' T hT))) (by kernel_rfl)
    |cons y l=>
     have hk:B[kk]?=some ((y::l).map .str):=by simpa using hB
     have hk2:(B++[(encA x).cells])[kk]?=some ((y::l).map .str):=by rw[List.getElem?_append_left (List.getElem?_eq_some_iff.1 hk).1,hk]
     have ap:=does_growB (es:=1) (b:=16) (n:=l.length+1) (tk:=[]) (ls:=[]) (v:=.str x.name) (sk:=.full) hk2 (by simp) (by omega) (strs_data _) rfl rfl (by simp at hl;omega)
     obtain⟨D,hD⟩:∃D,D=(y::l).map AV.str++(AV.str x.name).cells:=⟨_,rfl⟩
     rw[←hD]at ap
     have ih':=ihj (j+1) hnxj hltj ((y::l)++[x.name]) ((B++[(encA x).cells]).set kk []++[D]) (B++[(encA x).cells]).length (.inr (by
      rw[List.getElem?_append_right (by simp),hD];simp[AV.cells])) (by simp at hl⊢;omega)
     have er:rM (B++[(encA x).cells]).length ((y::l)++[x.name])=.msl (B++[(encA x).cells]).length 0 (l.length+1+1) 1:=by simp[rM]
     rw[er]at ih'
     exact let ζ1:Heap:={boxes:=(B++[(encA x).cells]).set kk []++[D],toks:=[],loops:=[]:Heap};let ζ2:Heap:={boxes:=B++[[AV.str x.name,.int .i64 x.n]],toks:=[],loops:=[]:Heap};goG 90 _ hT (.yes (decide_eq_true (p:=(↑j:Int)<(↑v.length:Int)) (by omega))<|.idx (show idxA 2 (.sl .sh (v.map encA)) (.int .i64 ↑j)=some (.ref [.str x.name,.int .i64 x.n])from hxi)<|.load (rfl:loadA true 2 {boxes:=B,toks:=[],loops:=[]:Heap} (.ref [.str x.name,.int .i64 x.n])=some (.agg [.str x.name,.int .i64 x.n]))<|.store (show storeA 2 {boxes:=B++[[AV.str [],.int .i64 0]],toks:=[],loops:=[]:Heap} (.ptr B.length (0:Nat)) (.agg [.str x.name,.int .i64 x.n])=some (ζ2)from store_box2 (cs:=[.str [],.int .i64 0]) (cs':=[.str x.name,.int .i64 x.n]) (by simp+zetaDelta) rfl (by simp+zetaDelta [List.set_append]))<|.load (show loadA false 1 ζ2 (.ptr B.length (0:Nat))=some (.str x.name)from load_box (cs:=[.str x.name,.int .i64 x.n]) (by simp+zetaDelta) rfl)<|.effY (show Does cfg (.appendM (1:Nat) (16:Nat) (.c (.msl kk (0:Nat) (l.length+(1:Nat)) (1:Nat))) (.c (.sl .full [.str x.name]))) {boxes:=B++[(encA x).cells],toks:=[],loops:=[]:Heap} (.msl (B++[(encA x).cells]).length (0:Nat) (l.length+(1:Nat)+(1:Nat)) (1:Nat)) ζ1 from ap)<|.bin (show binA .add (.int .i64 ↑j) (.int .i64 1)=some (.int .i64 (↑(j+(1:Nat)):Int))from inc_i (by omega))<|.cutQ k193_1 [(3,.msl (B++[[AV.str x.name,.int .i64 x.n]]).length (0:Nat) (l.length+(1:Nat)+(1:Nat)) (1:Nat)),(8,.sl .sh (vs.map encV)),(9,.int .i64 (↑vs.length)),(10,.int .i64 ↑i),(14,.sl .sh (v.map encA)),(15,.int .i64 (↑v.length)),(16,.int .i64 (↑(j+(1:Nat)):Int))] (ζ1) (fun T hT=>(ih' T hT))) (by kernel_rfl)
  have h2:=inner v 0 rfl (Nat.zero_le _) acc B kk hB (by omega)
  rw[allNames_cons]
  exact let ζ1:Heap:={boxes:=B,toks:=[],loops:=[]:Heap};goG 60 _ hT (.yes (decide_eq_true (p:=(↑i:Int)<(↑vs.length:Int)) (by omega))<|.idx (show idxA 1 (.sl .sh (vs.map encV)) (.int .i64 ↑i)=some (.ref [encV v])from hix)<|.load (rfl:loadA false 1 ζ1 (.ref [.sl .sh (v.map encA)])=some (.sl .sh (v.map encA)))<|.len (show lenA false (.sl .sh (v.map encA))=some (.int .i64 (↑v.length))from len_map _)<|.cutQ k193_1 [(3,rM kk acc),(8,.sl .sh (vs.map encV)),(9,.int .i64 (↑vs.length)),(10,.int .i64 ↑i),(14,.sl .sh (v.map encA)),(15,.int .i64 (↑v.length)),(16,.int .i64 0)] (ζ1) (fun T hT=>(h2 T hT))) (by kernel_rfl)
theorem names_any(vs:List (List Amount))(hv:vs.length≤100)(hs:∀v∈vs,v.length≤100):GivesF cfg 193 [.sl .sh (vs.map encV)] (.sl .sh ((namesOf (allNames vs)).map .str)):=by
 refine GivesF.run (l193 _ _) ?_
 have h:=names_outer vs hv hs vs 0 rfl (Nat.zero_le _) [] [] 0 (.inl rfl) (by simp)
 exact goG 60 [] trivial (.len (show lenA false (.sl .sh (vs.map encV))=some (.int .i64 (↑vs.length))from len_map _)<|.cutQ k193_0 [(3,.sl .full []),(8,.sl .sh (vs.map encV)),(9,.int .i64 (↑vs.length)),(10,.int .i64 0)] ({boxes:=[],toks:=[],loops:=[]:Heap}) (fun T hT=>(h T hT))) (by kernel_rfl)
end Go.Aa.T
set_option linter.unusedVariables false
set_option linter.unusedSimpArgs false
set_option maxRecDepth 100000
namespace Go.Aa.T
open Go.Aa Go.Proofs
theorem bl_eq(x y:List UInt8):Op.bytesLess x y=decide (x<y):=bytesLess_eq x y
theorem bl_irrefl(x:List UInt8):Op.bytesLess x x=false:=by rw[bl_eq];simp[List.lt_irrefl]
theorem bl_trans{x y z:List UInt8}(h1:Op.bytesLess x y=true)(h2:Op.bytesLess y z=true):Op.bytesLess x z=true:=by
 rw[bl_eq,decide_eq_true_eq]at h1 h2⊢
 exact List.lt_trans h1 h2
theorem bl_asym{x y:List UInt8}(h:Op.bytesLess x y=true):(Op.bytesLess y x||y==x)=false:=by
 rw[Bool.or_eq_false_iff]
 constructor
 ·cases h':Op.bytesLess y x with
  |false=>rfl
  |true=>have:=bl_trans h h';rw[bl_irrefl]at this;cases this
 ·rw[beq_eq_false_iff_ne]
  rintro rfl
  rw[bl_irrefl]at h;cases h
abbrev Rise(l:List (List UInt8)):Prop:=l.Pairwise fun x y=>Op.bytesLess x y=true
theorem rise_ext:∀{l m:List (List UInt8)},Rise l→Rise m→(∀x,x∈l↔x∈m)→l=m
 |[],[],_,_,_=>rfl
 |[],y::m,_,_,h=>absurd ((h y).2 (by simp)) (by simp)
 |x::l,[],_,_,h=>absurd ((h x).1 (by simp)) (by simp)
 |x::l,y::m,h1,h2,h=>by
  have a1:∀z,z∈l→Op.bytesLess x z=true:=fun z hz=>List.rel_of_pairwise_cons h1 hz
  have a2:∀z,z∈m→Op.bytesLess y z=true:=fun z hz=>List.rel_of_pairwise_cons h2 hz
  have e:x=y:=by
   rcases List.mem_cons.1 ((h x).1 (by simp))with e|hx
   ·exact e
   ·rcases List.mem_cons.1 ((h y).2 (by simp))with e|hy
    ·exact e.symm
    ·have:=bl_trans (a1 _ hy) (a2 _ hx)
     rw[bl_irrefl]at this;cases this
  subst e
  congr 1
  refine rise_ext (List.Pairwise.of_cons h1) (List.Pairwise.of_cons h2) fun z=> ?_
  have hz:=h z
  simp only[List.mem_cons]at hz
  constructor
  ·intro h3
   rcases hz.1 (.inr h3)with e|h4
   ·subst e;have:=a1 _ h3;rw[bl_irrefl]at this;cases this
   ·exact h4
  ·intro h3
   rcases hz.2 (.inr h3)with e|h4
   ·subst e;have:=a2 _ h3;rw[bl_irrefl]at this;cases this
   ·exact h4
theorem uqG_mem(x z:List UInt8):∀{l:List (List UInt8)},z∈uqG x l→z∈l
 |[],h=>by simp[uqG]at h
 |y::l,h=>by
  unfold uqG at h
  split at h
  ·exact List.mem_cons_of_mem _ (uqG_mem x z h)
  ·rcases List.mem_cons.1 h with rfl|h
   ·simp
   ·exact List.mem_cons_of_mem _ (uqG_mem y z h)
theorem uqG_mem2(z:List UInt8):∀{l:List (List UInt8)}{x:List UInt8},z∈l→z=x∨z∈uqG x l
 |[],x,h=>by simp at h
 |y::l,x,h=>by
  unfold uqG
  by_cases e:y=x
  ·rw[if_pos e]
   rcases List.mem_cons.1 h with rfl|h
   ·exact .inl e
   ·exact uqG_mem2 z h
  ·rw[if_neg e]
   rcases List.mem_cons.1 h with rfl|h
   ·exact .inr (by simp)
   ·rcases uqG_mem2 (x:=y) z h with h2|h2
    ·exact .inr (by simp[h2])
    ·exact .inr (by simp[h2])
theorem uq_mem{z:List UInt8}{l:List (List UInt8)}:z∈uq l↔z∈l:=by
 cases l with
 |nil=>simp[uq]
 |cons x l=>
  simp only[uq,List.mem_cons]
  constructor
  ·rintro(h|h)
   ·exact .inl h
   ·exact .inr (uqG_mem x z h)
  ·rintro(h|h)
   ·exact .inl h
   ·exact uqG_mem2 z h
theorem le_ne_bl{x y:List UInt8}(h:x≤y)(hn:y≠x):Op.bytesLess x y=true:=by
 rw[bl_eq,decide_eq_true_eq]
 by_cases h3:x<y
 ·exact h3
 ·exact absurd (List.le_antisymm (List.not_lt.1 h3) h) hn
theorem uqG_rise:∀{l:List (List UInt8)}{x:List UInt8},(x::l).Pairwise (·≤·)→Rise (x::uqG x l)
 |[],x,_=>by simp[uqG,Rise]
 |y::l,x,h=>by
  have h1:∀{z},z∈y::l→x≤z:=fun hz=>List.rel_of_pairwise_cons h hz
  have h2:=List.Pairwise.of_cons h
  unfold uqG
  by_cases e:y=x
  ·rw[if_pos e]
   refine uqG_rise ?_
   refine List.Pairwise.cons (fun z hz=>h1 (List.mem_cons_of_mem _ hz)) (List.Pairwise.of_cons h2)
  ·rw[if_neg e]
   have h3:=uqG_rise h2
   refine List.Pairwise.cons (fun z hz=> ?_) h3
   have hxy:=le_ne_bl (h1 (by simp)) e
   rcases List.mem_cons.1 hz with rfl|hz
   ·exact hxy
   ·exact bl_trans hxy (List.rel_of_pairwise_cons h3 hz)
theorem namesOf_rise(l:List (List UInt8)):Rise (namesOf l):=by
 unfold namesOf
 have h:=isort_sorted l
 cases hl:isort l with
 |nil=>simp[uq,Rise]
 |cons x m=>rw[hl]at h;exact uqG_rise h
theorem namesOf_mem{l:List (List UInt8)}{z:List UInt8}:z∈namesOf l↔z∈l:=by
 unfold namesOf
 rw[uq_mem,(isort_perm l).mem_iff]
theorem namesOf_eq{l m:List (List UInt8)}(hm:Rise m)(h:∀x,x∈l↔x∈m):namesOf l=m:=
 rise_ext (namesOf_rise l) hm fun x=>by rw[namesOf_mem,h]
abbrev nms(v:List Amount):List (List UInt8):=v.map Amount.name
def rowT(l:List (List UInt8)):AV:=rowS Heap.nil (l.map .str)
end Go.Aa.T
set_option linter.unusedVariables false
set_option linter.unusedSimpArgs false
set_option maxRecDepth 100000
namespace Go.Aa.T
open Go.Aa Go.Proofs
def stopV(e:Int):AV:=.iface 212 (.agg [.int .i64 e])
theorem stop_ok:Gives cfg 101 [.int .i64 0] (.tuple []):=by
 refine Gives.run (l101 _ _) ?_
 exact goG 60 [] trivial (.ff<|.fin ((.ret (.tuple []),{boxes:=[],toks:=[],loops:=[]:Heap})) rfl) (by kernel_rfl)
theorem stop_pan{e:Int}(h:¬e=0):Pans cfg 101 [.int .i64 e] (stopV e):=by
 refine Pans.run (l101 _ _) ?_
 exact goG 60 [] trivial (.op (.bin .neq (.c (.int .i64 e)) (.c (.int .i64 0))) (.bool true) (pure_step (fun _=>neqT (k:=.i64) h) fun _ _ _=>rfl)<|.tt<|.panicI 212 (.agg [.int .i64 e]) Heap.nil rfl) (by kernel_rfl)
def skF{X:Type}:List X→SK
 |[]=>.full
 |_::_=>.own 0
instance{X:Type}(l:List X)(xs:List AV):Shut (.sl (skF l) xs) (.sl .sh xs):=⟨by cases l<;>exact⟨rfl,rfl⟩⟩
section
variable{X:Type}(enc:X→AV)
def tkR(acc:List X):List Nat:=(rowH Heap.nil (acc.map enc)).toks
theorem tk_nil:tkR enc []=[]:=rfl
theorem tk_cons(x:X)(l:List X):tkR enc (x::l)=[l.length+1]:=by simp[tkR,rowH,Heap.nil]
def rowF(l:List X):AV:=.sl (skF l) (l.map enc)
instance(l:List X):Shut (rowF enc l) (.sl .sh (l.map enc)):=⟨by cases l<;>exact⟨rfl,rfl⟩⟩
theorem rowF_eq(l:List X):rowF enc l=rowS Heap.nil (l.map enc):=by cases l<;>rfl
theorem row_append_T{x:X}{es bytes:Nat}{bs:List (List AV)}{ls:List LRec}{ys:List X}(h:((ys.map enc).length+1)*bytes≤140737488355328)(hl:lenOk es (ys.map enc)=true)(hv:cellsN es (enc x)=true)(hd:dataOk [enc x]=true):
 appendA es bytes ⟨bs,tkR enc ys,ls⟩ (rowF enc ys) (.sl .full [enc x])=some (rowF enc (ys++[x]),⟨bs,tkR enc (ys++[x]),ls⟩):=by
 rw[rowF_eq,rowF_eq]
 have hh:=row_append_map (f:=enc) (x:=x) (H:=Heap.nil) h hl hv hd
 cases ys with
 |nil=>
  simp only[rowS,rowH,List.map_nil,List.nil_append,List.map_cons,tkR,Heap.nil]at hh⊢
  simp only[appendA]at hh⊢
  split at hh
  ·rename_i hc;rw[if_pos hc];rfl
  ·cases hh
 |cons y ys=>
  simp only[rowS,rowH,List.cons_append,List.map_cons,tkR,Heap.nil]at hh⊢
  simp only[appendA]at hh⊢
  split at hh
  ·rename_i hc
   rw[if_pos hc]
   split at hh
   ·rename_i hc2
    rw[if_pos hc2]
    simp only[Option.some.injEq,Prod.mk.injEq,Heap.mk.injEq,true_and,and_true]at hh⊢
    exact hh
   ·cases hh
  ·cases hh
end
end Go.Aa.T
set_option linter.unusedVariables false
set_option linter.unusedSimpArgs false
set_option maxRecDepth 100000
namespace Go.Aa.T
open Go.Aa Go.Proofs
abbrev OfQ:=List UInt8→Int×Int
def madeF(g:OfQ):List (List UInt8)→List Amount→List Amount×Int
 |[],acc=>(acc,0)
 |s::r,acc=>if(g s).2=0 then madeF g r (if 0<(g s).1 then acc++[⟨s,(g s).1⟩]else acc)else([],(g s).2)
def finV(p:List Amount×Int):List Amount×Int:=if p.2=0 then(if 8<p.1.length then([],4)else(p.1,0))else([],p.2)
def madeV(g:OfQ)(vs:List (List Amount)):List Amount×Int:=
 if firstE (vs.map ckV)=0 then finV (madeF g (namesOf (allNames vs)) [])else([],firstE (vs.map ckV))
theorem trunc_self{v:AV}{H:Heap}:trunc H.boxes.length H.toks.length v H=H:=by
 unfold trunc
 have e1:∀(b:Bool),(if b=true then H.boxes.take H.boxes.length else H.boxes)=H.boxes:=fun b=>by
  split
  ·exact List.take_of_length_le (Nat.le_refl _)
  ·rfl
 have e2:∀(b:Bool),(if b=true then H.toks.take H.toks.length else H.toks)=H.toks:=fun b=>by
  split
  ·exact List.take_of_length_le (Nat.le_refl _)
  ·rfl
 simp only[e1,e2]
theorem trunc_keep{v:AV}{bs:List (List AV)}{tk:List Nat}{nb nt:Nat}(h:bs.length=nb)(h2:bs.all (·.all (in2 bs.length nt))=false):trunc nb nt v ⟨bs,tk,[]⟩=⟨bs,tk,[]⟩:=by
 unfold trunc
 have e1:∀(b:Bool),(if b=true then bs.take nb else bs)=bs:=fun b=>by
  split
  ·exact List.take_of_length_le (by omega)
  ·rfl
 simp only[e1,h2,Bool.and_false,Bool.false_eq_true,if_false]
section
variable(g:OfQ)(f:FuncId)(x0 x1:AV)(vs:List (List Amount))
def hMd(acc:List Amount):Heap:=⟨[[x0],[x1],[.func f [.ptr 0 0,.ptr 1 0]],[.sl .sh (vs.map encV)],[rowF encA acc]],tkR encA acc,[]⟩
def MadeR(p:List Amount×Int)(r:ARes×Heap):Prop:=(p.2=0∧r=(.ret (.tuple []),hMd f x0 x1 vs p.1))∨(p.2≠0∧r.1=.pan (stopV p.2))
theorem made_loop2(hof:∀s(B:List (List AV))(tk:List Nat),Does cfg (.call (.c (.func f [.ptr 0 0,.ptr 1 0])) [.c (.str s)]) ⟨[x0]::[x1]::B,tk,[]⟩ (.tuple [.int .i64 (g s).1,.int .i64 (g s).2]) ⟨[x0]::[x1]::B,tk,[]⟩)
 (ns:List (List UInt8))(hns:ns.length≤100000):∀(post:List (List UInt8))(i:Nat)(hd:ns.drop i=post)(acc:List Amount)(ha:acc.length≤i)(T:Env)
 (hT:Has T [(2,.ptr 4 0),(1,.ptr 2 0),(20,.sl .sh (ns.map .str)),(21,.int .i64 ns.length),(22,.int .i64 i)]),
 Goes cfg a192 k192_1 T (hMd f x0 x1 vs acc) (MadeR f x0 x1 vs (finV (madeF g post acc))):=by
 intro post
 induction post with
 |nil=>
  intro i hd acc ha T hT
  have hge:=drop_ge hd
  have hs:Pans cfg 101 [.int .i64 4] (stopV 4):=stop_pan (by decide)
  have e:madeF g [] acc=(acc,0):=rfl
  rw[e]
  by_cases h8:8<acc.length
  ·have e:finV (acc,0)=([],4):=by simp[finV,h8]
   rw[e]
   exact goG 90 _ hT (.no (decide_eq_false (p:=(↑i:Int)<(↑ns.length:Int)) (by omega))<|.len (show lenA false (.sl (skF acc) (acc.map encA))=some (.int .i64 (↑acc.length))from len_map _)<|.yes (decide_eq_true (p:=(8:Int)<(↑acc.length:Int)) (by omega))<|.callP ([.int .i64 4]) ({boxes:=[[x0],[x1],[.func f [.ptr 0 0,.ptr 1 0]],[.sl .sh (vs.map encV)],[.sl (skF acc) (acc.map encA)]],toks:=tkR encA acc,loops:=[]:Heap}) (show Pans cfg (101:FuncId) [.int .i64 4] (stopV (4:Int))from hs) ⟨rfl,rfl⟩ rfl (by exact .inr ⟨by decide,rfl⟩)) (by kernel_rfl)
  ·have e:finV (acc,0)=(acc,0):=by simp[finV,h8]
   rw[e]
   exact goG 90 _ hT (.no (decide_eq_false (p:=(↑i:Int)<(↑ns.length:Int)) (by omega))<|.len (show lenA false (.sl (skF acc) (acc.map encA))=some (.int .i64 (↑acc.length))from len_map _)<|.no (decide_eq_false (p:=(8:Int)<(↑acc.length:Int)) (by omega))<|.fin ((.ret (.tuple []),{boxes:=[[x0],[x1],[.func f [.ptr 0 0,.ptr 1 0]],[.sl .sh (vs.map encV)],[.sl (skF acc) (acc.map encA)]],toks:=tkR encA acc,loops:=[]:Heap})) (by exact .inl ⟨rfl,rfl⟩)) (by kernel_rfl)
 |cons s post ih=>
  intro i hd acc ha T hT
  have hlt:=drop_lt hd
  have hnx:=drop_next hd
  have hx:idxA 1 (.sl .sh (ns.map .str)) (.int .i64 (i:Nat))=some (.ref [.str s]):=idx_row (f:=AV.str) hd rfl
  have hf:=hof s
  have e:madeF g (s::post) acc=if(g s).2=0 then madeF g post (if 0<(g s).1 then acc++[⟨s,(g s).1⟩]else acc)else([],(g s).2):=rfl
  rw[e]
  by_cases h0:(g s).2=0
  ·rw[if_pos h0]
   rw[h0]at hf
   by_cases hp:0<(g s).1
   ·rw[if_pos hp]
    have ih':=ih (i+1) hnx (acc++[⟨s,(g s).1⟩]) (by simp;omega)
    generalize(g s).1=n at hf hp ih'⊢
    have ap:∀bs ls,appendA 2 24 ⟨bs,tkR encA acc,ls⟩ (rowF encA acc) (.sl .full [.agg [.str s,.int .i64 n]])=some (rowF encA (acc++[⟨s,n⟩]),⟨bs,tkR encA (acc++[⟨s,n⟩]),ls⟩):=fun bs ls=>
     row_append_T encA (x:=⟨s,n⟩) (by simp;omega) lenA2 rfl rfl
    exact let ζ1:Heap:={boxes:=[[x0],[x1],[.func f [.ptr 0 0,.ptr 1 0]],[.sl .sh (vs.map encV)],[.sl (skF acc) (acc.map encA)]],toks:=tkR encA acc,loops:=[]:Heap};goG 120 _ hT (.yes (decide_eq_true (p:=(↑i:Int)<(↑ns.length:Int)) (by omega))<|.idx (show idxA 1 (.sl .sh (List.map .str ns)) (.int .i64 ↑i)=some (.ref [.str s])from hx)<|.effY (show Does cfg (.call (.c (.func f [.ptr 0 0,.ptr 1 0])) [.c (.str s)]) ζ1 (.tuple [.int .i64 n,.int .i64 0]) ζ1 from hf _ _)<|.callK ([.int .i64 0]) (.tuple []) (show Gives cfg (101:FuncId) [.int .i64 0] (.tuple [])from stop_ok)<|.yes (decide_eq_true (p:=(0:Int)<n) (by exact hp))<|.append (show appendA (2:Nat) (24:Nat) ζ1 (.sl (skF acc) (acc.map encA)) (.sl .full [.agg [.str s,.int .i64 n]])=some ((rowF encA (acc++[{name:=s,n:=n:Amount}]),{boxes:=[[x0],[x1],[.func f [.ptr 0 0,.ptr 1 0]],[.sl .sh (vs.map encV)],[.sl (skF acc) (acc.map encA)]],toks:=tkR encA (acc++[{name:=s,n:=n:Amount}]),loops:=[]:Heap}))from ap _ _)<|.bin (show binA .add (.int .i64 ↑i) (.int .i64 1)=some (.int .i64 (↑(i+1)))from inc_i (by omega))<|.cutQ k192_1 [(2,.ptr 4 0),(1,.ptr 2 0),(20,.sl .sh (List.map .str ns)),(21,.int .i64 (↑ns.length)),(22,.int .i64 (↑(i+1)))] ({boxes:=[[x0],[x1],[.func f [.ptr 0 0,.ptr 1 0]],[.sl .sh (vs.map encV)],[.sl (skF (acc++[{name:=s,n:=n:Amount}])) (List.map encA (acc++[{name:=s,n:=n:Amount}]))]],toks:=tkR encA (acc++[{name:=s,n:=n:Amount}]),loops:=[]:Heap}) (fun T hT=>(ih' T hT))) (by kernel_rfl)
   ·rw[if_neg hp]
    have ih':=ih (i+1) hnx acc (by omega)
    generalize(g s).1=n at hf hp ih'⊢
    exact let ζ1:Heap:={boxes:=[[x0],[x1],[.func f [.ptr 0 0,.ptr 1 0]],[.sl .sh (vs.map encV)],[.sl (skF acc) (acc.map encA)]],toks:=tkR encA acc,loops:=[]:Heap};goG 120 _ hT (.yes (decide_eq_true (p:=(↑i:Int)<(↑ns.length:Int)) (by omega))<|.idx (show idxA 1 (.sl .sh (List.map .str ns)) (.int .i64 ↑i)=some (.ref [.str s])from hx)<|.effY (show Does cfg (.call (.c (.func f [.ptr 0 0,.ptr 1 0])) [.c (.str s)]) ζ1 (.tuple [.int .i64 n,.int .i64 0]) ζ1 from hf _ _)<|.callK ([.int .i64 0]) (.tuple []) (show Gives cfg (101:FuncId) [.int .i64 0] (.tuple [])from stop_ok)<|.no (decide_eq_false (p:=(0:Int)<n) (by exact hp))<|.bin (show binA .add (.int .i64 ↑i) (.int .i64 1)=some (.int .i64 (↑(i+1)))from inc_i (by omega))<|.cutQ k192_1 [(2,.ptr 4 0),(1,.ptr 2 0),(20,.sl .sh (List.map .str ns)),(21,.int .i64 (↑ns.length)),(22,.int .i64 (↑(i+1)))] (ζ1) (fun T hT=>(ih' T hT))) (by kernel_rfl)
  ·rw[if_neg h0]
   have hst:=stop_pan h0
   have e:finV ([],(g s).2)=([],(g s).2):=by simp[finV,h0]
   rw[e]
   generalize(g s).2=e at hf h0 hst⊢
   exact let ζ1:Heap:={boxes:=[[x0],[x1],[.func f [.ptr 0 0,.ptr 1 0]],[.sl .sh (vs.map encV)],[.sl (skF acc) (acc.map encA)]],toks:=tkR encA acc,loops:=[]:Heap};goG 120 _ hT (.yes (decide_eq_true (p:=(↑i:Int)<(↑ns.length:Int)) (by omega))<|.idx (show idxA 1 (.sl .sh (List.map .str ns)) (.int .i64 ↑i)=some (.ref [.str s])from hx)<|.effY (show Does cfg (.call (.c (.func f [.ptr 0 0,.ptr 1 0])) [.c (.str s)]) ζ1 (.tuple [.int .i64 (g s).fst,.int .i64 e]) ζ1 from hf _ _)<|.callP ([.int .i64 e]) (ζ1) (show Pans cfg (101:FuncId) [.int .i64 e] (stopV e)from hst) ⟨rfl,rfl⟩ rfl (by exact .inr ⟨h0,rfl⟩)) (by kernel_rfl)
theorem made_loop1(hof:∀s(B:List (List AV))(tk:List Nat),Does cfg (.call (.c (.func f [.ptr 0 0,.ptr 1 0])) [.c (.str s)]) ⟨[x0]::[x1]::B,tk,[]⟩ (.tuple [.int .i64 (g s).1,.int .i64 (g s).2]) ⟨[x0]::[x1]::B,tk,[]⟩)
 (hv:vs.length≤100):∀(post:List (List Amount))(i:Nat)(hd:vs.drop i=post)(hp:∀v∈vs.take i,ckV v=0)(T:Env)
 (hT:Has T [(0,.ptr 3 0),(1,.ptr 2 0),(2,.ptr 4 0),(9,.sl .sh (vs.map encV)),(10,.int .i64 vs.length),(11,.int .i64 i)]),
 Goes cfg a192 k192_0 T (hMd f x0 x1 vs []) (MadeR f x0 x1 vs (if firstE (post.map ckV)=0 then finV (madeF g (namesOf (allNames vs)) [])else([],firstE (post.map ckV)))):=by
 intro post
 induction post with
 |nil=>
  intro i hd hp T hT
  have hge:=drop_ge hd
  have hall:∀v∈vs,v.length≤100:=fun v hm=>by
   have:=hp v (by rw[List.take_of_length_le hge];exact hm)
   unfold ckV at this
   split at this
   ·omega
   ·cases this
  have hn:=names_any vs hv hall
  have hnl:(namesOf (allNames vs)).length≤10000:=by
   have h1:(namesOf (allNames vs)).length≤(allNames vs).length:=by
    unfold namesOf
    exact Nat.le_trans (uq_len _) (Nat.le_of_eq (isort_length _))
   have h2:∀(l:List (List Amount)),(∀v∈l,v.length≤100)→(allNames l).length≤100*l.length:=by
    intro l
    induction l with
    |nil=>intro _;simp[allNames]
    |cons v l ih=>
     intro h
     have:=ih fun w hw=>h w (by simp[hw])
     have h3:=h v (by simp)
     rw[allNames_cons,List.length_append,List.length_map,List.length_cons]
     omega
   have:=h2 vs hall
   omega
  have hn:=does_callF (xs:=[.sl .sh (vs.map encV)]) hn rfl rfl (hMd f x0 x1 vs [])
  have h2:=made_loop2 g f x0 x1 vs hof (namesOf (allNames vs)) (by omega) (namesOf (allNames vs)) 0 rfl [] (by simp)
  have e:(if firstE (([]:List (List Amount)).map ckV)=0 then finV (madeF g (namesOf (allNames vs)) [])else([],firstE (([]:List (List Amount)).map ckV)))=finV (madeF g (namesOf (allNames vs)) []):=rfl
  rw[e]
  generalize namesOf (allNames vs)=ns at hn h2 hnl⊢
  exact goG 90 _ hT (.no (decide_eq_false (p:=(↑i:Int)<(↑vs.length:Int)) (by omega))<|.effY (show Does cfg (.call (.c (.func (193:FuncId) [])) (List.map .c [.sl .sh (vs.map encV)])) (hMd f x0 x1 vs []) (.sl .sh (List.map .str ns)) (hMd f x0 x1 vs [])from hn)<|.len (show lenA false (.sl .sh (List.map .str ns))=some (.int .i64 (↑ns.length))from len_map _)<|.cutQ k192_1 [(2,.ptr 4 0),(1,.ptr 2 0),(20,.sl .sh (List.map .str ns)),(21,.int .i64 (↑ns.length)),(22,.int .i64 0)] ({boxes:=[[x0],[x1],[.func f [.ptr 0 0,.ptr 1 0]],[.sl .sh (vs.map encV)],[.sl .full []]],toks:=[],loops:=[]:Heap}) (fun T hT=>(h2 T hT))) (by kernel_rfl)
 |cons v post ih=>
  intro i hd hp T hT
  have hlt:=drop_lt hd
  have hnx:=drop_next hd
  have hx:idxA 1 (.sl .sh (vs.map encV)) (.int .i64 (i:Nat))=some (.ref [encV v]):=idx_row (f:=encV) hd rfl
  have hc:=ckV_any v
  by_cases h0:ckV v=0
  ·have e:firstE ((v::post).map ckV)=firstE (post.map ckV):=by simp[firstE,h0]
   rw[e]
   rw[h0]at hc
   have ih':=ih (i+1) hnx (fun w hw=>by
    rw[drop_take hd,List.mem_append]at hw
    rcases hw with hw|hw
    ·exact hp w hw
    ·rw[List.mem_singleton.1 hw];exact h0)
   exact goG 90 _ hT (.yes (decide_eq_true (p:=(↑i:Int)<(↑vs.length:Int)) (by omega))<|.idx (show idxA 1 (.sl .sh (vs.map encV)) (.int .i64 ↑i)=some (.ref [encV v])from hx)<|.callK ([.sl .sh (v.map encA)]) (.int .i64 0) (show Gives cfg (139:FuncId) [.sl .sh (v.map encA)] (.int .i64 0)from hc)<|.callK ([.int .i64 0]) (.tuple []) (show Gives cfg (101:FuncId) [.int .i64 0] (.tuple [])from stop_ok)<|.bin (show binA .add (.int .i64 ↑i) (.int .i64 1)=some (.int .i64 (↑(i+1)))from inc_i (by omega))<|.cutQ k192_0 [(0,.ptr 3 0),(1,.ptr 2 0),(2,.ptr 4 0),(9,.sl .sh (vs.map encV)),(10,.int .i64 (↑vs.length)),(11,.int .i64 (↑(i+1)))] ({boxes:=[[x0],[x1],[.func f [.ptr 0 0,.ptr 1 0]],[.sl .sh (vs.map encV)],[.sl .full []]],toks:=[],loops:=[]:Heap}) (fun T hT=>(ih' T hT))) (by kernel_rfl)
  ·have e:firstE ((v::post).map ckV)=ckV v:=by simp[firstE,h0]
   rw[e,if_neg h0]
   have hst:=stop_pan h0
   generalize ckV v=c at hc h0 hst⊢
   exact goG 90 _ hT (.yes (decide_eq_true (p:=(↑i:Int)<(↑vs.length:Int)) (by omega))<|.idx (show idxA 1 (.sl .sh (vs.map encV)) (.int .i64 ↑i)=some (.ref [encV v])from hx)<|.callK ([.sl .sh (v.map encA)]) (.int .i64 c) (show Gives cfg (139:FuncId) [.sl .sh (v.map encA)] (.int .i64 c)from hc)<|.callP ([.int .i64 c]) ({boxes:=[[x0],[x1],[.func f [.ptr 0 0,.ptr 1 0]],[.sl .sh (vs.map encV)],[.sl .full []]],toks:=[],loops:=[]:Heap}) (show Pans cfg (101:FuncId) [.int .i64 c] (stopV c)from hst) ⟨rfl,rfl⟩ rfl (by exact .inr ⟨h0,rfl⟩)) (by kernel_rfl)
theorem made_any(hof:∀s(B:List (List AV))(tk:List Nat),Does cfg (.call (.c (.func f [.ptr 0 0,.ptr 1 0])) [.c (.str s)]) ⟨[x0]::[x1]::B,tk,[]⟩ (.tuple [.int .i64 (g s).1,.int .i64 (g s).2]) ⟨[x0]::[x1]::B,tk,[]⟩)
 (hv:vs.length≤100)(hx:data0 x0=true∧data0 x1=true):∃H',Does cfg (.call (.c (.func 127 [])) [.c (.func f [.ptr 0 0,.ptr 1 0]),.c (.sl .sh (vs.map encV))]) ⟨[[x0],[x1]],[],[]⟩ (.tuple [.sl .sh ((madeV g vs).1.map encA),.int .i64 (madeV g vs).2]) H':=by
 have h1:=made_loop1 g f x0 x1 vs hof hv vs 0 rfl (by simp)
 have key:Goes cfg a192 [.c c192] (initEnv [.ptr 3 0,.ptr 2 0,.ptr 4 0]) (hMd f x0 x1 vs []) (MadeR f x0 x1 vs (madeV g vs)):=by
  exact goG 60 [] trivial (.len (show lenA false (.sl .sh (vs.map encV))=some (.int .i64 (↑vs.length))from len_map _)<|.cutQ k192_0 [(0,.ptr 3 0),(1,.ptr 2 0),(2,.ptr 4 0),(9,.sl .sh (vs.map encV)),(10,.int .i64 (↑vs.length)),(11,.int .i64 0)] ({boxes:=[[x0],[x1],[.func f [.ptr 0 0,.ptr 1 0]],[.sl .sh (vs.map encV)],[.sl .full []]],toks:=[],loops:=[]:Heap}) (fun T hT=>(h1 T hT))) (by kernel_rfl)
 obtain⟨⟨a,H1⟩,hr,hR⟩:=key
 have hin:∀nb nt,in2 nb nt x0=true∧in2 nb nt x1=true:=fun nb nt=>⟨in2_data0 hx.1,in2_data0 hx.2⟩
 rcases hR with⟨he,hR⟩|⟨he,hR⟩
 ·simp only[Prod.mk.injEq]at hR
  obtain⟨rfl,rfl⟩:=hR
  have ht:lim cfg (.fn 77) [.func 192 [.ptr 3 0,.ptr 2 0,.ptr 4 0]] (hMd f x0 x1 vs [])=some (.ret (.int .i64 0),hMd f x0 x1 vs (madeV g vs).1):=by
   rw[lim_try rfl,l192,hr];rfl
  have hd:Does cfg (.call (.c (.func 77 [])) [.c (.func 192 [.ptr 3 0,.ptr 2 0,.ptr 4 0])]) (hMd f x0 x1 vs []) (.int .i64 0) (hMd f x0 x1 vs (madeV g vs).1):=by
   have hd:=does_callE (xs:=[.func 192 [.ptr 3 0,.ptr 2 0,.ptr 4 0]]) (caps:=[]) ht rfl rfl
   refine Eq.mp ?_ hd
   congr 1
   generalize(madeV g vs).1=l
   show trunc 5 0 (.int .i64 0) ⟨[[x0],[x1],[.func f [.ptr 0 0,.ptr 1 0]],[.sl .sh (vs.map encV)],[rowF encA l]],tkR encA l,[]⟩=_
   cases l with
   |nil=>exact trunc_len (by rfl)
   |cons y l=>
    rw[tk_cons]
    refine(trunc_keep (by rfl) ?_).trans ?_
    ·simp[rowF,skF,in2,in1,in0]
    ·rw[←tk_cons encA y l];rfl
  rw[he]
  generalize(madeV g vs).1=l at hd⊢
  have k2:Goes cfg a127 [.c c127] (initEnv [.func f [.ptr 0 0,.ptr 1 0],.sl .sh (vs.map encV)]) ⟨[[x0],[x1]],[],[]⟩ (fun r=>r.1=.ret (.tuple [rowF encA l,.int .i64 0])):=by
   exact goG 60 [] trivial (.effY (show Does cfg (.call (.c (.func (77:FuncId) [])) [.c (.func (192:FuncId) [.ptr 3 0,.ptr 2 0,.ptr 4 0])]) (hMd f x0 x1 vs []) (.int .i64 0) (hMd f x0 x1 vs l)from hd)<|.ff<|.fin ((.ret (.tuple [.sl (skF l) (l.map encA),.int .i64 0]),{boxes:=[[x0],[x1],[.func f [.ptr 0 0,.ptr 1 0]],[.sl .sh (vs.map encV)],[.sl (skF l) (l.map encA)]],toks:=tkR encA l,loops:=[]:Heap})) rfl) (by kernel_rfl)
  obtain⟨⟨a,H2⟩,h2,h3⟩:=k2
  simp only at h3
  subst h3
  have h4:lim cfg (.fn 127) ([.func f [.ptr 0 0,.ptr 1 0],.sl .sh (vs.map encV)]++[]) ⟨[[x0],[x1]],[],[]⟩=some (.ret (.tuple [rowF encA l,.int .i64 0]),H2):=by
   rw[List.append_nil,l127];exact h2
  have hd2:=does_callE h4 rfl rfl
  have es:shutA (.tuple [rowF encA l,.int .i64 0])=.tuple [.sl .sh (l.map encA),.int .i64 0]:=by cases l<;>rfl
  rw[es]at hd2
  exact⟨_,hd2⟩
 ·simp only at hR
  subst hR
  have ht:lim cfg (.fn 77) [.func 192 [.ptr 3 0,.ptr 2 0,.ptr 4 0]] (hMd f x0 x1 vs [])=some (.ret (.int .i64 (madeV g vs).2),H1):=by
   rw[lim_try rfl,l192,hr];rfl
  have hd:=does_callE (xs:=[.func 192 [.ptr 3 0,.ptr 2 0,.ptr 4 0]]) (caps:=[]) ht rfl rfl
  generalize trunc _ _ _ H1=H2 at hd
  have e0:(madeV g vs).1=[]:=by
   unfold madeV at he⊢
   split
   ·rename_i h;rw[if_pos h]at he
    unfold finV at he⊢
    split
    ·rename_i h2;rw[if_pos h2]at he
     split
     ·rfl
     ·rename_i h3;rw[if_neg h3]at he;exact absurd rfl he
    ·rfl
   ·rfl
  rw[e0]
  generalize(madeV g vs).2=c at hd he⊢
  have k2:Goes cfg a127 [.c c127] (initEnv [.func f [.ptr 0 0,.ptr 1 0],.sl .sh (vs.map encV)]) ⟨[[x0],[x1]],[],[]⟩ (fun r=>r.1=.ret (.tuple [.sl .full [],.int .i64 c])):=by
   exact goG 60 [] trivial (.effY (show Does cfg (.call (.c (.func (77:FuncId) [])) (List.map .c [.func (192:FuncId) [.ptr 3 0,.ptr 2 0,.ptr 4 0]])) (hMd f x0 x1 vs []) (shutA (.int .i64 c)) H2 from hd)<|.yes (show(c !=(0:Int))=true from(by simpa using he))<|.fin ((.ret (.tuple [.sl .full [],.int .i64 c]),H2)) rfl) (by kernel_rfl)
  obtain⟨⟨a,H3⟩,h2,h3⟩:=k2
  simp only at h3
  subst h3
  have h4:lim cfg (.fn 127) ([.func f [.ptr 0 0,.ptr 1 0],.sl .sh (vs.map encV)]++[]) ⟨[[x0],[x1]],[],[]⟩=some (.ret (.tuple [.sl .full [],.int .i64 c]),H3):=by
   rw[List.append_nil,l127];exact h2
  have hd2:=does_callE h4 rfl rfl
  exact⟨_,hd2⟩
end
theorem add_of(a b:List Amount)(ha:a.length<9223372036854775807)(hb:b.length<9223372036854775807)(ra:∀s,inI (getQ a s))(rb:∀s,inI (getQ b s))(s:List UInt8)(B:List (List AV))(tk:List Nat):
 Does cfg (.call (.c (.func 128 [.ptr 0 0,.ptr 1 0])) [.c (.str s)]) ⟨[encV a]::[encV b]::B,tk,[]⟩ (.tuple [.int .i64 (addQ (getQ a s) (getQ b s)).1,.int .i64 (addQ (getQ a s) (getQ b s)).2]) ⟨[encV a]::[encV b]::B,tk,[]⟩:=by
 have g1:=getQ_any a s ha
 have g2:=getQ_any b s hb
 have g3:=qadd_any _ _ (ra s) (rb s)
 generalize getQ a s=p at g1 g3⊢
 generalize getQ b s=q at g2 g3⊢
 generalize addQ p q=z at g3⊢
 have key:Goes cfg a128 [.c c128] (initEnv [.str s,.ptr 0 0,.ptr 1 0]) ⟨[encV a]::[encV b]::B,tk,[]⟩ (fun r=>r=(.ret (.tuple [.int .i64 z.1,.int .i64 z.2]),⟨[encV a]::[encV b]::B,tk,[]⟩)):=by
  exact let ζ1:Heap:={boxes:=[.sl .sh (a.map encA)]::[.sl .sh (b.map encA)]::B,toks:=tk,loops:=[]:Heap};let ζ2:List AV:=[.int .i64 z.fst,.int .i64 z.snd];let ζ3:List AV:=[.sl .sh (a.map encA),.str s];let ζ4:List AV:=[.sl .sh (b.map encA),.str s];goG 60 [] trivial (.load (show loadA false 1 ζ1 (.ptr 0 0)=some (.sl .sh (a.map encA))from load_box (cs:=[.sl .sh (a.map encA)]) (by simp+zetaDelta) rfl)<|.callK (ζ3) (.int .i64 p) (show Gives cfg (57:FuncId) ζ3 (.int .i64 p)from g1)<|.load (show loadA false 1 ζ1 (.ptr 1 0)=some (.sl .sh (b.map encA))from load_box (cs:=[.sl .sh (b.map encA)]) (by simp+zetaDelta) rfl)<|.callK (ζ4) (.int .i64 q) (show Gives cfg (57:FuncId) ζ4 (.int .i64 q)from g2)<|.callK ([.int .i64 p,.int .i64 q]) (.tuple ζ2) (show Gives cfg (129:FuncId) [.int .i64 p,.int .i64 q] (.tuple ζ2)from g3)<|.fin ((.ret (.tuple ζ2),ζ1)) rfl) (by kernel_rfl)
 obtain⟨r,h,rfl⟩:=key
 have h2:lim cfg (.fn 128) ([.str s]++[.ptr 0 0,.ptr 1 0]) ⟨[encV a]::[encV b]::B,tk,[]⟩=some (.ret (.tuple [.int .i64 z.1,.int .i64 z.2]),⟨[encV a]::[encV b]::B,tk,[]⟩):=by
  rw[show([AV.str s]++[.ptr 0 0,.ptr 1 0])=[.str s,.ptr 0 0,.ptr 1 0]from rfl,l128];exact h
 have hd:=does_callE h2 rfl rfl
 rwa [trunc_self]at hd
def rgA(v:List Amount):Prop:=∀x∈v,inI x.n
theorem rg_get{v:List Amount}(h:rgA v)(s:List UInt8):inI (getQ v s):=by
 unfold getQ
 split
 ·rename_i x hx;exact h x (List.mem_of_find?_eq_some hx)
 ·unfold inI;omega
def addV(a b:List Amount):List Amount×Int:=madeV (fun s=>addQ (getQ a s) (getQ b s)) [a,b]
theorem addV_any(a b:List Amount)(ha:a.length<9223372036854775807)(hb:b.length<9223372036854775807)(ra:rgA a)(rb:rgA b):
 Gives cfg 52 [.sl .sh (a.map encA),.sl .sh (b.map encA)] (.tuple [.sl .sh ((addV a b).1.map encA),.int .i64 (addV a b).2]):=by
 refine Gives.run (l52 _ _) ?_
 obtain⟨H',h⟩:=made_any (fun s=>addQ (getQ a s) (getQ b s)) 128 (encV a) (encV b) [a,b] (add_of a b ha hb (rg_get ra) (rg_get rb)) (by simp) ⟨rfl,rfl⟩
 have h2:Does cfg (.call (.c (.func 127 [])) [.c (.func 128 [.ptr 0 0,.ptr 1 0]),.c (.sl .sh [.sl .sh (a.map encA),.sl .sh (b.map encA)])]) ⟨[[.sl .sh (a.map encA)],[.sl .sh (b.map encA)]],[],[]⟩ (.tuple [.sl .sh ((addV a b).1.map encA),.int .i64 (addV a b).2]) H':=h
 have h3:Does cfg (.call (.c (.func 127 [])) [.c (.func 128 [.ptr 0 0,.ptr 1 0]),.c (.sl .full [.sl .sh (a.map encA),.sl .sh (b.map encA)])]) ⟨[[.sl .sh (a.map encA)],[.sl .sh (b.map encA)]],[],[]⟩ (.tuple [.sl .sh ((addV a b).1.map encA),.int .i64 (addV a b).2]) H':=fun T=>h2 T
 generalize addV a b=z at h3⊢
 exact let ζ1:List AV:=[.sl .sh (z.fst.map encA),.int .i64 z.snd];goG 60 [] trivial (.effY (show Does cfg (.call (.c (.func (127:FuncId) [])) [.c (.func (128:FuncId) [.ptr 0 0,.ptr 1 0]),.c (.sl .full [.sl .sh (a.map encA),.sl .sh (b.map encA)])]) {boxes:=[[.sl .sh (a.map encA)],[.sl .sh (b.map encA)]],toks:=[],loops:=[]:Heap} (.tuple ζ1) H' from h3)<|.fin ((.ret (.tuple ζ1),H')) rfl) (by kernel_rfl)
end Go.Aa.T
set_option linter.unusedVariables false
set_option linter.unusedSimpArgs false
set_option maxRecDepth 100000
namespace Go.Aa.T
open Go.Aa Go.Proofs
structure Pod where
 name:List UInt8
 owner:List UInt8
 prio:Int
 need:List Amount
 labels:List Pair
 sel:List Term
 tols:List Tol
 key:List UInt8
 most:Int
 node:List UInt8
 hold:Bool
def encPd(p:Pod):AV:=.agg [.str p.name,.str p.owner,.int .i64 p.prio,.sl .sh (p.need.map encA),.sl .sh (p.labels.map encP),.sl .sh (p.sel.map encM),.sl .sh (p.tols.map encL),.str p.key,.int .i64 p.most,.str p.node,.bool p.hold]
def maybeE(s:List UInt8):Int:=if s=[]then 0 else if isName s then 0 else 3
def withinE(n lo hi:Int):Int:=if n<lo then 1 else if hi<n then 1 else 0
def prioE(p:Pod):Int:=if p.hold then withinE p.prio (-1) (-1)else withinE p.prio 0 1000000
def mostE(p:Pod):Int:=if p.key=[]then withinE p.most 0 0 else withinE p.most 1 128
def ckPd(p:Pod):Int:=firstE [if isName p.name then 0 else 3,maybeE p.owner,prioE p,ckV p.need,ckS p.labels,ckM p.sel,ckL p.tols,maybeE p.key,mostE p,maybeE p.node]
structure PodOk(p:Pod):Prop where
 name:isName p.name=true
 owner:p.owner=[]∨isName p.owner=true
 prio: -1≤p.prio∧p.prio≤1000000
 hold:p.hold=decide (p.prio= -1)
 need:ckV p.need=0
 labels:ckS p.labels=0
 sel:ckM p.sel=0
 tols:ckL p.tols=0
 key:p.key=[]∨isName p.key=true
 most:0≤p.most∧p.most≤128∧(p.key=[]↔p.most=0)
 node:p.node=[]∨isName p.node=true
end Go.Aa.T
set_option linter.unusedVariables false
set_option linter.unusedSimpArgs false
set_option maxRecDepth 100000
namespace Go.Aa.T
open Go.Aa Go.Proofs
instance(n:Pod):Dat (encPd n):=⟨rfl,rfl⟩
def fewPd(p:Pod):Bool:=decide (p.name.length≤50)&&(decide (p.owner.length≤50)&&(decide (p.key.length≤50)&&(decide (p.node.length≤50)&&(fewA p.need&&(fewP p.labels&&(fewM p.sel&&fewL p.tols))))))
structure FewPod(p:Pod):Prop where
 name:p.name.length≤50
 owner:p.owner.length≤50
 key:p.key.length≤50
 node:p.node.length≤50
 need:p.need.length≤20
 labels:p.labels.length≤20
 sel:p.sel.length≤20
 tols:p.tols.length≤20
 fneed:fewA p.need=true
 flabels:fewP p.labels=true
 fsel:fewM p.sel=true
 ftols:fewL p.tols=true
theorem maybe_any(s:List UInt8):Gives cfg 137 [.str s] (.int .i64 (maybeE s)):=by
 refine Gives.run (l137 _ _) ?_
 exact let ζ1:Heap:={boxes:=[],toks:=[],loops:=[]:Heap};goG 60 [] trivial (.split ((s==[])=true) (fun h1=>.yes (show(s==[])=true from h1)<|.fin ((.ret (.int .i64 0),ζ1)) (by simp only[IsRet];grind[maybeE])) (fun h1=>.no (show(s==[])=false from Bool.eq_false_iff.2 h1)<|.callK ([.str s]) (.int .i64 (if isName s=true then(0:Int)else(3:Int))) (show Gives cfg (136:FuncId) [.str s] (.int .i64 (if isName s=true then(0:Int)else(3:Int)))from named_any _)<|.fin ((.ret (.int .i64 (if isName s=true then(0:Int)else(3:Int))),ζ1)) (by simp only[IsRet];grind[maybeE]))) (by kernel_rfl)
theorem within_any(n lo hi:Int):Gives cfg 197 [.int .i64 n,.int .i64 lo,.int .i64 hi] (.int .i64 (withinE n lo hi)):=by
 refine Gives.run (l197 _ _) ?_
 exact let ζ1:Heap:={boxes:=[],toks:=[],loops:=[]:Heap};goG 60 [] trivial (.split (n<lo) (fun h1=>.yes (decide_eq_true (p:=n<lo) h1)<|.tt<|.fin ((.ret (.int .i64 1),ζ1)) (by simp only[IsRet];grind[withinE])) (fun h1=>.no (decide_eq_false (p:=n<lo) h1)<|.split (hi<n) (fun h2=>.yes (decide_eq_true (p:=hi<n) h2)<|.fin ((.ret (.int .i64 1),ζ1)) (by simp only[IsRet];grind[withinE])) (fun h2=>.no (decide_eq_false (p:=hi<n) h2)<|.fin ((.ret (.int .i64 0),ζ1)) (by simp only[IsRet];grind[withinE])))) (by kernel_rfl)
theorem prio_any(p:Pod):Gives cfg 138 [encPd p] (.int .i64 (prioE p)):=by
 refine Gives.run (l138 _ _) ?_
 exact let ζ1:Heap:={boxes:=[[.str p.name,.str p.owner,.int .i64 p.prio,.sl .sh (p.need.map encA),.sl .sh (p.labels.map encP),.sl .sh (p.sel.map encM),.sl .sh (p.tols.map encL),.str p.key,.int .i64 p.most,.str p.node,.bool p.hold]],toks:=[],loops:=[]:Heap};let ζ2:List AV:=[.int .i64 p.prio,.int .i64 (-1:Int),.int .i64 (-1:Int)];let ζ3:List AV:=[.int .i64 p.prio,.int .i64 0,.int .i64 1000000];goG 60 [] trivial (.split (p.hold=true) (fun h1=>.yes (show(p.hold)=true from h1)<|.callK (ζ2) (.int .i64 (withinE p.prio (-1:Int) (-1:Int))) (show Gives cfg (197:FuncId) ζ2 (.int .i64 (withinE p.prio (-1:Int) (-1:Int)))from within_any _ _ _)<|.fin ((.ret (.int .i64 (withinE p.prio (-1:Int) (-1:Int))),ζ1)) (by simp only[IsRet];grind[prioE])) (fun h1=>.no (show(p.hold)=false from Bool.eq_false_iff.2 h1)<|.callK (ζ3) (.int .i64 (withinE p.prio (0:Int) (1000000:Int))) (show Gives cfg (197:FuncId) ζ3 (.int .i64 (withinE p.prio (0:Int) (1000000:Int)))from within_any _ _ _)<|.fin ((.ret (.int .i64 (withinE p.prio (0:Int) (1000000:Int))),ζ1)) (by simp only[IsRet];grind[prioE]))) (by kernel_rfl)
theorem most_any(p:Pod):Gives cfg 143 [encPd p] (.int .i64 (mostE p)):=by
 refine Gives.run (l143 _ _) ?_
 exact let ζ1:Heap:={boxes:=[[.str p.name,.str p.owner,.int .i64 p.prio,.sl .sh (p.need.map encA),.sl .sh (p.labels.map encP),.sl .sh (p.sel.map encM),.sl .sh (p.tols.map encL),.str p.key,.int .i64 p.most,.str p.node,.bool p.hold]],toks:=[],loops:=[]:Heap};let ζ2:List AV:=[.int .i64 p.most,.int .i64 1,.int .i64 128];let ζ3:List AV:=[.int .i64 p.most,.int .i64 0,.int .i64 0];goG 60 [] trivial (.split ((p.key==[])=true) (fun h1=>.yes (show(p.key==[])=true from h1)<|.callK (ζ3) (.int .i64 (withinE p.most (0:Int) (0:Int))) (show Gives cfg (197:FuncId) ζ3 (.int .i64 (withinE p.most (0:Int) (0:Int)))from within_any _ _ _)<|.fin ((.ret (.int .i64 (withinE p.most (0:Int) (0:Int))),ζ1)) (by simp only[IsRet];grind[mostE])) (fun h1=>.no (show(p.key==[])=false from Bool.eq_false_iff.2 h1)<|.callK (ζ2) (.int .i64 (withinE p.most (1:Int) (128:Int))) (show Gives cfg (197:FuncId) ζ2 (.int .i64 (withinE p.most (1:Int) (128:Int)))from within_any _ _ _)<|.fin ((.ret (.int .i64 (withinE p.most (1:Int) (128:Int))),ζ1)) (by simp only[IsRet];grind[mostE]))) (by kernel_rfl)
theorem first10(a b c d e f g h i j:Int):Gives cfg 135 [.sl .sh [.int .i64 a,.int .i64 b,.int .i64 c,.int .i64 d,.int .i64 e,.int .i64 f,.int .i64 g,.int .i64 h,.int .i64 i,.int .i64 j]] (.int .i64 (firstE [a,b,c,d,e,f,g,h,i,j])):=first_any [a,b,c,d,e,f,g,h,i,j] (by simp)
theorem ckPd_any(p:Pod):Gives cfg 59 [encPd p] (.int .i64 (ckPd p)):=by
 refine Gives.run (l59 _ _) ?_
 exact let ζ1:List AV:=[.str p.name,.str p.owner,.int .i64 p.prio,.sl .sh (p.need.map encA),.sl .sh (p.labels.map encP),.sl .sh (p.sel.map encM),.sl .sh (p.tols.map encL),.str p.key,.int .i64 p.most,.str p.node,.bool p.hold];let ζ2:List AV:=[.int .i64 (if isName p.name=true then(0:Int)else(3:Int)),.int .i64 (maybeE p.owner),.int .i64 (prioE p),.int .i64 (ckV p.need),.int .i64 (ckS p.labels),.int .i64 (ckM p.sel),.int .i64 (ckL p.tols),.int .i64 (maybeE p.key),.int .i64 (mostE p),.int .i64 (maybeE p.node)];goG 90 [] trivial (.callK ([.str p.name]) (.int .i64 (if isName p.name=true then(0:Int)else(3:Int))) (show Gives cfg (136:FuncId) [.str p.name] (.int .i64 (if isName p.name=true then(0:Int)else(3:Int)))from named_any _)<|.callK ([.str p.owner]) (.int .i64 (maybeE p.owner)) (show Gives cfg (137:FuncId) [.str p.owner] (.int .i64 (maybeE p.owner))from maybe_any _)<|.callK ([.agg ζ1]) (.int .i64 (prioE p)) (show Gives cfg (138:FuncId) [encPd p] (.int .i64 (prioE p))from prio_any _)<|.callK ([.sl .sh (p.need.map encA)]) (.int .i64 (ckV p.need)) (show Gives cfg (139:FuncId) [.sl .sh (p.need.map encA)] (.int .i64 (ckV p.need))from ckV_any _)<|.callK ([.sl .sh (p.labels.map encP)]) (.int .i64 (ckS p.labels)) (show Gives cfg (140:FuncId) [.sl .sh (p.labels.map encP)] (.int .i64 (ckS p.labels))from ckS_any _)<|.callK ([.sl .sh (p.sel.map encM)]) (.int .i64 (ckM p.sel)) (show Gives cfg (141:FuncId) [.sl .sh (p.sel.map encM)] (.int .i64 (ckM p.sel))from ckM_any _)<|.callK ([.sl .sh (p.tols.map encL)]) (.int .i64 (ckL p.tols)) (show Gives cfg (142:FuncId) [.sl .sh (p.tols.map encL)] (.int .i64 (ckL p.tols))from ckL2 _)<|.callK ([.str p.key]) (.int .i64 (maybeE p.key)) (show Gives cfg (137:FuncId) [.str p.key] (.int .i64 (maybeE p.key))from maybe_any _)<|.callK ([.agg ζ1]) (.int .i64 (mostE p)) (show Gives cfg (143:FuncId) [encPd p] (.int .i64 (mostE p))from most_any _)<|.callK ([.str p.node]) (.int .i64 (maybeE p.node)) (show Gives cfg (137:FuncId) [.str p.node] (.int .i64 (maybeE p.node))from maybe_any _)<|.callK ([.sl .full ζ2]) (.int .i64 (firstE [if isName p.name=true then(0:Int)else(3:Int),maybeE p.owner,prioE p,ckV p.need,ckS p.labels,ckM p.sel,ckL p.tols,maybeE p.key,mostE p,maybeE p.node])) (show Gives cfg (135:FuncId) [.sl .sh ζ2] (.int .i64 (firstE [if isName p.name=true then(0:Int)else(3:Int),maybeE p.owner,prioE p,ckV p.need,ckS p.labels,ckM p.sel,ckL p.tols,maybeE p.key,mostE p,maybeE p.node]))from first10 _ _ _ _ _ _ _ _ _ _)<|.fin ((.ret (.int .i64 (firstE [if isName p.name=true then(0:Int)else(3:Int),maybeE p.owner,prioE p,ckV p.need,ckS p.labels,ckM p.sel,ckL p.tols,maybeE p.key,mostE p,maybeE p.node])),{boxes:=[ζ1],toks:=[],loops:=[]:Heap})) rfl) (by kernel_rfl)
theorem ckPds_name(x:Pod):Gives cfg 173 [encPd x] (.str (Pod.name x)):=by
 refine Gives.run (l173 _ _) ?_
 exact goG 60 [] trivial (.fin ((.ret (.str x.name),{boxes:=[[.str x.name,.str x.owner,.int .i64 x.prio,.sl .sh (x.need.map encA),.sl .sh (x.labels.map encP),.sl .sh (x.sel.map encM),.sl .sh (x.tols.map encL),.str x.key,.int .i64 x.most,.str x.node,.bool x.hold]],toks:=[],loops:=[]:Heap})) rfl) (by kernel_rfl)
theorem ckPds_loop(l:List Pod)(hn:l.length≤128):∀(post:List Pod)(i:Nat)(bs:List (List AV))(hd:l.drop i=post)(T:Env)(hT:Has T [(0,.sl .sh (l.map encPd)),(2,.func 173 []),(3,.func 59 []),(16,.sl .sh (l.map encPd)),(17,.int .i64 l.length),(18,.int .i64 i)]),
 Goes cfg a172 k172_0 T ⟨bs,[],[]⟩ (IsRet (.int .i64 (ckAl ckPd Pod.name l i post))):=by
 intro post
 induction post with
 |nil=>
  intro i bs hd T hT
  have hge:=drop_ge hd
  exact goG 60 _ hT (.no (decide_eq_false (p:=(↑i:Int)<(↑l.length:Int)) (by omega))<|.fin ((.ret (.int .i64 0),{boxes:=bs,toks:=[],loops:=[]:Heap})) rfl) (by kernel_rfl)
 |cons x post ih=>
  intro i bs hd T hT
  have hlt:=drop_lt hd
  have hnx:=drop_next hd
  have hc:=ckPd_any x
  have e:ckAl ckPd Pod.name l i (x::post)=if ckPd x=0 then(if ordG Pod.name l i x then 13 else ckAl ckPd Pod.name l (i+1) post)else ckPd x:=rfl
  rw[e]
  generalize ckPd x=c at hc⊢
  cases i with
  |zero=>exact let ζ1:List AV:=[.str x.name,.str x.owner,.int .i64 x.prio,.sl .sh (x.need.map encA),.sl .sh (x.labels.map encP),.sl .sh (x.sel.map encM),.sl .sh (x.tols.map encL),.str x.key,.int .i64 x.most,.str x.node,.bool x.hold];let ζ2:Heap:={boxes:=bs++[ζ1],toks:=[],loops:=[]:Heap};let ζ3:List AV:=[.str [],.str [],.int .i64 0,.sl .full [],.sl .full [],.sl .full [],.sl .full [],.str [],.int .i64 0,.str [],.bool false];goG 60 _ hT (.yes (decide_eq_true (p:=(↑(0:Nat):Int)<(↑l.length:Int)) (by omega))<|.idx (show idxA 11 (.sl .sh (l.map encPd)) (.int .i64 (↑(0:Nat):Int))=some (.ref (encPd x).cells)from idx_row hd (by rfl))<|.load (rfl:loadA true 11 {boxes:=bs,toks:=[],loops:=[]:Heap} (.ref ζ1)=some (.agg ζ1))<|.store (show storeA 11 {boxes:=bs++[ζ3],toks:=[],loops:=[]:Heap} (.ptr bs.length (0:Nat)) (.agg ζ1)=some (ζ2)from store_box2 (cs:=ζ3) (cs':=ζ1) (by simp+zetaDelta) rfl (by simp+zetaDelta [List.set_append]))<|.load (show loadA true 11 ζ2 (.ptr bs.length (0:Nat))=some (.agg ζ1)from load_box (cs:=ζ1) (by simp+zetaDelta) rfl)<|.callK ([.agg ζ1]) (.int .i64 c) (show Gives cfg (59:FuncId) [encPd x] (.int .i64 c)from hc)<|.split ((c !=(0:Int))=true) (fun h1=>.yes (show(c !=(0:Int))=true from h1)<|.fin ((.ret (.int .i64 c),ζ2)) (by simp only[IsRet];grind[ordG])) (fun h1=>.no (show(c !=(0:Int))=false from Bool.eq_false_iff.2 h1)<|.ff<|.ff<|.bin (show binA .add (.int .i64 (↑(0:Nat):Int)) (.int .i64 1)=some (.int .i64 (↑((0:Nat)+(1:Nat)):Int))from inc_i (by omega))<|.cutQ k172_0 [(0,.sl .sh (l.map encPd)),(2,.func (173:Nat) []),(3,.func (59:Nat) []),(16,.sl .sh (l.map encPd)),(17,.int .i64 (↑l.length)),(18,.int .i64 (↑((0:Nat)+(1:Nat)):Int))] (ζ2) (fun T hT=>(ih ((0:Nat)+(1:Nat)) (bs++[ζ1]) hnx T hT).to (by grind[ordG])))) (by kernel_rfl)
  |succ j=>
   obtain⟨p,hp⟩:∃p,l[j]?=some p:=⟨l[j],List.getElem?_eq_getElem (by omega)⟩
   exact let ζ1:List AV:=[.str x.name,.str x.owner,.int .i64 x.prio,.sl .sh (x.need.map encA),.sl .sh (x.labels.map encP),.sl .sh (x.sel.map encM),.sl .sh (x.tols.map encL),.str x.key,.int .i64 x.most,.str x.node,.bool x.hold];let ζ2:List AV:=[.str p.name,.str p.owner,.int .i64 p.prio,.sl .sh (p.need.map encA),.sl .sh (p.labels.map encP),.sl .sh (p.sel.map encM),.sl .sh (p.tols.map encL),.str p.key,.int .i64 p.most,.str p.node,.bool p.hold];let ζ3:Heap:={boxes:=bs++[ζ1],toks:=[],loops:=[]:Heap};let ζ4:List AV:=[.str [],.str [],.int .i64 0,.sl .full [],.sl .full [],.sl .full [],.sl .full [],.str [],.int .i64 0,.str [],.bool false];goG 60 _ hT (.yes (decide_eq_true (p:=(↑(j+(1:Nat)):Int)<(↑l.length:Int)) (by omega))<|.idx (show idxA 11 (.sl .sh (l.map encPd)) (.int .i64 (↑(j+(1:Nat)):Int))=some (.ref (encPd x).cells)from idx_row hd (by rfl))<|.load (rfl:loadA true 11 {boxes:=bs,toks:=[],loops:=[]:Heap} (.ref ζ1)=some (.agg ζ1))<|.store (show storeA 11 {boxes:=bs++[ζ4],toks:=[],loops:=[]:Heap} (.ptr bs.length (0:Nat)) (.agg ζ1)=some (ζ3)from store_box2 (cs:=ζ4) (cs':=ζ1) (by simp+zetaDelta) rfl (by simp+zetaDelta [List.set_append]))<|.load (show loadA true 11 ζ3 (.ptr bs.length (0:Nat))=some (.agg ζ1)from load_box (cs:=ζ1) (by simp+zetaDelta) rfl)<|.callK ([.agg ζ1]) (.int .i64 c) (show Gives cfg (59:FuncId) [encPd x] (.int .i64 c)from hc)<|.split ((c !=(0:Int))=true) (fun h1=>.yes (show(c !=(0:Int))=true from h1)<|.fin ((.ret (.int .i64 c),ζ3)) (by simp only[IsRet];grind[ordG])) (fun h1=>.no (show(c !=(0:Int))=false from Bool.eq_false_iff.2 h1)<|.yes (decide_eq_true (p:=(0:Int)<(↑(j+(1:Nat)):Int)) (by omega))<|.load (show loadA true 11 ζ3 (.ptr bs.length (0:Nat))=some (.agg ζ1)from load_box (cs:=ζ1) (by simp+zetaDelta) rfl)<|.callK ([.agg ζ1]) (.str x.name) (show Gives cfg (173:FuncId) [encPd x] (.str x.name)from ckPds_name _)<|.bin (show binA .sub (.int .i64 (↑(j+(1:Nat)):Int)) (.int .i64 1)=some (.int .i64 ↑j)from dec_i (by omega))<|.idx (show idxA 11 (.sl .sh (l.map encPd)) (.int .i64 ↑j)=some (.ref (encPd p).cells)from idx_get hp (by rfl))<|.load (rfl:loadA true 11 ζ3 (.ref ζ2)=some (.agg ζ2))<|.callK ([.agg ζ2]) (.str p.name) (show Gives cfg (173:FuncId) [encPd p] (.str p.name)from ckPds_name _)<|.split ((Op.bytesLess x.name p.name||x.name==p.name)=true) (fun h2=>.yes (show(Op.bytesLess x.name p.name||x.name==p.name)=true from h2)<|.fin ((.ret (.int .i64 13),ζ3)) (by simp only[IsRet];grind[ordG])) (fun h2=>.no (show(Op.bytesLess x.name p.name||x.name==p.name)=false from Bool.eq_false_iff.2 h2)<|.bin (show binA .add (.int .i64 (↑(j+(1:Nat)):Int)) (.int .i64 1)=some (.int .i64 (↑(j+(1:Nat)+(1:Nat)):Int))from inc_i (by omega))<|.cutQ k172_0 [(0,.sl .sh (l.map encPd)),(2,.func (173:Nat) []),(3,.func (59:Nat) []),(16,.sl .sh (l.map encPd)),(17,.int .i64 (↑l.length)),(18,.int .i64 (↑(j+(1:Nat)+(1:Nat)):Int))] (ζ3) (fun T hT=>(ih (j+(1:Nat)+(1:Nat)) (bs++[ζ1]) hnx T hT).to (by grind[ordG]))))) (by kernel_rfl)
theorem ckPds_rows(l:List Pod):Gives cfg 172 [.sl .sh (l.map encPd),.int .i64 128,.func 173 [],.func 59 []] (.int .i64 (ckAll 128 ckPd Pod.name l)):=by
 refine Gives.run (l172 _ _) ?_
 have h:=fun hn=>ckPds_loop l hn l 0 [] rfl
 exact let ζ1:Heap:={boxes:=[],toks:=[],loops:=[]:Heap};goG 60 [] trivial (.len (show lenA false (.sl .sh (l.map encPd))=some (.int .i64 (↑l.length))from len_map _)<|.split ((128:Int)<(↑l.length:Int)) (fun h1=>.yes (decide_eq_true (p:=(128:Int)<(↑l.length:Int)) h1)<|.fin ((.ret (.int .i64 4),ζ1)) (by simp only[IsRet];grind[ckAll])) (fun h1=>.no (decide_eq_false (p:=(128:Int)<(↑l.length:Int)) h1)<|.len (show lenA false (.sl .sh (l.map encPd))=some (.int .i64 (↑l.length))from len_map _)<|.cutQ k172_0 [(0,.sl .sh (l.map encPd)),(2,.func (173:Nat) []),(3,.func (59:Nat) []),(16,.sl .sh (l.map encPd)),(17,.int .i64 (↑l.length)),(18,.int .i64 0)] (ζ1) (fun T hT=>(h (by omega) T hT).to (by grind[ckAll])))) (by kernel_rfl)
theorem ckPds_any(l:List Pod):Gives cfg 103 [.sl .sh (l.map encPd)] (.int .i64 (ckAll 128 ckPd Pod.name l)):=by
 refine Gives.run (l103 _ _) ?_
 have h:=ckPds_rows l
 exact goG 60 [] trivial (.callK ([.sl .sh (l.map encPd),.int .i64 128,.func (173:Nat) [],.func (59:Nat) []]) (.int .i64 (ckAll (128:Nat) ckPd Pod.name l)) (show Gives cfg (172:FuncId) [.sl .sh (l.map encPd),.int .i64 128,.func (173:FuncId) [],.func (59:FuncId) []] (.int .i64 (ckAll (128:Nat) ckPd Pod.name l))from h)<|.fin ((.ret (.int .i64 (ckAll (128:Nat) ckPd Pod.name l)),{boxes:=[],toks:=[],loops:=[]:Heap})) rfl) (by kernel_rfl)
end Go.Aa.T
set_option linter.unusedVariables false
set_option linter.unusedSimpArgs false
set_option maxRecDepth 100000
namespace Go.Aa.T
open Go.Aa Go.Proofs
structure Bud where
 name:List UInt8
 sel:List Term
 floor:Int
def encB(b:Bud):AV:=.agg [.str b.name,.sl .sh (b.sel.map encM),.int .i64 b.floor]
instance(n:Bud):Dat (encB n):=⟨rfl,rfl⟩
def fewB1(b:Bud):Bool:=decide (b.name.length≤50)&&fewM b.sel
def fewBs(l:List Bud):Bool:=decide (l.length≤20)&&l.all fewB1
def floorE(n:Int):Int:=if n<0 then 1 else if 128<n then 1 else 0
def ckB(b:Bud):Int:=firstE [if isName b.name then 0 else 3,ckM b.sel,floorE b.floor]
theorem first3(a b c:Int):Gives cfg 135 [.sl .sh [.int .i64 a,.int .i64 b,.int .i64 c]] (.int .i64 (firstE [a,b,c])):=first_any [a,b,c] (by simp)
theorem ckB_any(b:Bud):Gives cfg 176 [encB b] (.int .i64 (ckB b)):=by
 refine Gives.run (l176 _ _) ?_
 have e:ckB b=firstE [if isName b.name then 0 else 3,ckM b.sel,floorE b.floor]:=rfl
 rw[e]
 exact let ζ1:List AV:=[.int .i64 (if isName b.name=true then(0:Int)else(3:Int)),.int .i64 (ckM b.sel),.int .i64 1];let ζ2:Heap:={boxes:=[[.str b.name,.sl .sh (b.sel.map encM),.int .i64 b.floor]],toks:=[],loops:=[]:Heap};let ζ3:List AV:=[.int .i64 (if isName b.name=true then(0:Int)else(3:Int)),.int .i64 (ckM b.sel),.int .i64 0];goG 90 [] trivial (.split (b.floor<(0:Int)) (fun h1=>.yes (decide_eq_true (p:=b.floor<(0:Int)) h1)<|.tt<|.callK ([.str b.name]) (.int .i64 (if isName b.name=true then(0:Int)else(3:Int))) (show Gives cfg (136:FuncId) [.str b.name] (.int .i64 (if isName b.name=true then(0:Int)else(3:Int)))from named_any _)<|.callK ([.sl .sh (b.sel.map encM)]) (.int .i64 (ckM b.sel)) (show Gives cfg (141:FuncId) [.sl .sh (b.sel.map encM)] (.int .i64 (ckM b.sel))from ckM_any _)<|.callK ([.sl .full ζ1]) (.int .i64 (firstE [if isName b.name=true then(0:Int)else(3:Int),ckM b.sel,(1:Int)])) (show Gives cfg (135:FuncId) [.sl .sh ζ1] (.int .i64 (firstE [if isName b.name=true then(0:Int)else(3:Int),ckM b.sel,(1:Int)]))from first3 _ _ _)<|.fin ((.ret (.int .i64 (firstE [if isName b.name=true then(0:Int)else(3:Int),ckM b.sel,(1:Int)])),ζ2)) (by simp only[IsRet];grind[floorE])) (fun h1=>.no (decide_eq_false (p:=b.floor<(0:Int)) h1)<|.split ((128:Int)<b.floor) (fun h2=>.yes (decide_eq_true (p:=(128:Int)<b.floor) h2)<|.callK ([.str b.name]) (.int .i64 (if isName b.name=true then(0:Int)else(3:Int))) (show Gives cfg (136:FuncId) [.str b.name] (.int .i64 (if isName b.name=true then(0:Int)else(3:Int)))from named_any _)<|.callK ([.sl .sh (b.sel.map encM)]) (.int .i64 (ckM b.sel)) (show Gives cfg (141:FuncId) [.sl .sh (b.sel.map encM)] (.int .i64 (ckM b.sel))from ckM_any _)<|.callK ([.sl .full ζ1]) (.int .i64 (firstE [if isName b.name=true then(0:Int)else(3:Int),ckM b.sel,(1:Int)])) (show Gives cfg (135:FuncId) [.sl .sh ζ1] (.int .i64 (firstE [if isName b.name=true then(0:Int)else(3:Int),ckM b.sel,(1:Int)]))from first3 _ _ _)<|.fin ((.ret (.int .i64 (firstE [if isName b.name=true then(0:Int)else(3:Int),ckM b.sel,(1:Int)])),ζ2)) (by simp only[IsRet];grind[floorE])) (fun h2=>.no (decide_eq_false (p:=(128:Int)<b.floor) h2)<|.callK ([.str b.name]) (.int .i64 (if isName b.name=true then(0:Int)else(3:Int))) (show Gives cfg (136:FuncId) [.str b.name] (.int .i64 (if isName b.name=true then(0:Int)else(3:Int)))from named_any _)<|.callK ([.sl .sh (b.sel.map encM)]) (.int .i64 (ckM b.sel)) (show Gives cfg (141:FuncId) [.sl .sh (b.sel.map encM)] (.int .i64 (ckM b.sel))from ckM_any _)<|.callK ([.sl .full ζ3]) (.int .i64 (firstE [if isName b.name=true then(0:Int)else(3:Int),ckM b.sel,(0:Int)])) (show Gives cfg (135:FuncId) [.sl .sh ζ3] (.int .i64 (firstE [if isName b.name=true then(0:Int)else(3:Int),ckM b.sel,(0:Int)]))from first3 _ _ _)<|.fin ((.ret (.int .i64 (firstE [if isName b.name=true then(0:Int)else(3:Int),ckM b.sel,(0:Int)])),ζ2)) (by simp only[IsRet];grind[floorE])))) (by kernel_rfl)
theorem ckBs_name(x:Bud):Gives cfg 175 [encB x] (.str (Bud.name x)):=by
 refine Gives.run (l175 _ _) ?_
 exact goG 60 [] trivial (.fin ((.ret (.str x.name),{boxes:=[[.str x.name,.sl .sh (x.sel.map encM),.int .i64 x.floor]],toks:=[],loops:=[]:Heap})) rfl) (by kernel_rfl)
theorem ckBs_loop(l:List Bud)(hn:l.length≤8):∀(post:List Bud)(i:Nat)(bs:List (List AV))(hd:l.drop i=post)(T:Env)(hT:Has T [(0,.sl .sh (l.map encB)),(2,.func 175 []),(3,.func 176 []),(16,.sl .sh (l.map encB)),(17,.int .i64 l.length),(18,.int .i64 i)]),
 Goes cfg a174 k174_0 T ⟨bs,[],[]⟩ (IsRet (.int .i64 (ckAl ckB Bud.name l i post))):=by
 intro post
 induction post with
 |nil=>
  intro i bs hd T hT
  have hge:=drop_ge hd
  exact goG 60 _ hT (.no (decide_eq_false (p:=(↑i:Int)<(↑l.length:Int)) (by omega))<|.fin ((.ret (.int .i64 0),{boxes:=bs,toks:=[],loops:=[]:Heap})) rfl) (by kernel_rfl)
 |cons x post ih=>
  intro i bs hd T hT
  have hlt:=drop_lt hd
  have hnx:=drop_next hd
  have hc:=ckB_any x
  have e:ckAl ckB Bud.name l i (x::post)=if ckB x=0 then(if ordG Bud.name l i x then 13 else ckAl ckB Bud.name l (i+1) post)else ckB x:=rfl
  rw[e]
  generalize ckB x=c at hc⊢
  cases i with
  |zero=>exact let ζ1:List AV:=[.str x.name,.sl .sh (x.sel.map encM),.int .i64 x.floor];let ζ2:Heap:={boxes:=bs++[ζ1],toks:=[],loops:=[]:Heap};let ζ3:List AV:=[.str [],.sl .full [],.int .i64 0];goG 60 _ hT (.yes (decide_eq_true (p:=(↑(0:Nat):Int)<(↑l.length:Int)) (by omega))<|.idx (show idxA 3 (.sl .sh (l.map encB)) (.int .i64 (↑(0:Nat):Int))=some (.ref (encB x).cells)from idx_row hd (by rfl))<|.load (rfl:loadA true 3 {boxes:=bs,toks:=[],loops:=[]:Heap} (.ref ζ1)=some (.agg ζ1))<|.store (show storeA 3 {boxes:=bs++[ζ3],toks:=[],loops:=[]:Heap} (.ptr bs.length (0:Nat)) (.agg ζ1)=some (ζ2)from store_box2 (cs:=ζ3) (cs':=ζ1) (by simp+zetaDelta) rfl (by simp+zetaDelta [List.set_append]))<|.load (show loadA true 3 ζ2 (.ptr bs.length (0:Nat))=some (.agg ζ1)from load_box (cs:=ζ1) (by simp+zetaDelta) rfl)<|.callK ([.agg ζ1]) (.int .i64 c) (show Gives cfg (176:FuncId) [encB x] (.int .i64 c)from hc)<|.split ((c !=(0:Int))=true) (fun h1=>.yes (show(c !=(0:Int))=true from h1)<|.fin ((.ret (.int .i64 c),ζ2)) (by simp only[IsRet];grind[ordG])) (fun h1=>.no (show(c !=(0:Int))=false from Bool.eq_false_iff.2 h1)<|.ff<|.ff<|.bin (show binA .add (.int .i64 (↑(0:Nat):Int)) (.int .i64 1)=some (.int .i64 (↑((0:Nat)+(1:Nat)):Int))from inc_i (by omega))<|.cutQ k174_0 [(0,.sl .sh (l.map encB)),(2,.func (175:Nat) []),(3,.func (176:Nat) []),(16,.sl .sh (l.map encB)),(17,.int .i64 (↑l.length)),(18,.int .i64 (↑((0:Nat)+(1:Nat)):Int))] (ζ2) (fun T hT=>(ih ((0:Nat)+(1:Nat)) (bs++[ζ1]) hnx T hT).to (by grind[ordG])))) (by kernel_rfl)
  |succ j=>
   obtain⟨p,hp⟩:∃p,l[j]?=some p:=⟨l[j],List.getElem?_eq_getElem (by omega)⟩
   exact let ζ1:List AV:=[.str x.name,.sl .sh (x.sel.map encM),.int .i64 x.floor];let ζ2:Heap:={boxes:=bs++[ζ1],toks:=[],loops:=[]:Heap};let ζ3:List AV:=[.str p.name,.sl .sh (p.sel.map encM),.int .i64 p.floor];let ζ4:List AV:=[.str [],.sl .full [],.int .i64 0];goG 60 _ hT (.yes (decide_eq_true (p:=(↑(j+(1:Nat)):Int)<(↑l.length:Int)) (by omega))<|.idx (show idxA 3 (.sl .sh (l.map encB)) (.int .i64 (↑(j+(1:Nat)):Int))=some (.ref (encB x).cells)from idx_row hd (by rfl))<|.load (rfl:loadA true 3 {boxes:=bs,toks:=[],loops:=[]:Heap} (.ref ζ1)=some (.agg ζ1))<|.store (show storeA 3 {boxes:=bs++[ζ4],toks:=[],loops:=[]:Heap} (.ptr bs.length (0:Nat)) (.agg ζ1)=some (ζ2)from store_box2 (cs:=ζ4) (cs':=ζ1) (by simp+zetaDelta) rfl (by simp+zetaDelta [List.set_append]))<|.load (show loadA true 3 ζ2 (.ptr bs.length (0:Nat))=some (.agg ζ1)from load_box (cs:=ζ1) (by simp+zetaDelta) rfl)<|.callK ([.agg ζ1]) (.int .i64 c) (show Gives cfg (176:FuncId) [encB x] (.int .i64 c)from hc)<|.split ((c !=(0:Int))=true) (fun h1=>.yes (show(c !=(0:Int))=true from h1)<|.fin ((.ret (.int .i64 c),ζ2)) (by simp only[IsRet];grind[ordG])) (fun h1=>.no (show(c !=(0:Int))=false from Bool.eq_false_iff.2 h1)<|.yes (decide_eq_true (p:=(0:Int)<(↑(j+(1:Nat)):Int)) (by omega))<|.load (show loadA true 3 ζ2 (.ptr bs.length (0:Nat))=some (.agg ζ1)from load_box (cs:=ζ1) (by simp+zetaDelta) rfl)<|.callK ([.agg ζ1]) (.str x.name) (show Gives cfg (175:FuncId) [encB x] (.str x.name)from ckBs_name _)<|.bin (show binA .sub (.int .i64 (↑(j+(1:Nat)):Int)) (.int .i64 1)=some (.int .i64 ↑j)from dec_i (by omega))<|.idx (show idxA 3 (.sl .sh (l.map encB)) (.int .i64 ↑j)=some (.ref (encB p).cells)from idx_get hp (by rfl))<|.load (rfl:loadA true 3 ζ2 (.ref ζ3)=some (.agg ζ3))<|.callK ([.agg ζ3]) (.str p.name) (show Gives cfg (175:FuncId) [encB p] (.str p.name)from ckBs_name _)<|.split ((Op.bytesLess x.name p.name||x.name==p.name)=true) (fun h2=>.yes (show(Op.bytesLess x.name p.name||x.name==p.name)=true from h2)<|.fin ((.ret (.int .i64 13),ζ2)) (by simp only[IsRet];grind[ordG])) (fun h2=>.no (show(Op.bytesLess x.name p.name||x.name==p.name)=false from Bool.eq_false_iff.2 h2)<|.bin (show binA .add (.int .i64 (↑(j+(1:Nat)):Int)) (.int .i64 1)=some (.int .i64 (↑(j+(1:Nat)+(1:Nat)):Int))from inc_i (by omega))<|.cutQ k174_0 [(0,.sl .sh (l.map encB)),(2,.func (175:Nat) []),(3,.func (176:Nat) []),(16,.sl .sh (l.map encB)),(17,.int .i64 (↑l.length)),(18,.int .i64 (↑(j+(1:Nat)+(1:Nat)):Int))] (ζ2) (fun T hT=>(ih (j+(1:Nat)+(1:Nat)) (bs++[ζ1]) hnx T hT).to (by grind[ordG]))))) (by kernel_rfl)
theorem ckBs_rows(l:List Bud):Gives cfg 174 [.sl .sh (l.map encB),.int .i64 8,.func 175 [],.func 176 []] (.int .i64 (ckAll 8 ckB Bud.name l)):=by
 refine Gives.run (l174 _ _) ?_
 have h:=fun hn=>ckBs_loop l hn l 0 [] rfl
 exact let ζ1:Heap:={boxes:=[],toks:=[],loops:=[]:Heap};goG 60 [] trivial (.len (show lenA false (.sl .sh (l.map encB))=some (.int .i64 (↑l.length))from len_map _)<|.split ((8:Int)<(↑l.length:Int)) (fun h1=>.yes (decide_eq_true (p:=(8:Int)<(↑l.length:Int)) h1)<|.fin ((.ret (.int .i64 4),ζ1)) (by simp only[IsRet];grind[ckAll])) (fun h1=>.no (decide_eq_false (p:=(8:Int)<(↑l.length:Int)) h1)<|.len (show lenA false (.sl .sh (l.map encB))=some (.int .i64 (↑l.length))from len_map _)<|.cutQ k174_0 [(0,.sl .sh (l.map encB)),(2,.func (175:Nat) []),(3,.func (176:Nat) []),(16,.sl .sh (l.map encB)),(17,.int .i64 (↑l.length)),(18,.int .i64 0)] (ζ1) (fun T hT=>(h (by omega) T hT).to (by grind[ckAll])))) (by kernel_rfl)
theorem ckBs_any(l:List Bud):Gives cfg 104 [.sl .sh (l.map encB)] (.int .i64 (ckAll 8 ckB Bud.name l)):=by
 refine Gives.run (l104 _ _) ?_
 have h:=ckBs_rows l
 exact goG 60 [] trivial (.callK ([.sl .sh (l.map encB),.int .i64 8,.func (175:Nat) [],.func (176:Nat) []]) (.int .i64 (ckAll (8:Nat) ckB Bud.name l)) (show Gives cfg (174:FuncId) [.sl .sh (l.map encB),.int .i64 8,.func (175:FuncId) [],.func (176:FuncId) []] (.int .i64 (ckAll (8:Nat) ckB Bud.name l))from h)<|.fin ((.ret (.int .i64 (ckAll (8:Nat) ckB Bud.name l)),{boxes:=[],toks:=[],loops:=[]:Heap})) rfl) (by kernel_rfl)
end Go.Aa.T
set_option linter.unusedVariables false
set_option linter.unusedSimpArgs false
set_option maxRecDepth 100000
namespace Go.Aa.T
open Go.Aa Go.Proofs
structure VOk(v:List Amount):Prop where
 len:v.length≤8
 name:∀x∈v,isName x.name=true
 pos:∀x∈v,0<x.n
 rise:Rise (nms v)
theorem ckVl_of{s:List Amount}:∀{post:List Amount}{i:Nat},s.drop i=post→(∀x∈s,isName x.name=true)→(∀x∈s,0<x.n)→Rise (nms s)→ckVl s i post=0
 |[],i,hd,_,_,_=>rfl
 |x::post,i,hd,h1,h2,h3=>by
  have hx:=drop_mem hd
  have ih:=ckVl_of (drop_next hd) h1 h2 h3
  have hp:=h2 x hx
  have ho:ordV s i x=false:=by
   cases i with
   |zero=>rfl
   |succ j=>
    have hlt:=drop_lt hd
    have hj:s[j]?=some (s[j]'(by omega)):=List.getElem?_eq_getElem _
    simp only[ordV,hj]
    have h4:=List.pairwise_iff_getElem.1 h3 j (j+1) (by simp;omega) (by simp;omega) (by omega)
    simp only[List.getElem_map]at h4
    have e:s[j+1]=x:=by
     have:=drop_at hd
     rw[List.getElem?_eq_getElem hlt]at this
     exact Option.some.inj this
    rw[e]at h4
    exact bl_asym h4
  unfold ckVl
  rw[if_pos (h1 x hx),if_neg (by omega),ho,if_neg (by simp)]
  exact ih
theorem ckV_of{v:List Amount}(h:VOk v):ckV v=0:=by
 unfold ckV
 rw[if_pos h.len]
 exact ckVl_of rfl h.name h.pos h.rise
theorem getQ_none{v:List Amount}{s:List UInt8}(h:s∉nms v):getQ v s=0:=by
 unfold getQ
 have:v.find? (fun x=>x.name==s)=none:=by
  rw[List.find?_eq_none]
  intro x hx e
  exact h (List.mem_map.2 ⟨x,hx,by simpa using e⟩)
 rw[this]
theorem getQ_some{v:List Amount}{s:List UInt8}(h:s∈nms v):∃x∈v,x.name=s∧getQ v s=x.n:=by
 unfold getQ
 cases hf:v.find? (fun x=>x.name==s)with
 |none=>
  obtain⟨x,hx,rfl⟩:=List.mem_map.1 h
  have:=List.find?_eq_none.1 hf x hx
  simp at this
 |some x=>exact⟨x,List.mem_of_find?_eq_some hf,by simpa using List.find?_some hf,rfl⟩
def kq:Bool→SK
 |true=>.sh
 |false=>.full
instance(c:Bool)(l:List AV):Shut (.sl (kq c) l) (.sl .sh l):=⟨by cases c<;>exact⟨rfl,rfl⟩⟩
def resV(c:Bool)(p:List Amount×Int):AV:=.tuple [.sl (kq c) (p.1.map encA),.int .i64 p.2]
instance(c:Bool)(p:List Amount×Int):Res (resV c p) (.tuple [.sl .sh (p.1.map encA),.int .i64 p.2]):=⟨by
 cases c<;>exact⟨rfl,rfl⟩⟩
def resW(c:Bool)(l:List Amount)(e:Int):AV:=.tuple [.sl (kq c) (l.map encA),.int .i64 e]
instance(c:Bool)(l:List Amount)(e:Int):Res (resW c l e) (.tuple [.sl .sh (l.map encA),.int .i64 e]):=⟨by
 cases c<;>exact⟨rfl,rfl⟩⟩
instance(l:List (List UInt8)):Shut (rowT l) (.sl .sh (l.map .str)):=inferInstanceAs(Shut (rowS Heap.nil (l.map .str)) _)
end Go.Aa.T
set_option linter.unusedVariables false
set_option linter.unusedSimpArgs false
set_option maxRecDepth 100000
namespace Go.Aa.T
open Go.Aa Go.Proofs
structure St where
 nodes:List Node
 pods:List Pod
 buds:List Bud
def encSt(s:St):AV:=.agg [.sl .sh (s.nodes.map encN),.sl .sh (s.pods.map encPd),.sl .sh (s.buds.map encB)]
instance(s:St):Dat (encSt s):=⟨rfl,rfl⟩
def onP(name:List UInt8)(p:Pod):Bool:=p.node==name&& !(name==[])
def onS(s:St)(name:List UInt8):List Pod:=s.pods.filter (onP name)
def sumG:List Amount→List (List Amount)→List Amount×Int
 |acc,[]=>(acc,0)
 |acc,v::vs=>if(addV acc v).2=0 then sumG (addV acc v).1 vs else([],(addV acc v).2)
theorem addQ_in(a b:Int):inI (addQ a b).1:=by
 unfold addQ
 split
 ·unfold inI;omega
 ·rename_i h
  have:=both_ok (a:=a) (b:=b) (by simpa using h)
  unfold toldQ
  split
  ·unfold inI;omega
  ·unfold inI;simp only;omega
theorem madeF_rg{g:OfQ}(hg:∀s,inI (g s).1):∀(l:List (List UInt8))(acc:List Amount),rgA acc→rgA (madeF g l acc).1
 |[],acc,h=>h
 |s::r,acc,h=>by
  unfold madeF
  split
  ·refine madeF_rg hg r _ ?_
   split
   ·intro x hx
    rcases List.mem_append.1 hx with hx|hx
    ·exact h x hx
    ·rw[List.mem_singleton.1 hx];exact hg s
   ·exact h
  ·intro x hx;cases hx
theorem madeV_rg{g:OfQ}(hg:∀s,inI (g s).1)(vs:List (List Amount)):rgA (madeV g vs).1∧(madeV g vs).1.length≤8:=by
 unfold madeV
 split
 ·unfold finV
  split
  ·split
   ·exact⟨fun x hx=>(by cases hx),by simp⟩
   ·exact⟨madeF_rg hg _ _ (fun x hx=>by cases hx),by simp only;omega⟩
  ·exact⟨fun x hx=>(by cases hx),by simp⟩
 ·exact⟨fun x hx=>(by cases hx),by simp⟩
theorem addV_rg(a b:List Amount):rgA (addV a b).1∧(addV a b).1.length≤8:=madeV_rg (fun s=>addQ_in _ _) _
theorem sumG_err:∀(vs:List (List Amount))(acc:List Amount),(sumG acc vs).2≠0→(sumG acc vs).1=[]
 |[],acc,h=>absurd rfl h
 |v::vs,acc,h=>by
  unfold sumG at h⊢
  split
  ·rename_i h0;rw[if_pos h0]at h;exact sumG_err vs _ h
  ·rfl
theorem take_A(l:List AV):Gives cfg 105 [.sl .sh l,.int .i64 0] (.sl .sh l):=by
 refine Gives.run (l105 _ _) ?_
 exact goG 60 [] trivial (.callK ([.int .i64 0]) (.tuple []) (show Gives cfg (101:FuncId) [.int .i64 0] (.tuple [])from stop_ok)<|.fin ((.ret (.sl .sh l),{boxes:=[],toks:=[],loops:=[]:Heap})) rfl) (by kernel_rfl)
theorem takeN_A(l:List AV){e:Int}(he:¬e=0):Pans cfg 105 [.sl .sh l,.int .i64 e] (stopV e):=by
 have h:=stop_pan he
 refine Pans.run (l105 _ _) ?_
 exact goG 60 [] trivial (.callP ([.int .i64 e]) ({boxes:=[],toks:=[],loops:=[]:Heap}) (show Pans cfg (101:FuncId) [.int .i64 e] (stopV e)from h) ⟨rfl,rfl⟩ rfl rfl) (by kernel_rfl)
theorem trunc_ex{bs0 ex:List (List AV)}{tk:List Nat}{v:AV}(hv:∀nb nt,within nb nt v=true)(hb:∀nb nt,bs0.all (·.all (in2 nb nt))=true):trunc bs0.length 0 v ⟨bs0++ex,tk,[]⟩=⟨bs0,[],[]⟩:=by
 unfold trunc
 simp only[List.take_left,List.all_nil,Bool.true_and,hv,hb,Bool.and_self,if_true,List.take_zero]
structure Vin(v:List Amount):Prop where
 len:v.length<9223372036854775807
 rg:rgA v
def SumR(L fv:AV)(p:List Amount×Int)(r:ARes×Heap):Prop:=(p.2=0∧∃c ex,r=(.ret (.tuple []),⟨[L]::[fv]::[.sl (kq c) (p.1.map encA)]::ex,[],[]⟩))∨(p.2≠0∧r.1=.pan (stopV p.2))
theorem sumP_of(x:Pod):Gives cfg 107 [encPd x] (.sl .sh (x.need.map encA)):=by
 refine Gives.run (l107 _ _) ?_
 exact goG 60 [] trivial (.fin ((.ret (.sl .sh (x.need.map encA)),{boxes:=[[.str x.name,.str x.owner,.int .i64 x.prio,.sl .sh (x.need.map encA),.sl .sh (x.labels.map encP),.sl .sh (x.sel.map encM),.sl .sh (x.tols.map encL),.str x.key,.int .i64 x.most,.str x.node,.bool x.hold]],toks:=[],loops:=[]:Heap})) rfl) (by kernel_rfl)
theorem sumP_loop(l:List Pod)(hn:l.length<9223372036854775807)(hv:∀x∈l,Vin x.need):∀(post:List Pod)(i:Nat)(hd:l.drop i=post)(acc:List Amount)(ha:acc.length≤8∧rgA acc)(c:Bool)(ex:List (List AV))(T:Env)
 (hT:Has T [(1,.ptr 2 0),(2,.ptr 1 0),(5,.sl .sh (l.map encPd)),(6,.int .i64 l.length),(7,.int .i64 i)]),
 Goes cfg a177 k177_0 T ⟨[.sl .sh (l.map encPd)]::[.func 107 []]::[.sl (kq c) (acc.map encA)]::ex,[],[]⟩ (SumR (.sl .sh (l.map encPd)) (.func 107 []) (sumG acc (post.map (·.need)))):=by
 intro post
 induction post with
 |nil=>
  intro i hd acc ha c ex T hT
  have hge:=drop_ge hd
  exact goG 60 _ hT (.no (decide_eq_false (p:=(↑i:Int)<(↑l.length:Int)) (by omega))<|.fin ((.ret (.tuple []),{boxes:=[.sl .sh (l.map encPd)]::[.func (107:Nat) []]::[.sl (kq c) (acc.map encA)]::ex,toks:=[],loops:=[]:Heap})) (by exact .inl ⟨rfl,c,ex,rfl⟩)) (by kernel_rfl)
 |cons x post ih=>
  intro i hd acc ha c ex T hT
  have hlt:=drop_lt hd
  have hnx:=drop_next hd
  have hx:=hv x (drop_mem hd)
  have h1:=sumP_of x
  have h2:=addV_any acc x.need (by omega) hx.len ha.2 hx.rg
  have hr:=addV_rg acc x.need
  have e:sumG acc ((x::post).map (·.need))=if(addV acc x.need).2=0 then sumG (addV acc x.need).1 (post.map (·.need))else([],(addV acc x.need).2):=rfl
  rw[e]
  generalize addV acc x.need=z at h2 hr⊢
  obtain⟨w,er⟩:=z
  simp only at h2 hr⊢
  by_cases h0:er=0
  ·subst h0
   rw[if_pos rfl]
   have h3:=take_A (w.map encA)
   have ih':=ih (i+1) hnx w ⟨hr.2,hr.1⟩ true (ex++[(encPd x).cells])
   have ek:kq true=.sh:=rfl
   rw[ek]at ih'
   exact let ζ1:List AV:=[.str x.name,.str x.owner,.int .i64 x.prio,.sl .sh (x.need.map encA),.sl .sh (x.labels.map encP),.sl .sh (x.sel.map encM),.sl .sh (x.tols.map encL),.str x.key,.int .i64 x.most,.str x.node,.bool x.hold];let ζ2:Heap:={boxes:=[.sl .sh (l.map encPd)]::[.func (107:Nat) []]::[.sl (kq c) (acc.map encA)]::(ex++[ζ1]),toks:=[],loops:=[]:Heap};let ζ3:List AV:=[.str [],.str [],.int .i64 0,.sl .full [],.sl .full [],.sl .full [],.sl .full [],.str [],.int .i64 0,.str [],.bool false];let ζ4:Heap:={boxes:=[.sl .sh (l.map encPd)]::[.func (107:Nat) []]::[.sl .sh (w.map encA)]::(ex++[ζ1]),toks:=[],loops:=[]:Heap};let ζ5:List AV:=[.sl .sh (w.map encA),.int .i64 0];goG 120 _ hT (.yes (decide_eq_true (p:=(↑i:Int)<(↑l.length:Int)) (by omega))<|.idx (show idxA 11 (.sl .sh (l.map encPd)) (.int .i64 ↑i)=some (.ref (encPd x).cells)from idx_row hd (by rfl))<|.load (rfl:loadA true 11 {boxes:=[.sl .sh (l.map encPd)]::[.func (107:Nat) []]::[.sl (kq c) (acc.map encA)]::ex,toks:=[],loops:=[]:Heap} (.ref ζ1)=some (.agg ζ1))<|.store (show storeA 11 {boxes:=[.sl .sh (l.map encPd)]::[.func (107:Nat) []]::[.sl (kq c) (acc.map encA)]::(ex++[ζ3]),toks:=[],loops:=[]:Heap} (.ptr ([.sl .sh (l.map encPd)]::[.func (107:Nat) []]::[.sl (kq c) (acc.map encA)]::ex).length (0:Nat)) (.agg ζ1)=some (ζ2)from store_box2 (cs:=ζ3) (cs':=ζ1) (by simp+zetaDelta) rfl (by simp+zetaDelta [List.set_append]))<|.load (show loadA false 1 ζ2 (.ptr 2 0)=some (.sl (kq c) (acc.map encA))from load_box (cs:=[.sl (kq c) (acc.map encA)]) (by simp+zetaDelta) rfl)<|.load (show loadA false 1 ζ2 (.ptr 1 0)=some (.func (107:Nat) [])from load_box (cs:=[.func (107:Nat) []]) (by simp+zetaDelta) rfl)<|.load (show loadA true 11 ζ2 (.ptr ([.sl .sh (l.map encPd)]::[.func (107:Nat) []]::[.sl (kq c) (acc.map encA)]::ex).length (0:Nat))=some (.agg ζ1)from load_box (cs:=ζ1) (by simp+zetaDelta) rfl)<|.callK ([.agg ζ1]) (.sl .sh (x.need.map encA)) (show Gives cfg (107:FuncId) [encPd x] (.sl .sh (x.need.map encA))from h1)<|.callG ([.sl (kq c) (acc.map encA),.sl .sh (x.need.map encA)]) (.tuple ζ5) (show Gives cfg (52:FuncId) [.sl .sh (acc.map encA),.sl .sh (x.need.map encA)] (.tuple ζ5)from h2) Shuts.p ⟨rfl,rfl⟩<|.callK (ζ5) (.sl .sh (w.map encA)) (show Gives cfg (105:FuncId) ζ5 (.sl .sh (w.map encA))from h3)<|.store (show storeA 1 ζ2 (.ptr 2 0) (.sl .sh (w.map encA))=some (ζ4)from store_box2 (cs:=[.sl (kq c) (acc.map encA)]) (cs':=[.sl .sh (w.map encA)]) (by simp+zetaDelta) rfl (by simp+zetaDelta [List.set_append]))<|.bin (show binA .add (.int .i64 ↑i) (.int .i64 1)=some (.int .i64 (↑(i+1)))from inc_i (by omega))<|.cutQ k177_0 [(1,.ptr 2 0),(2,.ptr 1 0),(5,.sl .sh (l.map encPd)),(6,.int .i64 (↑l.length)),(7,.int .i64 (↑(i+1)))] (ζ4) (fun T hT=>(ih' T hT))) (by kernel_rfl)
  ·rw[if_neg h0]
   have h3:=takeN_A (w.map encA) h0
   exact let ζ1:List AV:=[.str x.name,.str x.owner,.int .i64 x.prio,.sl .sh (x.need.map encA),.sl .sh (x.labels.map encP),.sl .sh (x.sel.map encM),.sl .sh (x.tols.map encL),.str x.key,.int .i64 x.most,.str x.node,.bool x.hold];let ζ2:Heap:={boxes:=[.sl .sh (l.map encPd)]::[.func (107:Nat) []]::[.sl (kq c) (acc.map encA)]::(ex++[ζ1]),toks:=[],loops:=[]:Heap};let ζ3:List AV:=[.str [],.str [],.int .i64 0,.sl .full [],.sl .full [],.sl .full [],.sl .full [],.str [],.int .i64 0,.str [],.bool false];let ζ4:List AV:=[.sl .sh (w.map encA),.int .i64 er];goG 120 _ hT (.yes (decide_eq_true (p:=(↑i:Int)<(↑l.length:Int)) (by omega))<|.idx (show idxA 11 (.sl .sh (l.map encPd)) (.int .i64 ↑i)=some (.ref (encPd x).cells)from idx_row hd (by rfl))<|.load (rfl:loadA true 11 {boxes:=[.sl .sh (l.map encPd)]::[.func (107:Nat) []]::[.sl (kq c) (acc.map encA)]::ex,toks:=[],loops:=[]:Heap} (.ref ζ1)=some (.agg ζ1))<|.store (show storeA 11 {boxes:=[.sl .sh (l.map encPd)]::[.func (107:Nat) []]::[.sl (kq c) (acc.map encA)]::(ex++[ζ3]),toks:=[],loops:=[]:Heap} (.ptr ([.sl .sh (l.map encPd)]::[.func (107:Nat) []]::[.sl (kq c) (acc.map encA)]::ex).length (0:Nat)) (.agg ζ1)=some (ζ2)from store_box2 (cs:=ζ3) (cs':=ζ1) (by simp+zetaDelta) rfl (by simp+zetaDelta [List.set_append]))<|.load (show loadA false 1 ζ2 (.ptr 2 0)=some (.sl (kq c) (acc.map encA))from load_box (cs:=[.sl (kq c) (acc.map encA)]) (by simp+zetaDelta) rfl)<|.load (show loadA false 1 ζ2 (.ptr 1 0)=some (.func (107:Nat) [])from load_box (cs:=[.func (107:Nat) []]) (by simp+zetaDelta) rfl)<|.load (show loadA true 11 ζ2 (.ptr ([.sl .sh (l.map encPd)]::[.func (107:Nat) []]::[.sl (kq c) (acc.map encA)]::ex).length (0:Nat))=some (.agg ζ1)from load_box (cs:=ζ1) (by simp+zetaDelta) rfl)<|.callK ([.agg ζ1]) (.sl .sh (x.need.map encA)) (show Gives cfg (107:FuncId) [encPd x] (.sl .sh (x.need.map encA))from h1)<|.callG ([.sl (kq c) (acc.map encA),.sl .sh (x.need.map encA)]) (.tuple ζ4) (show Gives cfg (52:FuncId) [.sl .sh (acc.map encA),.sl .sh (x.need.map encA)] (.tuple ζ4)from h2) Shuts.p ⟨rfl,rfl⟩<|.callP (ζ4) (ζ2) (show Pans cfg (105:FuncId) ζ4 (stopV er)from h3) ⟨rfl,rfl⟩ rfl (by exact .inr ⟨h0,rfl⟩)) (by kernel_rfl)
theorem sumP_any(l:List Pod)(hn:l.length<9223372036854775807)(hv:∀x∈l,Vin x.need):∃c,Gives cfg 106 [.sl .sh (l.map encPd),.func 107 []] (resV c (sumG [] (l.map (·.need)))):=by
 have h1:=sumP_loop l hn hv l 0 rfl [] ⟨by simp,fun x hx=>by cases hx⟩ false []
 have ek:kq false=.full:=rfl
 rw[ek]at h1
 have key:Goes cfg a177 [.c c177] (initEnv [.ptr 0 0,.ptr 2 0,.ptr 1 0]) ⟨[[.sl .sh (l.map encPd)],[.func 107 []],[.sl .full []]],[],[]⟩ (SumR (.sl .sh (l.map encPd)) (.func 107 []) (sumG [] (l.map (·.need)))):=by
  exact goG 60 [] trivial (.len (show lenA false (.sl .sh (l.map encPd))=some (.int .i64 (↑l.length))from len_map _)<|.cutQ k177_0 [(1,.ptr 2 0),(2,.ptr 1 0),(5,.sl .sh (l.map encPd)),(6,.int .i64 (↑l.length)),(7,.int .i64 0)] ({boxes:=[[.sl .sh (l.map encPd)],[.func (107:Nat) []],[.sl .full []]],toks:=[],loops:=[]:Heap}) (fun T hT=>(h1 T hT))) (by kernel_rfl)
 obtain⟨⟨a,H1⟩,hr,hR⟩:=key
 have hz:=sumG_err (l.map (·.need)) []
 generalize sumG [] (l.map (·.need))=z at hR hz⊢
 obtain⟨w,er⟩:=z
 rcases hR with⟨he,c,ex,hR⟩|⟨he,hR⟩
 ·simp only at he
  subst he
  simp only[Prod.mk.injEq]at hR
  obtain⟨rfl,rfl⟩:=hR
  have ht:lim cfg (.fn 77) [.func 177 [.ptr 0 0,.ptr 2 0,.ptr 1 0]] ⟨[[.sl .sh (l.map encPd)],[.func 107 []],[.sl .full []]],[],[]⟩=some (.ret (.int .i64 0),⟨[.sl .sh (l.map encPd)]::[.func 107 []]::[.sl (kq c) (w.map encA)]::ex,[],[]⟩):=by
   rw[lim_try rfl,l177,hr];rfl
  have hd:=does_callE (xs:=[.func 177 [.ptr 0 0,.ptr 2 0,.ptr 1 0]]) (caps:=[]) ht rfl rfl
  have et:trunc 3 0 (.int .i64 0) ⟨[.sl .sh (l.map encPd)]::[.func 107 []]::[.sl (kq c) (w.map encA)]::ex,[],[]⟩=⟨[[.sl .sh (l.map encPd)],[.func 107 []],[.sl (kq c) (w.map encA)]],[],[]⟩:=
   trunc_ex (bs0:=[[.sl .sh (l.map encPd)],[.func 107 []],[.sl (kq c) (w.map encA)]]) (fun _ _=>rfl) (fun _ _=>by cases c<;>rfl)
  have hd':Does cfg (.call (.c (.func 77 [])) [.c (.func 177 [.ptr 0 0,.ptr 2 0,.ptr 1 0])]) ⟨[[.sl .sh (l.map encPd)],[.func 107 []],[.sl .full []]],[],[]⟩ (.int .i64 0) ⟨[[.sl .sh (l.map encPd)],[.func 107 []],[.sl (kq c) (w.map encA)]],[],[]⟩:=by
   rw[←et];exact hd
  refine⟨c,Gives.run (l106 _ _) ?_⟩
  exact goG 60 [] trivial (.effY (show Does cfg (.call (.c (.func (77:FuncId) [])) [.c (.func (177:FuncId) [.ptr 0 0,.ptr 2 0,.ptr 1 0])]) {boxes:=[[.sl .sh (l.map encPd)],[.func (107:FuncId) []],[.sl .full []]],toks:=[],loops:=[]:Heap} (.int .i64 0) {boxes:=[[.sl .sh (l.map encPd)],[.func (107:FuncId) []],[.sl (kq c) (w.map encA)]],toks:=[],loops:=[]:Heap}from hd')<|.ff<|.fin ((.ret (.tuple [.sl (kq c) (w.map encA),.int .i64 0]),{boxes:=[[.sl .sh (l.map encPd)],[.func (107:Nat) []],[.sl (kq c) (w.map encA)]],toks:=[],loops:=[]:Heap})) rfl) (by kernel_rfl)
 ·simp only at he hR
  subst hR
  have e0:w=[]:=hz he
  subst e0
  have ht:lim cfg (.fn 77) [.func 177 [.ptr 0 0,.ptr 2 0,.ptr 1 0]] ⟨[[.sl .sh (l.map encPd)],[.func 107 []],[.sl .full []]],[],[]⟩=some (.ret (.int .i64 er),H1):=by
   rw[lim_try rfl,l177,hr];rfl
  have hd:=does_callE (xs:=[.func 177 [.ptr 0 0,.ptr 2 0,.ptr 1 0]]) (caps:=[]) ht rfl rfl
  generalize trunc _ _ _ H1=H2 at hd
  refine⟨false,Gives.run (l106 _ _) ?_⟩
  exact goG 60 [] trivial (.effY (show Does cfg (.call (.c (.func (77:FuncId) [])) (List.map .c [.func (177:FuncId) [.ptr 0 0,.ptr 2 0,.ptr 1 0]])) {boxes:=[[.sl .sh (l.map encPd)],[.func (107:FuncId) []],[.sl .full []]],toks:=[],loops:=[]:Heap} (shutA (.int .i64 er)) H2 from hd)<|.yes (show(er !=(0:Int))=true from(by simpa using he))<|.fin ((.ret (.tuple [.sl .full [],.int .i64 er]),H2)) rfl) (by kernel_rfl)
theorem sumN_of(x:Node):Gives cfg 112 [encN x] (.sl .sh (x.cap.map encA)):=by
 refine Gives.run (l112 _ _) ?_
 exact goG 60 [] trivial (.fin ((.ret (.sl .sh (x.cap.map encA)),{boxes:=[[.str x.name,.sl .sh (x.cap.map encA),.sl .sh (x.labels.map encP),.sl .sh (x.taints.map encT),.bool x.cordon]],toks:=[],loops:=[]:Heap})) rfl) (by kernel_rfl)
theorem sumN_loop(l:List Node)(hn:l.length<9223372036854775807)(hv:∀x∈l,Vin x.cap):∀(post:List Node)(i:Nat)(hd:l.drop i=post)(acc:List Amount)(ha:acc.length≤8∧rgA acc)(c:Bool)(ex:List (List AV))(T:Env)
 (hT:Has T [(1,.ptr 2 0),(2,.ptr 1 0),(5,.sl .sh (l.map encN)),(6,.int .i64 l.length),(7,.int .i64 i)]),
 Goes cfg a185 k185_0 T ⟨[.sl .sh (l.map encN)]::[.func 112 []]::[.sl (kq c) (acc.map encA)]::ex,[],[]⟩ (SumR (.sl .sh (l.map encN)) (.func 112 []) (sumG acc (post.map (·.cap)))):=by
 intro post
 induction post with
 |nil=>
  intro i hd acc ha c ex T hT
  have hge:=drop_ge hd
  exact goG 60 _ hT (.no (decide_eq_false (p:=(↑i:Int)<(↑l.length:Int)) (by omega))<|.fin ((.ret (.tuple []),{boxes:=[.sl .sh (l.map encN)]::[.func (112:Nat) []]::[.sl (kq c) (acc.map encA)]::ex,toks:=[],loops:=[]:Heap})) (by exact .inl ⟨rfl,c,ex,rfl⟩)) (by kernel_rfl)
 |cons x post ih=>
  intro i hd acc ha c ex T hT
  have hlt:=drop_lt hd
  have hnx:=drop_next hd
  have hx:=hv x (drop_mem hd)
  have h1:=sumN_of x
  have h2:=addV_any acc x.cap (by omega) hx.len ha.2 hx.rg
  have hr:=addV_rg acc x.cap
  have e:sumG acc ((x::post).map (·.cap))=if(addV acc x.cap).2=0 then sumG (addV acc x.cap).1 (post.map (·.cap))else([],(addV acc x.cap).2):=rfl
  rw[e]
  generalize addV acc x.cap=z at h2 hr⊢
  obtain⟨w,er⟩:=z
  simp only at h2 hr⊢
  by_cases h0:er=0
  ·subst h0
   rw[if_pos rfl]
   have h3:=take_A (w.map encA)
   have ih':=ih (i+1) hnx w ⟨hr.2,hr.1⟩ true (ex++[(encN x).cells])
   have ek:kq true=.sh:=rfl
   rw[ek]at ih'
   exact let ζ1:List AV:=[.str x.name,.sl .sh (x.cap.map encA),.sl .sh (x.labels.map encP),.sl .sh (x.taints.map encT),.bool x.cordon];let ζ2:Heap:={boxes:=[.sl .sh (l.map encN)]::[.func (112:Nat) []]::[.sl (kq c) (acc.map encA)]::(ex++[ζ1]),toks:=[],loops:=[]:Heap};let ζ3:Heap:={boxes:=[.sl .sh (l.map encN)]::[.func (112:Nat) []]::[.sl .sh (w.map encA)]::(ex++[ζ1]),toks:=[],loops:=[]:Heap};let ζ4:List AV:=[.sl .sh (w.map encA),.int .i64 0];let ζ5:List AV:=[.str [],.sl .full [],.sl .full [],.sl .full [],.bool false];goG 120 _ hT (.yes (decide_eq_true (p:=(↑i:Int)<(↑l.length:Int)) (by omega))<|.idx (show idxA 5 (.sl .sh (l.map encN)) (.int .i64 ↑i)=some (.ref (encN x).cells)from idx_row hd (by rfl))<|.load (rfl:loadA true 5 {boxes:=[.sl .sh (l.map encN)]::[.func (112:Nat) []]::[.sl (kq c) (acc.map encA)]::ex,toks:=[],loops:=[]:Heap} (.ref ζ1)=some (.agg ζ1))<|.store (show storeA 5 {boxes:=[.sl .sh (l.map encN)]::[.func (112:Nat) []]::[.sl (kq c) (acc.map encA)]::(ex++[ζ5]),toks:=[],loops:=[]:Heap} (.ptr ([.sl .sh (l.map encN)]::[.func (112:Nat) []]::[.sl (kq c) (acc.map encA)]::ex).length (0:Nat)) (.agg ζ1)=some (ζ2)from store_box2 (cs:=ζ5) (cs':=ζ1) (by simp+zetaDelta) rfl (by simp+zetaDelta [List.set_append]))<|.load (show loadA false 1 ζ2 (.ptr 2 0)=some (.sl (kq c) (acc.map encA))from load_box (cs:=[.sl (kq c) (acc.map encA)]) (by simp+zetaDelta) rfl)<|.load (show loadA false 1 ζ2 (.ptr 1 0)=some (.func (112:Nat) [])from load_box (cs:=[.func (112:Nat) []]) (by simp+zetaDelta) rfl)<|.load (show loadA true 5 ζ2 (.ptr ([.sl .sh (l.map encN)]::[.func (112:Nat) []]::[.sl (kq c) (acc.map encA)]::ex).length (0:Nat))=some (.agg ζ1)from load_box (cs:=ζ1) (by simp+zetaDelta) rfl)<|.callK ([.agg ζ1]) (.sl .sh (x.cap.map encA)) (show Gives cfg (112:FuncId) [encN x] (.sl .sh (x.cap.map encA))from h1)<|.callG ([.sl (kq c) (acc.map encA),.sl .sh (x.cap.map encA)]) (.tuple ζ4) (show Gives cfg (52:FuncId) [.sl .sh (acc.map encA),.sl .sh (x.cap.map encA)] (.tuple ζ4)from h2) Shuts.p ⟨rfl,rfl⟩<|.callK (ζ4) (.sl .sh (w.map encA)) (show Gives cfg (105:FuncId) ζ4 (.sl .sh (w.map encA))from h3)<|.store (show storeA 1 ζ2 (.ptr 2 0) (.sl .sh (w.map encA))=some (ζ3)from store_box2 (cs:=[.sl (kq c) (acc.map encA)]) (cs':=[.sl .sh (w.map encA)]) (by simp+zetaDelta) rfl (by simp+zetaDelta [List.set_append]))<|.bin (show binA .add (.int .i64 ↑i) (.int .i64 1)=some (.int .i64 (↑(i+1)))from inc_i (by omega))<|.cutQ k185_0 [(1,.ptr 2 0),(2,.ptr 1 0),(5,.sl .sh (l.map encN)),(6,.int .i64 (↑l.length)),(7,.int .i64 (↑(i+1)))] (ζ3) (fun T hT=>(ih' T hT))) (by kernel_rfl)
  ·rw[if_neg h0]
   have h3:=takeN_A (w.map encA) h0
   exact let ζ1:List AV:=[.str x.name,.sl .sh (x.cap.map encA),.sl .sh (x.labels.map encP),.sl .sh (x.taints.map encT),.bool x.cordon];let ζ2:Heap:={boxes:=[.sl .sh (l.map encN)]::[.func (112:Nat) []]::[.sl (kq c) (acc.map encA)]::(ex++[ζ1]),toks:=[],loops:=[]:Heap};let ζ3:List AV:=[.sl .sh (w.map encA),.int .i64 er];let ζ4:List AV:=[.str [],.sl .full [],.sl .full [],.sl .full [],.bool false];goG 120 _ hT (.yes (decide_eq_true (p:=(↑i:Int)<(↑l.length:Int)) (by omega))<|.idx (show idxA 5 (.sl .sh (l.map encN)) (.int .i64 ↑i)=some (.ref (encN x).cells)from idx_row hd (by rfl))<|.load (rfl:loadA true 5 {boxes:=[.sl .sh (l.map encN)]::[.func (112:Nat) []]::[.sl (kq c) (acc.map encA)]::ex,toks:=[],loops:=[]:Heap} (.ref ζ1)=some (.agg ζ1))<|.store (show storeA 5 {boxes:=[.sl .sh (l.map encN)]::[.func (112:Nat) []]::[.sl (kq c) (acc.map encA)]::(ex++[ζ4]),toks:=[],loops:=[]:Heap} (.ptr ([.sl .sh (l.map encN)]::[.func (112:Nat) []]::[.sl (kq c) (acc.map encA)]::ex).length (0:Nat)) (.agg ζ1)=some (ζ2)from store_box2 (cs:=ζ4) (cs':=ζ1) (by simp+zetaDelta) rfl (by simp+zetaDelta [List.set_append]))<|.load (show loadA false 1 ζ2 (.ptr 2 0)=some (.sl (kq c) (acc.map encA))from load_box (cs:=[.sl (kq c) (acc.map encA)]) (by simp+zetaDelta) rfl)<|.load (show loadA false 1 ζ2 (.ptr 1 0)=some (.func (112:Nat) [])from load_box (cs:=[.func (112:Nat) []]) (by simp+zetaDelta) rfl)<|.load (show loadA true 5 ζ2 (.ptr ([.sl .sh (l.map encN)]::[.func (112:Nat) []]::[.sl (kq c) (acc.map encA)]::ex).length (0:Nat))=some (.agg ζ1)from load_box (cs:=ζ1) (by simp+zetaDelta) rfl)<|.callK ([.agg ζ1]) (.sl .sh (x.cap.map encA)) (show Gives cfg (112:FuncId) [encN x] (.sl .sh (x.cap.map encA))from h1)<|.callG ([.sl (kq c) (acc.map encA),.sl .sh (x.cap.map encA)]) (.tuple ζ3) (show Gives cfg (52:FuncId) [.sl .sh (acc.map encA),.sl .sh (x.cap.map encA)] (.tuple ζ3)from h2) Shuts.p ⟨rfl,rfl⟩<|.callP (ζ3) (ζ2) (show Pans cfg (105:FuncId) ζ3 (stopV er)from h3) ⟨rfl,rfl⟩ rfl (by exact .inr ⟨h0,rfl⟩)) (by kernel_rfl)
theorem sumN_any(l:List Node)(hn:l.length<9223372036854775807)(hv:∀x∈l,Vin x.cap):∃c,Gives cfg 111 [.sl .sh (l.map encN),.func 112 []] (resV c (sumG [] (l.map (·.cap)))):=by
 have h1:=sumN_loop l hn hv l 0 rfl [] ⟨by simp,fun x hx=>by cases hx⟩ false []
 have ek:kq false=.full:=rfl
 rw[ek]at h1
 have key:Goes cfg a185 [.c c185] (initEnv [.ptr 0 0,.ptr 2 0,.ptr 1 0]) ⟨[[.sl .sh (l.map encN)],[.func 112 []],[.sl .full []]],[],[]⟩ (SumR (.sl .sh (l.map encN)) (.func 112 []) (sumG [] (l.map (·.cap)))):=by
  exact goG 60 [] trivial (.len (show lenA false (.sl .sh (l.map encN))=some (.int .i64 (↑l.length))from len_map _)<|.cutQ k185_0 [(1,.ptr 2 0),(2,.ptr 1 0),(5,.sl .sh (l.map encN)),(6,.int .i64 (↑l.length)),(7,.int .i64 0)] ({boxes:=[[.sl .sh (l.map encN)],[.func (112:Nat) []],[.sl .full []]],toks:=[],loops:=[]:Heap}) (fun T hT=>(h1 T hT))) (by kernel_rfl)
 obtain⟨⟨a,H1⟩,hr,hR⟩:=key
 have hz:=sumG_err (l.map (·.cap)) []
 generalize sumG [] (l.map (·.cap))=z at hR hz⊢
 obtain⟨w,er⟩:=z
 rcases hR with⟨he,c,ex,hR⟩|⟨he,hR⟩
 ·simp only at he
  subst he
  simp only[Prod.mk.injEq]at hR
  obtain⟨rfl,rfl⟩:=hR
  have ht:lim cfg (.fn 77) [.func 185 [.ptr 0 0,.ptr 2 0,.ptr 1 0]] ⟨[[.sl .sh (l.map encN)],[.func 112 []],[.sl .full []]],[],[]⟩=some (.ret (.int .i64 0),⟨[.sl .sh (l.map encN)]::[.func 112 []]::[.sl (kq c) (w.map encA)]::ex,[],[]⟩):=by
   rw[lim_try rfl,l185,hr];rfl
  have hd:=does_callE (xs:=[.func 185 [.ptr 0 0,.ptr 2 0,.ptr 1 0]]) (caps:=[]) ht rfl rfl
  have et:trunc 3 0 (.int .i64 0) ⟨[.sl .sh (l.map encN)]::[.func 112 []]::[.sl (kq c) (w.map encA)]::ex,[],[]⟩=⟨[[.sl .sh (l.map encN)],[.func 112 []],[.sl (kq c) (w.map encA)]],[],[]⟩:=
   trunc_ex (bs0:=[[.sl .sh (l.map encN)],[.func 112 []],[.sl (kq c) (w.map encA)]]) (fun _ _=>rfl) (fun _ _=>by cases c<;>rfl)
  have hd':Does cfg (.call (.c (.func 77 [])) [.c (.func 185 [.ptr 0 0,.ptr 2 0,.ptr 1 0])]) ⟨[[.sl .sh (l.map encN)],[.func 112 []],[.sl .full []]],[],[]⟩ (.int .i64 0) ⟨[[.sl .sh (l.map encN)],[.func 112 []],[.sl (kq c) (w.map encA)]],[],[]⟩:=by
   rw[←et];exact hd
  refine⟨c,Gives.run (l111 _ _) ?_⟩
  exact goG 60 [] trivial (.effY (show Does cfg (.call (.c (.func (77:FuncId) [])) [.c (.func (185:FuncId) [.ptr 0 0,.ptr 2 0,.ptr 1 0])]) {boxes:=[[.sl .sh (l.map encN)],[.func (112:FuncId) []],[.sl .full []]],toks:=[],loops:=[]:Heap} (.int .i64 0) {boxes:=[[.sl .sh (l.map encN)],[.func (112:FuncId) []],[.sl (kq c) (w.map encA)]],toks:=[],loops:=[]:Heap}from hd')<|.ff<|.fin ((.ret (.tuple [.sl (kq c) (w.map encA),.int .i64 0]),{boxes:=[[.sl .sh (l.map encN)],[.func (112:Nat) []],[.sl (kq c) (w.map encA)]],toks:=[],loops:=[]:Heap})) rfl) (by kernel_rfl)
 ·simp only at he hR
  subst hR
  have e0:w=[]:=hz he
  subst e0
  have ht:lim cfg (.fn 77) [.func 185 [.ptr 0 0,.ptr 2 0,.ptr 1 0]] ⟨[[.sl .sh (l.map encN)],[.func 112 []],[.sl .full []]],[],[]⟩=some (.ret (.int .i64 er),H1):=by
   rw[lim_try rfl,l185,hr];rfl
  have hd:=does_callE (xs:=[.func 185 [.ptr 0 0,.ptr 2 0,.ptr 1 0]]) (caps:=[]) ht rfl rfl
  generalize trunc _ _ _ H1=H2 at hd
  refine⟨false,Gives.run (l111 _ _) ?_⟩
  exact goG 60 [] trivial (.effY (show Does cfg (.call (.c (.func (77:FuncId) [])) (List.map .c [.func (185:FuncId) [.ptr 0 0,.ptr 2 0,.ptr 1 0]])) {boxes:=[[.sl .sh (l.map encN)],[.func (112:FuncId) []],[.sl .full []]],toks:=[],loops:=[]:Heap} (shutA (.int .i64 er)) H2 from hd)<|.yes (show(er !=(0:Int))=true from(by simpa using he))<|.fin ((.ret (.tuple [.sl .full [],.int .i64 er]),H2)) rfl) (by kernel_rfl)
end Go.Aa.T
