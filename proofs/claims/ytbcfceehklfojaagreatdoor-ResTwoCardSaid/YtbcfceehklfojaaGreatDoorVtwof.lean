/-
  WHAT THE LAW LEANS ON, part 6 of 9: a machine of values and its soundness; the functions of the law upon it; what they come to.
-/
import Derived.Test.YtbcfceehklfojaaGreatDoorVtwoe
import Derived.Lib.Mul64
set_option linter.unusedVariables false
set_option linter.unusedSimpArgs false
set_option maxRecDepth 100000
namespace Go.Aa.T
open Go.Aa Go.Proofs
def inI(a:Int):Prop:= -9223372036854775808≤a∧a≤9223372036854775807
def bothE(a b:Int):Int:=if a<0 then 1 else if b<0 then 1 else 0
theorem both_any(a b:Int):Gives cfg 100 [.int .i64 a,.int .i64 b] (.int .i64 (bothE a b)):=by
 refine Gives.run (l100 _ _) ?_
 exact let ζ1:Heap:={boxes:=[],toks:=[],loops:=[]:Heap};goG 60 [] trivial (.split (a<(0:Int)) (fun h1=>.yes (show(decide (a<(0:Int)))=true from decide_eq_true h1)<|.tt<|.fin ((.ret (.int .i64 1),ζ1)) (by simp only[IsRet];grind[bothE])) (fun h1=>.no (show(decide (a<(0:Int)))=false from decide_eq_false h1)<|.split (b<(0:Int)) (fun h2=>.yes (show(decide (b<(0:Int)))=true from decide_eq_true h2)<|.fin ((.ret (.int .i64 1),ζ1)) (by simp only[IsRet];grind[bothE])) (fun h2=>.no (show(decide (b<(0:Int)))=false from decide_eq_false h2)<|.fin ((.ret (.int .i64 0),ζ1)) (by simp only[IsRet];grind[bothE])))) (by kernel_rfl)
theorem wrap_u64{x:Int}(h1:0≤x)(h2:x<18446744073709551616):IntKind.u64.wrap x=x:=by
 simp only[IntKind.wrap,IntKind.bits,IntKind.signed,Bool.false_and,show(2:Int)^64=18446744073709551616 from rfl,Bool.false_eq_true,if_false]
 omega
theorem conv_u64{x:Int}(h1:0≤x)(h2:x<18446744073709551616):convA (.int .u64) (.int .i64 x)=some (.int .u64 x):=by
 simp[convA,wrap_u64 h1 h2]
theorem conv_u64x(x:Int):convA (.int .u64) (.int .i64 x)=some (.int .u64 (IntKind.u64.wrap x)):=rfl
theorem addU{a b:Int}(h1:0≤a+b)(h2:a+b<18446744073709551616):binA .add (.int .u64 a) (.int .u64 b)=some (.int .u64 (a+b)):=by
 simp[binA,intBin,wrap_u64 h1 h2]
def toldQ(n:Int):Int×Int:=if 9223372036854775807<n then(0,5)else(n,0)
theorem told_any(n:Int)(h:0≤n):Gives cfg 101 [.int .u64 n,.bool false] (.tuple [.int .i64 (toldQ n).1,.int .i64 (toldQ n).2]):=by
 refine Gives.run (l101 _ _) ?_
 by_cases hn:9223372036854775807<n
 ·have e:toldQ n=(0,5):=by simp[toldQ,hn]
  rw[e]
  exact goG 60 [] trivial (.ff<|.yes (show(decide ((9223372036854775807:Int)<n))=true from decide_eq_true (by exact hn))<|.fin ((.ret (.tuple [.int .i64 0,.int .i64 5]),{boxes:=[],toks:=[],loops:=[]:Heap})) rfl) (by kernel_rfl)
 ·have e:toldQ n=(n,0):=by simp[toldQ,hn]
  rw[e]
  have hc:convA (.int .i64) (.int .u64 n)=some (.int .i64 n):=conv_i64 (by omega)
  exact goG 60 [] trivial (.ff<|.no (show(decide ((9223372036854775807:Int)<n))=false from decide_eq_false (by exact hn))<|.conv (show convA (CV.int IntKind.i64) (.int .u64 n)=some (.int .i64 n)from hc)<|.fin ((.ret (.tuple [.int .i64 n,.int .i64 0]),{boxes:=[],toks:=[],loops:=[]:Heap})) rfl) (by kernel_rfl)
theorem told_over(n:Int):Gives cfg 101 [.int .u64 n,.bool true] (.tuple [.int .i64 0,.int .i64 5]):=by
 refine Gives.run (l101 _ _) ?_
 exact goG 60 [] trivial (.tt<|.tt<|.fin ((.ret (.tuple [.int .i64 0,.int .i64 5]),{boxes:=[],toks:=[],loops:=[]:Heap})) rfl) (by kernel_rfl)
def addQ(a b:Int):Int×Int:=if bothE a b≠0 then(0,bothE a b)else toldQ (a+b)
def subQ(a b:Int):Int×Int:=if bothE a b≠0 then(0,bothE a b)else if a<b then(0,5)else(a-b,0)
theorem both_ok{a b:Int}(h:bothE a b=0):0≤a∧0≤b:=by
 unfold bothE at h
 split at h
 ·cases h
 ·split at h
  ·cases h
  ·omega
theorem qadd_any(a b:Int)(ha:inI a)(hb:inI b):Gives cfg 58 [.int .i64 a,.int .i64 b] (.tuple [.int .i64 (addQ a b).1,.int .i64 (addQ a b).2]):=by
 refine Gives.run (l58 _ _) ?_
 obtain⟨ha1,ha2⟩:=ha
 obtain⟨hb1,hb2⟩:=hb
 have h0:=both_any a b
 by_cases he:bothE a b=0
 ·have e:addQ a b=toldQ (a+b):=by simp[addQ,he]
  rw[e]
  obtain⟨i1,i2⟩:=both_ok he
  rw[he]at h0
  have h1:=told_any (a+b) (by omega)
  have c1:convA (.int .u64) (.int .i64 a)=some (.int .u64 a):=conv_u64 i1 (by omega)
  have c2:convA (.int .u64) (.int .i64 b)=some (.int .u64 b):=conv_u64 i2 (by omega)
  have c3:binA .add (.int .u64 a) (.int .u64 b)=some (.int .u64 (a+b)):=addU (by omega) (by omega)
  exact let ζ1:List AV:=[.int .i64 (toldQ (a+b)).fst,.int .i64 (toldQ (a+b)).snd];goG 60 [] trivial (.callI h0<|.ff<|.conv (show convA (CV.int IntKind.u64) (.int .i64 a)=some (.int .u64 a)from c1)<|.conv (show convA (CV.int IntKind.u64) (.int .i64 b)=some (.int .u64 b)from c2)<|.bin (show binA .add (.int .u64 a) (.int .u64 b)=some (.int .u64 (a+b))from c3)<|.callI h1<|.fin ((.ret (.tuple ζ1),{boxes:=[],toks:=[],loops:=[]:Heap})) rfl) (by kernel_rfl)
 ·have e:addQ a b=(0,bothE a b):=by simp[addQ,he]
  rw[e]
  generalize bothE a b=c at*
  exact goG 60 [] trivial (.callI h0<|.yes (show(c !=(0:Int))=true from(by simpa using he))<|.fin ((.ret (.tuple [.int .i64 0,.int .i64 c]),{boxes:=[],toks:=[],loops:=[]:Heap})) rfl) (by kernel_rfl)
theorem qsub_any(a b:Int)(ha:inI a)(hb:inI b):Gives cfg 64 [.int .i64 a,.int .i64 b] (.tuple [.int .i64 (subQ a b).1,.int .i64 (subQ a b).2]):=by
 refine Gives.run (l64 _ _) ?_
 obtain⟨ha1,ha2⟩:=ha
 obtain⟨hb1,hb2⟩:=hb
 have h0:=both_any a b
 by_cases he:bothE a b=0
 ·obtain⟨i1,i2⟩:=both_ok he
  rw[he]at h0
  have c0:binA .sub (.int .i64 a) (.int .i64 b)=some (.int .i64 (a-b)):=subI (by omega) (by omega)
  by_cases hl:a<b
  ·have e:subQ a b=(0,5):=by simp[subQ,he,hl]
   rw[e]
   have h1:Gives cfg 101 [.int .u64 (IntKind.u64.wrap (a-b)),.bool (decide (a<b))] (.tuple [.int .i64 0,.int .i64 5]):=by rw[decide_eq_true hl];exact told_over _
   have c1:=conv_u64x (a-b)
   exact let ζ1:List AV:=[.int .u64 (IntKind.u64.wrap (a-b)),.bool (decide (a<b))];goG 60 [] trivial (.callI h0<|.ff<|.bin (show binA .sub (.int .i64 a) (.int .i64 b)=some (.int .i64 (a-b))from c0)<|.conv (show convA (CV.int IntKind.u64) (.int .i64 (a-b))=some (.int .u64 (IntKind.u64.wrap (a-b)))from c1)<|.callK (ζ1) (.tuple [.int .i64 0,.int .i64 5]) (show Gives cfg (101:FuncId) ζ1 (.tuple [.int .i64 0,.int .i64 5])from h1)<|.fin ((.ret (.tuple [.int .i64 0,.int .i64 5]),{boxes:=[],toks:=[],loops:=[]:Heap})) rfl) (by kernel_rfl)
  ·have e:subQ a b=(a-b,0):=by simp[subQ,he,hl]
   rw[e]
   have h1:=told_any (a-b) (by omega)
   have e1:toldQ (a-b)=(a-b,0):=by unfold toldQ;rw[if_neg (by omega)]
   rw[e1]at h1
   have h1:Gives cfg 101 [.int .u64 (a-b),.bool (decide (a<b))] (.tuple [.int .i64 (a-b),.int .i64 0]):=by rw[decide_eq_false hl];exact h1
   have c1:convA (.int .u64) (.int .i64 (a-b))=some (.int .u64 (a-b)):=conv_u64 (by omega) (by omega)
   exact let ζ1:List AV:=[.int .u64 (a-b),.bool (decide (a<b))];goG 60 [] trivial (.callI h0<|.ff<|.bin (show binA .sub (.int .i64 a) (.int .i64 b)=some (.int .i64 (a-b))from c0)<|.conv (show convA (CV.int IntKind.u64) (.int .i64 (a-b))=some (.int .u64 (a-b))from c1)<|.callK (ζ1) (.tuple [.int .i64 (a-b),.int .i64 0]) (show Gives cfg (101:FuncId) ζ1 (.tuple [.int .i64 (a-b),.int .i64 0])from h1)<|.fin ((.ret (.tuple [.int .i64 (a-b),.int .i64 0]),{boxes:=[],toks:=[],loops:=[]:Heap})) rfl) (by kernel_rfl)
 ·have e:subQ a b=(0,bothE a b):=by simp[subQ,he]
  rw[e]
  generalize bothE a b=c at*
  exact goG 60 [] trivial (.callI h0<|.yes (show(c !=(0:Int))=true from(by simpa using he))<|.fin ((.ret (.tuple [.int .i64 0,.int .i64 c]),{boxes:=[],toks:=[],loops:=[]:Heap})) rfl) (by kernel_rfl)
theorem qadd_ref(a b:Int)(ha:inI a)(hb:inI b):Gives cfg 61 [.int .i64 a,.int .i64 b] (.tuple [.int .i64 (addQ a b).1,.int .i64 (addQ a b).2]):=by
 refine Gives.run (l61 _ _) ?_
 obtain⟨ha1,ha2⟩:=ha
 obtain⟨hb1,hb2⟩:=hb
 have hs:0≤b→binA .sub (.int .i64 9223372036854775807) (.int .i64 b)=some (.int .i64 (9223372036854775807-b)):=fun h=>subI (by omega) (by omega)
 by_cases he:bothE a b=0
 ·obtain⟨i1,i2⟩:=both_ok he
  have hs:=hs i2
  by_cases ho:9223372036854775807<a+b
  ·have e:addQ a b=(0,5):=by simp[addQ,he,toldQ,ho]
   rw[e]
   exact goG 60 [] trivial (.no (show(decide (a<(0:Int)))=false from decide_eq_false (by omega))<|.no (show(decide (b<(0:Int)))=false from decide_eq_false (by omega))<|.bin (show binA .sub (.int .i64 9223372036854775807) (.int .i64 b)=some (.int .i64 ((9223372036854775807:Int)-b))from hs)<|.yes (show(decide ((9223372036854775807:Int)-b<a))=true from decide_eq_true (by omega))<|.fin ((.ret (.tuple [.int .i64 0,.int .i64 5]),{boxes:=[],toks:=[],loops:=[]:Heap})) rfl) (by kernel_rfl)
  ·have e:addQ a b=(a+b,0):=by simp[addQ,he,toldQ,ho]
   rw[e]
   have ha:binA .add (.int .i64 a) (.int .i64 b)=some (.int .i64 (a+b)):=addI (by omega) (by omega)
   exact goG 60 [] trivial (.no (show(decide (a<(0:Int)))=false from decide_eq_false (by omega))<|.no (show(decide (b<(0:Int)))=false from decide_eq_false (by omega))<|.bin (show binA .sub (.int .i64 9223372036854775807) (.int .i64 b)=some (.int .i64 ((9223372036854775807:Int)-b))from hs)<|.no (show(decide ((9223372036854775807:Int)-b<a))=false from decide_eq_false (by omega))<|.bin (show binA .add (.int .i64 a) (.int .i64 b)=some (.int .i64 (a+b))from ha)<|.fin ((.ret (.tuple [.int .i64 (a+b),.int .i64 0]),{boxes:=[],toks:=[],loops:=[]:Heap})) rfl) (by kernel_rfl)
 ·have e:addQ a b=(0,1):=by
   have:bothE a b=1:=by unfold bothE at he⊢;grind
   simp[addQ,this]
  rw[e]
  have hor:a<0∨b<0:=by unfold bothE at he;grind
  by_cases h1:a<0
  ·exact goG 60 [] trivial (.yes (show(decide (a<(0:Int)))=true from decide_eq_true (by omega))<|.tt<|.fin ((.ret (.tuple [.int .i64 0,.int .i64 1]),{boxes:=[],toks:=[],loops:=[]:Heap})) rfl) (by kernel_rfl)
  ·exact goG 60 [] trivial (.no (show(decide (a<(0:Int)))=false from decide_eq_false (by omega))<|.yes (show(decide (b<(0:Int)))=true from decide_eq_true (by omega))<|.fin ((.ret (.tuple [.int .i64 0,.int .i64 1]),{boxes:=[],toks:=[],loops:=[]:Heap})) rfl) (by kernel_rfl)
theorem qsub_ref(a b:Int)(ha:inI a)(hb:inI b):Gives cfg 65 [.int .i64 a,.int .i64 b] (.tuple [.int .i64 (subQ a b).1,.int .i64 (subQ a b).2]):=by
 refine Gives.run (l65 _ _) ?_
 obtain⟨ha1,ha2⟩:=ha
 obtain⟨hb1,hb2⟩:=hb
 by_cases he:bothE a b=0
 ·obtain⟨i1,i2⟩:=both_ok he
  have c0:binA .sub (.int .i64 a) (.int .i64 b)=some (.int .i64 (a-b)):=subI (by omega) (by omega)
  by_cases hl:a<b
  ·have e:subQ a b=(0,5):=by simp[subQ,he,hl]
   rw[e]
   exact goG 60 [] trivial (.no (show(decide (a<(0:Int)))=false from decide_eq_false (by omega))<|.no (show(decide (b<(0:Int)))=false from decide_eq_false (by omega))<|.yes (show(decide (a<b))=true from decide_eq_true (by omega))<|.fin ((.ret (.tuple [.int .i64 0,.int .i64 5]),{boxes:=[],toks:=[],loops:=[]:Heap})) rfl) (by kernel_rfl)
  ·have e:subQ a b=(a-b,0):=by simp[subQ,he,hl]
   rw[e]
   exact goG 60 [] trivial (.no (show(decide (a<(0:Int)))=false from decide_eq_false (by omega))<|.no (show(decide (b<(0:Int)))=false from decide_eq_false (by omega))<|.no (show(decide (a<b))=false from decide_eq_false (by omega))<|.bin (show binA .sub (.int .i64 a) (.int .i64 b)=some (.int .i64 (a-b))from c0)<|.fin ((.ret (.tuple [.int .i64 (a-b),.int .i64 0]),{boxes:=[],toks:=[],loops:=[]:Heap})) rfl) (by kernel_rfl)
 ·have e:subQ a b=(0,1):=by
   have:bothE a b=1:=by unfold bothE at he⊢;grind
   simp[subQ,this]
  rw[e]
  have hor:a<0∨b<0:=by unfold bothE at he;grind
  by_cases h1:a<0
  ·exact goG 60 [] trivial (.yes (show(decide (a<(0:Int)))=true from decide_eq_true (by omega))<|.tt<|.fin ((.ret (.tuple [.int .i64 0,.int .i64 1]),{boxes:=[],toks:=[],loops:=[]:Heap})) rfl) (by kernel_rfl)
  ·exact goG 60 [] trivial (.no (show(decide (a<(0:Int)))=false from decide_eq_false (by omega))<|.yes (show(decide (b<(0:Int)))=true from decide_eq_true (by omega))<|.fin ((.ret (.tuple [.int .i64 0,.int .i64 1]),{boxes:=[],toks:=[],loops:=[]:Heap})) rfl) (by kernel_rfl)
def getQ(v:List Amount)(s:List UInt8):Int:=match v.find? (fun x=>x.name==s)with
 |some x=>x.n
 |none=>0
theorem getQ_cons(x:Amount)(v:List Amount)(s:List UInt8):getQ (x::v) s=if x.name=s then x.n else getQ v s:=by
 unfold getQ
 by_cases h:x.name=s
 ·simp[List.find?_cons,h]
 ·simp[List.find?_cons,h]
section
variable{H:Heap}{g:FuncId}{k:Nat}{p:Amount→Bool}
theorem idxV_loop(hd:∀y:Amount,Does cfg (.call (.c (.func g [.ptr k 0])) [.c (encA y)]) H (.bool (p y)) H)(l:List Amount)(hn:l.length<9223372036854775807):∀(post:List Amount)(i:Nat)(hdr:l.drop i=post)(T:Env)
 (hT:Has T [(0,.sl .sh (l.map encA)),(1,.func g [.ptr k 0]),(7,.int .i64 l.length),(8,.int .i64 i)]),
 Goes cfg a84 k84_0 T H (fun r=>r=(.ret (.int .i64 (fidxB p post i)),H)):=by
 intro post
 induction post with
 |nil=>
  intro i hdr T hT
  have hge:=drop_ge hdr
  exact goG 60 _ hT (.no (show(decide ((↑i:Int)<(↑l.length:Int)))=false from decide_eq_false (by omega))<|.fin ((.ret (.int .i64 (-1:Int)),H)) rfl) (by kernel_rfl)
 |cons x post ih=>
  intro i hdr T hT
  have hlt:=drop_lt hdr
  have hnx:=drop_next hdr
  have hdx:=hd x
  cases hp:p x with
  |true=>
   rw[hp]at hdx
   have e:fidxB p (x::post) i=i:=by simp[fidxB,hp]
   rw[e]
   exact goG 60 _ hT (.yes (show(decide ((↑i:Int)<(↑l.length:Int)))=true from decide_eq_true (by omega))<|.idx (show idxA 2 (.sl .sh (l.map encA)) (.int .i64 ↑i)=some (.ref (encA x).cells)from idx_row hdr (by rfl))<|.load (show loadA true 2 H (.ref [.str x.name,.int .i64 x.n])=some (.agg [.str x.name,.int .i64 x.n])from rfl)<|.effY (show Does cfg (.call (.c (.func g [.ptr k (0:Nat)])) [.c (encA x)]) H (.bool true) H from hdx)<|.tt<|.fin ((.ret (.int .i64 ↑i),H)) rfl) (by kernel_rfl)
  |false=>
   rw[hp]at hdx
   have e:fidxB p (x::post) i=fidxB p post (i+1):=by simp[fidxB,hp]
   rw[e]
   exact goG 60 _ hT (.yes (show(decide ((↑i:Int)<(↑l.length:Int)))=true from decide_eq_true (by omega))<|.idx (show idxA 2 (.sl .sh (l.map encA)) (.int .i64 ↑i)=some (.ref (encA x).cells)from idx_row hdr (by rfl))<|.load (show loadA true 2 H (.ref [.str x.name,.int .i64 x.n])=some (.agg [.str x.name,.int .i64 x.n])from rfl)<|.effY (show Does cfg (.call (.c (.func g [.ptr k (0:Nat)])) [.c (encA x)]) H (.bool false) H from hdx)<|.ff<|.bin (show binA .add (.int .i64 ↑i) (.int .i64 1)=some (.int .i64 (↑(i+1)))from inc_i (by omega))<|.cutQ k84_0 [(0,.sl .sh (l.map encA)),(1,.func g [.ptr k (0:Nat)]),(7,.int .i64 (↑l.length)),(8,.int .i64 (↑(i+1)))] (H) (fun T hT=>(ih (i+(1:Nat)) hnx T hT))) (by kernel_rfl)
theorem idxV(hd:∀y:Amount,Does cfg (.call (.c (.func g [.ptr k 0])) [.c (encA y)]) H (.bool (p y)) H)(l:List Amount)(hn:l.length<9223372036854775807):
 lim cfg (.fn 84) [.sl .sh (l.map encA),.func g [.ptr k 0]] H=some (.ret (.int .i64 (fidxB p l 0)),H):=by
 rw[l84]
 have h:=idxV_loop hd l hn l 0 rfl
 have key:Goes cfg a84 [.c c84] (initEnv [.sl .sh (l.map encA),.func g [.ptr k 0]]) H (fun r=>r=(.ret (.int .i64 (fidxB p l 0)),H)):=by
  exact goG 60 [] trivial (.len (show lenA false (.sl .sh (l.map encA))=some (.int .i64 (↑l.length))from len_map _)<|.cutQ k84_0 [(0,.sl .sh (l.map encA)),(1,.func g [.ptr k (0:Nat)]),(7,.int .i64 (↑l.length)),(8,.int .i64 0)] (H) (fun T hT=>(h T hT))) (by kernel_rfl)
 obtain⟨r,h,rfl⟩:=key
 exact h
end
theorem fidx_get(s:List UInt8):∀(l pre:List Amount)(i:Nat),pre.length=i→(getQ l s=0∧fidxB (fun x:Amount=>x.name==s) l i= -1)∨∃j x,fidxB (fun x:Amount=>x.name==s) l i=(j:Nat)∧(pre++l)[j]?=some x∧getQ l s=x.n
 |[],pre,i,h=>.inl ⟨rfl,rfl⟩
 |x::l,pre,i,h=>by
  by_cases hx:x.name=s
  ·refine .inr ⟨i,x,by simp[fidxB,hx],by simp[←h],by rw[getQ_cons,if_pos hx]⟩
  ·have e1:fidxB (fun x:Amount=>x.name==s) (x::l) i=fidxB (fun x:Amount=>x.name==s) l (i+1):=by simp[fidxB,hx]
   rw[getQ_cons,if_neg hx,e1]
   rcases fidx_get s l (pre++[x]) (i+1) (by simp[h])with h1|⟨j,y,h1,h2,h3⟩
   ·exact .inl h1
   ·exact .inr ⟨j,y,h1,by simpa using h2,h3⟩
theorem get_one(s:List UInt8)(y:Amount):Does cfg (.call (.c (.func 85 [.ptr 0 0])) [.c (encA y)]) ⟨[[.str s]],[],[]⟩ (.bool (y.name==s)) ⟨[[.str s]],[],[]⟩:=by
 have key:Goes cfg a85 [.c c85] (initEnv [encA y,.ptr 0 0]) ⟨[[.str s]],[],[]⟩ (fun r=>r=(.ret (.bool (y.name==s)),⟨[[.str s]]++[(encA y).cells],[],[]⟩)):=by
  exact goG 60 [] trivial (.fin ((.ret (.bool (y.name==s)),{boxes:=[[.str s],[.str y.name,.int .i64 y.n]],toks:=[],loops:=[]:Heap})) rfl) (by kernel_rfl)
 obtain⟨r,h,rfl⟩:=key
 have h2:lim cfg (.fn 85) ([encA y]++[.ptr 0 0]) ⟨[[.str s]],[],[]⟩=some (.ret (.bool (y.name==s)),⟨[[.str s]]++[(encA y).cells],[],[]⟩):=by
  rw[l85];exact h
 have hd:=does_callE h2 rfl rfl
 rwa [show shutA (.bool (y.name==s))=.bool (y.name==s)from rfl,trunc_plain (bs:=[[.str s]]) (ex:=[(encA y).cells]) (ts:=[]) rfl]at hd
theorem getQ_any(v:List Amount)(s:List UInt8)(hn:v.length<9223372036854775807):Gives cfg 36 [.sl .sh (v.map encA),.str s] (.int .i64 (getQ v s)):=by
 refine Gives.run (l36 _ _) ?_
 have h0:=does_callE (xs:=[.sl .sh (v.map encA),.func 85 [.ptr 0 0]]) (caps:=[]) (idxV (g:=85) (k:=0) (get_one s) v hn) rfl rfl
 rw[show shutA (.int .i64 (fidxB (fun y:Amount=>y.name==s) v 0))=.int .i64 (fidxB (fun y:Amount=>y.name==s) v 0)from rfl,
  show trunc (⟨[[.str s]],[],[]⟩:Heap).boxes.length (⟨[[.str s]],[],[]⟩:Heap).toks.length (.int .i64 (fidxB (fun y:Amount=>y.name==s) v 0)) ⟨[[.str s]],[],[]⟩=⟨[[.str s]],[],[]⟩from rfl]at h0
 rcases fidx_get s v [] 0 rfl with⟨h1,h2⟩|⟨j,x,h1,h2,h3⟩
 ·rw[h2]at h0
  rw[h1]
  exact let ζ1:Heap:={boxes:=[[.str s]],toks:=[],loops:=[]:Heap};goG 60 [] trivial (.effY (show Does cfg (.call (.c (.func (84:FuncId) [])) (List.map .c [.sl .sh (v.map encA),.func (85:FuncId) [.ptr 0 0]])) ζ1 (.int .i64 (-1:Int)) ζ1 from h0)<|.tt<|.fin ((.ret (.int .i64 0),ζ1)) rfl) (by kernel_rfl)
 ·rw[h1]at h0
  rw[h3]
  have hx:idxA 2 (.sl .sh (v.map encA)) (.int .i64 (j:Nat))=some (.ref [.str x.name,.int .i64 x.n]):=idx_get (f:=encA) (x:=x) (by simpa using h2) rfl
  exact let ζ1:Heap:={boxes:=[[.str s]],toks:=[],loops:=[]:Heap};goG 60 [] trivial (.effY (show Does cfg (.call (.c (.func (84:FuncId) [])) (List.map .c [.sl .sh (v.map encA),.func (85:FuncId) [.ptr 0 0]])) ζ1 (.int .i64 ↑j) ζ1 from h0)<|.ff<|.idx (show idxA 2 (.sl .sh (v.map encA)) (.int .i64 ↑j)=some (.ref [.str x.name,.int .i64 x.n])from hx)<|.fin ((.ret (.int .i64 x.n),ζ1)) rfl) (by kernel_rfl)
theorem getQ_ref_loop(v:List Amount)(s:List UInt8)(hn:v.length<9223372036854775807):∀(post:List Amount)(i:Nat)(hd:v.drop i=post)(T:Env)(hT:Has T [(0,.sl .sh (v.map encA)),(1,.str s),(5,.int .i64 i)]),
 Goes cfg a37 k37_0 T Heap.nil (IsRet (.int .i64 (getQ post s))):=by
 intro post
 induction post with
 |nil=>
  intro i hd T hT
  have hge:=drop_ge hd
  exact goG 60 _ hT (.len (show lenA false (.sl .sh (v.map encA))=some (.int .i64 (↑v.length))from len_map _)<|.no (show(decide ((↑i:Int)<(↑v.length:Int)))=false from decide_eq_false (by omega))<|.fin ((.ret (.int .i64 0),{boxes:=[],toks:=[],loops:=[]:Heap})) rfl) (by kernel_rfl)
 |cons x post ih=>
  intro i hd T hT
  have hlt:=drop_lt hd
  have hnx:=drop_next hd
  rw[getQ_cons]
  by_cases hq:x.name=s
  ·rw[if_pos hq]
   exact goG 60 _ hT (.len (show lenA false (.sl .sh (v.map encA))=some (.int .i64 (↑v.length))from len_map _)<|.yes (show(decide ((↑i:Int)<(↑v.length:Int)))=true from decide_eq_true (by omega))<|.idx (show idxA 2 (.sl .sh (v.map encA)) (.int .i64 ↑i)=some (.ref (encA x).cells)from idx_row hd (by rfl))<|.yes (show(x.name==s)=true from(by simpa using hq))<|.idx (show idxA 2 (.sl .sh (v.map encA)) (.int .i64 ↑i)=some (.ref (encA x).cells)from idx_row hd (by rfl))<|.fin ((.ret (.int .i64 x.n),{boxes:=[],toks:=[],loops:=[]:Heap})) rfl) (by kernel_rfl)
  ·rw[if_neg hq]
   exact goG 60 _ hT (.len (show lenA false (.sl .sh (v.map encA))=some (.int .i64 (↑v.length))from len_map _)<|.yes (show(decide ((↑i:Int)<(↑v.length:Int)))=true from decide_eq_true (by omega))<|.idx (show idxA 2 (.sl .sh (v.map encA)) (.int .i64 ↑i)=some (.ref (encA x).cells)from idx_row hd (by rfl))<|.no (show(x.name==s)=false from Bool.eq_false_iff.2 (by simpa using hq))<|.bin (show binA .add (.int .i64 ↑i) (.int .i64 1)=some (.int .i64 (↑(i+1)))from inc_i (by omega))<|.cutQ k37_0 [(0,.sl .sh (v.map encA)),(1,.str s),(5,.int .i64 (↑(i+1)))] ({boxes:=[],toks:=[],loops:=[]:Heap}) (fun T hT=>(ih (i+(1:Nat)) hnx T hT))) (by kernel_rfl)
theorem getQ_ref(v:List Amount)(s:List UInt8)(hn:v.length<9223372036854775807):Gives cfg 37 [.sl .sh (v.map encA),.str s] (.int .i64 (getQ v s)):=by
 refine Gives.run (l37 _ _) ?_
 have h:=getQ_ref_loop v s hn v 0 rfl
 exact goG 60 [] trivial (.cutQ k37_0 [(0,.sl .sh (v.map encA)),(1,.str s),(5,.int .i64 0)] ({boxes:=[],toks:=[],loops:=[]:Heap}) (fun T hT=>(h T hT))) (by kernel_rfl)
def fitsV(need have_:List Amount):Bool:=need.all fun x=>decide (x.n≤getQ have_ x.name)
theorem fits_one(w:List Amount)(hn:w.length<9223372036854775807)(y:Amount):Does cfg (.call (.c (.func 73 [.ptr 0 0])) [.c (encA y)]) ⟨[[.sl .sh (w.map encA)]],[],[]⟩ (.bool (decide (getQ w y.name<y.n))) ⟨[[.sl .sh (w.map encA)]],[],[]⟩:=by
 have hg:=getQ_any w y.name hn
 have key:Goes cfg a73 [.c c73] (initEnv [encA y,.ptr 0 0]) ⟨[[.sl .sh (w.map encA)]],[],[]⟩ (fun r=>r=(.ret (.bool (decide (getQ w y.name<y.n))),⟨[[.sl .sh (w.map encA)]]++[(encA y).cells],[],[]⟩)):=by
  exact let ζ1:List AV:=[.sl .sh (w.map encA),.str y.name];goG 60 [] trivial (.callK (ζ1) (.int .i64 (getQ w y.name)) (show Gives cfg (36:FuncId) ζ1 (.int .i64 (getQ w y.name))from hg)<|.fin ((.ret (.bool (decide (getQ w y.name<y.n))),{boxes:=[[.sl .sh (w.map encA)],[.str y.name,.int .i64 y.n]],toks:=[],loops:=[]:Heap})) rfl) (by kernel_rfl)
 obtain⟨r,h,rfl⟩:=key
 have h2:lim cfg (.fn 73) ([encA y]++[.ptr 0 0]) ⟨[[.sl .sh (w.map encA)]],[],[]⟩=some (.ret (.bool (decide (getQ w y.name<y.n))),⟨[[.sl .sh (w.map encA)]]++[(encA y).cells],[],[]⟩):=by
  rw[l73];exact h
 have hd:=does_callE h2 rfl rfl
 rwa [show shutA (.bool (decide (getQ w y.name<y.n)))=.bool (decide (getQ w y.name<y.n))from rfl,trunc_plain (bs:=[[.sl .sh (w.map encA)]]) (ex:=[(encA y).cells]) (ts:=[]) rfl]at hd
theorem fits_has(v w:List Amount)(hv:v.length<9223372036854775807)(hn:w.length<9223372036854775807):lim cfg (.fn 72) [.sl .sh (v.map encA),.func 73 [.ptr 0 0]] ⟨[[.sl .sh (w.map encA)]],[],[]⟩=some (.ret (.bool (v.any fun y=>decide (getQ w y.name<y.n))),⟨[[.sl .sh (w.map encA)]],[],[]⟩):=by
 rw[l72]
 have h0:=does_callE (xs:=[.sl .sh (v.map encA),.func 73 [.ptr 0 0]]) (caps:=[]) (idxV (g:=73) (k:=0) (fits_one w hn) v hv) rfl rfl
 rw[show shutA (.int .i64 (fidxB (fun y:Amount=>decide (getQ w y.name<y.n)) v 0))=.int .i64 (fidxB (fun y:Amount=>decide (getQ w y.name<y.n)) v 0)from rfl,
  show trunc (⟨[[.sl .sh (w.map encA)]],[],[]⟩:Heap).boxes.length (⟨[[.sl .sh (w.map encA)]],[],[]⟩:Heap).toks.length (.int .i64 (fidxB (fun y:Amount=>decide (getQ w y.name<y.n)) v 0)) ⟨[[.sl .sh (w.map encA)]],[],[]⟩=⟨[[.sl .sh (w.map encA)]],[],[]⟩from rfl]at h0
 have hf:=fidxB_ge (fun y:Amount=>decide (getQ w y.name<y.n)) v 0
 generalize fidxB (fun y:Amount=>decide (getQ w y.name<y.n)) v 0=c at h0 hf
 have key:Goes cfg a72 [.c c72] (initEnv [.sl .sh (v.map encA),.func 73 [.ptr 0 0]]) ⟨[[.sl .sh (w.map encA)]],[],[]⟩ (fun r=>r=(.ret (.bool (v.any fun y=>decide (getQ w y.name<y.n))),⟨[[.sl .sh (w.map encA)]],[],[]⟩)):=by
  exact let ζ1:Heap:={boxes:=[[.sl .sh (w.map encA)]],toks:=[],loops:=[]:Heap};goG 60 [] trivial (.effY (show Does cfg (.call (.c (.func (84:FuncId) [])) (List.map .c [.sl .sh (v.map encA),.func (73:FuncId) [.ptr 0 0]])) ζ1 (.int .i64 c) ζ1 from h0)<|.fin ((.ret (.bool (decide ((0:Int)≤c))),ζ1)) (by simp+zetaDelta [←hf])) (by kernel_rfl)
 obtain⟨r,h,rfl⟩:=key
 exact h
theorem fits_any(v w:List Amount)(hv:v.length<9223372036854775807)(hn:w.length<9223372036854775807):Gives cfg 30 [.sl .sh (v.map encA),.sl .sh (w.map encA)] (.bool (fitsV v w)):=by
 refine Gives.run (l30 _ _) ?_
 have h0:=does_callE (xs:=[.sl .sh (v.map encA),.func 73 [.ptr 0 0]]) (caps:=[]) (fits_has v w hv hn) rfl rfl
 have e:fitsV v w= !(v.any fun y=>decide (getQ w y.name<y.n)):=by
  unfold fitsV
  rw[List.not_any_eq_all_not]
  congr 1;funext x
  rw[←decide_not]
  exact decide_eq_decide.2 (by omega)
 rw[e]
 generalize(v.any fun y=>decide (getQ w y.name<y.n))=b at h0⊢
 rw[show trunc (⟨[[.sl .sh (w.map encA)]],[],[]⟩:Heap).boxes.length (⟨[[.sl .sh (w.map encA)]],[],[]⟩:Heap).toks.length (shutA (.bool b)) ⟨[[.sl .sh (w.map encA)]],[],[]⟩=⟨[[.sl .sh (w.map encA)]],[],[]⟩from rfl,show shutA (.bool b)=.bool b from rfl]at h0
 exact let ζ1:Heap:={boxes:=[[.sl .sh (w.map encA)]],toks:=[],loops:=[]:Heap};goG 60 [] trivial (.effY (show Does cfg (.call (.c (.func (72:FuncId) [])) (List.map .c [.sl .sh (v.map encA),.func (73:FuncId) [.ptr 0 0]])) ζ1 (.bool b) ζ1 from h0)<|.fin ((.ret (.bool !b),ζ1)) rfl) (by kernel_rfl)
theorem fits_ref_loop(v w:List Amount)(hv:v.length<9223372036854775807)(hn:w.length<9223372036854775807):∀(post:List Amount)(i:Nat)(hd:v.drop i=post)(T:Env)(hT:Has T [(0,.sl .sh (v.map encA)),(1,.sl .sh (w.map encA)),(5,.int .i64 i)]),
 Goes cfg a31 k31_0 T Heap.nil (IsRet (.bool (fitsV post w))):=by
 intro post
 induction post with
 |nil=>
  intro i hd T hT
  have hge:=drop_ge hd
  exact goG 60 _ hT (.len (show lenA false (.sl .sh (v.map encA))=some (.int .i64 (↑v.length))from len_map _)<|.no (show(decide ((↑i:Int)<(↑v.length:Int)))=false from decide_eq_false (by omega))<|.fin ((.ret (.bool true),{boxes:=[],toks:=[],loops:=[]:Heap})) rfl) (by kernel_rfl)
 |cons x post ih=>
  intro i hd T hT
  have hlt:=drop_lt hd
  have hnx:=drop_next hd
  have hg:=getQ_ref w x.name hn
  have e:fitsV (x::post) w=(decide (x.n≤getQ w x.name)&&fitsV post w):=rfl
  rw[e]
  by_cases hq:x.n≤getQ w x.name
  ·rw[decide_eq_true hq,Bool.true_and]
   exact let ζ1:List AV:=[.sl .sh (w.map encA),.str x.name];goG 90 _ hT (.len (show lenA false (.sl .sh (v.map encA))=some (.int .i64 (↑v.length))from len_map _)<|.yes (show(decide ((↑i:Int)<(↑v.length:Int)))=true from decide_eq_true (by omega))<|.idx (show idxA 2 (.sl .sh (v.map encA)) (.int .i64 ↑i)=some (.ref (encA x).cells)from idx_row hd (by rfl))<|.idx (show idxA 2 (.sl .sh (v.map encA)) (.int .i64 ↑i)=some (.ref (encA x).cells)from idx_row hd (by rfl))<|.callK (ζ1) (.int .i64 (getQ w x.name)) (show Gives cfg (37:FuncId) ζ1 (.int .i64 (getQ w x.name))from hg)<|.no (show(decide (getQ w x.name<x.n))=false from decide_eq_false (by omega))<|.bin (show binA .add (.int .i64 ↑i) (.int .i64 1)=some (.int .i64 (↑(i+1)))from inc_i (by omega))<|.cutQ k31_0 [(0,.sl .sh (v.map encA)),(1,.sl .sh (w.map encA)),(5,.int .i64 (↑(i+1)))] ({boxes:=[],toks:=[],loops:=[]:Heap}) (fun T hT=>(ih (i+(1:Nat)) hnx T hT))) (by kernel_rfl)
  ·rw[decide_eq_false hq,Bool.false_and]
   exact let ζ1:List AV:=[.sl .sh (w.map encA),.str x.name];goG 90 _ hT (.len (show lenA false (.sl .sh (v.map encA))=some (.int .i64 (↑v.length))from len_map _)<|.yes (show(decide ((↑i:Int)<(↑v.length:Int)))=true from decide_eq_true (by omega))<|.idx (show idxA 2 (.sl .sh (v.map encA)) (.int .i64 ↑i)=some (.ref (encA x).cells)from idx_row hd (by rfl))<|.idx (show idxA 2 (.sl .sh (v.map encA)) (.int .i64 ↑i)=some (.ref (encA x).cells)from idx_row hd (by rfl))<|.callK (ζ1) (.int .i64 (getQ w x.name)) (show Gives cfg (37:FuncId) ζ1 (.int .i64 (getQ w x.name))from hg)<|.yes (show(decide (getQ w x.name<x.n))=true from decide_eq_true (by omega))<|.fin ((.ret (.bool false),{boxes:=[],toks:=[],loops:=[]:Heap})) rfl) (by kernel_rfl)
theorem fits_ref(v w:List Amount)(hv:v.length<9223372036854775807)(hn:w.length<9223372036854775807):Gives cfg 31 [.sl .sh (v.map encA),.sl .sh (w.map encA)] (.bool (fitsV v w)):=by
 refine Gives.run (l31 _ _) ?_
 have h:=fits_ref_loop v w hv hn v 0 rfl
 exact goG 60 [] trivial (.cutQ k31_0 [(0,.sl .sh (v.map encA)),(1,.sl .sh (w.map encA)),(5,.int .i64 0)] ({boxes:=[],toks:=[],loops:=[]:Heap}) (fun T hT=>(h T hT))) (by kernel_rfl)
end Go.Aa.T
set_option linter.unusedVariables false
set_option linter.unusedSimpArgs false
set_option maxRecDepth 100000
namespace Go.Aa.T
open Go.Aa Go.Proofs
theorem wrapU{n:Nat}(h:n<18446744073709551616):IntKind.u64.wrap (n:Int)=n:=wrap_u64 (by omega) (by omega)
theorem bvU(n:Nat)(h:n<18446744073709551616):(BitVec.ofInt IntKind.u64.bits (n:Int)).toNat=n:=by
 show(BitVec.ofInt 64 (n:Int)).toNat=n
 rw[BitVec.toNat_ofInt]
 omega
theorem uAnd32{a:Nat}(h:a<18446744073709551616):binA .and (.int .u64 (a:Int)) (.int .u64 4294967295)=some (.int .u64 ((a%4294967296:Nat):Int)):=by
 have e:(BitVec.ofInt IntKind.u64.bits (a:Int)&&&BitVec.ofInt IntKind.u64.bits 4294967295).toNat=a%4294967296:=by
  rw[BitVec.toNat_and,bvU a h,show(BitVec.ofInt IntKind.u64.bits 4294967295).toNat=2^32-1 from by rfl,Nat.and_two_pow_sub_one_eq_mod]
 simp only[binA,if_true,intBin,e]
 rw[wrapU (by omega)]
theorem uShr32{a:Nat}:binA .shr (.int .u64 (a:Int)) (.int .u64 32)=some (.int .u64 ((a/4294967296:Nat):Int)):=by
 have e:(a:Int).fdiv (2^(min (32:Int).toNat IntKind.u64.bits))=((a/4294967296:Nat):Int):=by
  show(a:Int).fdiv 4294967296=_
  rw[Int.fdiv_eq_ediv_of_nonneg _ (by omega)];omega
 simp only[binA,intShift,e]
 rfl
theorem uMul{a b:Nat}(h:a*b<18446744073709551616):binA .mul (.int .u64 (a:Int)) (.int .u64 (b:Int))=some (.int .u64 ((a*b:Nat):Int)):=by
 simp only[binA,if_true,intBin]
 rw[show(a:Int)*(b:Int)=((a*b:Nat):Int)by simp,wrapU h]
theorem uMulW{a b:Nat}:binA .mul (.int .u64 (a:Int)) (.int .u64 (b:Int))=some (.int .u64 ((a*b%18446744073709551616:Nat):Int)):=by
 simp only[binA,if_true,intBin]
 have e:IntKind.u64.wrap ((a:Int)*(b:Int))=((a*b%18446744073709551616:Nat):Int):=by
  rw[show(a:Int)*(b:Int)=((a*b:Nat):Int)by simp]
  show((a*b:Nat):Int)%18446744073709551616=_
  omega
 rw[e]
theorem uAdd{a b:Nat}(h:a+b<18446744073709551616):binA .add (.int .u64 (a:Int)) (.int .u64 (b:Int))=some (.int .u64 ((a+b:Nat):Int)):=by
 rw[addU (by omega) (by omega)];simp
theorem mul64_any(x y:Nat)(hx:x<18446744073709551616)(hy:y<18446744073709551616):Gives cfg 102 [.int .u64 (x:Int),.int .u64 (y:Int)] (.tuple [.int .u64 ((x*y/18446744073709551616:Nat):Int),.int .u64 ((x*y%18446744073709551616:Nat):Int)]):=by
 refine Gives.run (l102 _ _) ?_
 obtain⟨h1,h2,h3,h4⟩:=Lib.mul64_hi x y hx hy
 have lo:=uMulW (a:=x) (b:=y)
 have hmul:∀{a b:Nat},a≤4294967295→b≤4294967295→a*b<18446744073709551616:=fun ha hb=>by have:=Lib.half_mul_le ha hb;omega
 have c1:=uAnd32 hx
 have c2:=uAnd32 hy
 have c3:=uShr32 (a:=x)
 have c4:=uShr32 (a:=y)
 have l1:x%4294967296≤4294967295:=by omega
 have l2:y%4294967296≤4294967295:=by omega
 have l3:x/4294967296≤4294967295:=by omega
 have l4:y/4294967296≤4294967295:=by omega
 have hi:x*y/18446744073709551616<18446744073709551616:=by
  have:=Nat.mul_lt_mul'' hx hy
  omega
 rw[←h4]at hi
 rw[←h4]
 generalize x*y%18446744073709551616=low at*
 generalize x%4294967296=x0 at*
 generalize y%4294967296=y0 at*
 generalize x/4294967296=x1 at*
 generalize y/4294967296=y1 at*
 have m1:=uMul h1
 have m2:=uMul (hmul l3 l2)
 have m3:=uMul (hmul l1 l4)
 have m4:=uMul (hmul l3 l4)
 have s1:=uShr32 (a:=x0*y0)
 have d1:=uAdd h2
 have n1:=uAnd32 h2
 have s2:=uShr32 (a:=x1*y0+x0*y0/4294967296)
 have d2:=uAdd h3
 have s3:=uShr32 (a:=(x1*y0+x0*y0/4294967296)%4294967296+x0*y1)
 have d3:=uAdd (a:=x1*y1) (b:=(x1*y0+x0*y0/4294967296)/4294967296) (by omega)
 have d4:=uAdd (a:=x1*y1+(x1*y0+x0*y0/4294967296)/4294967296) (b:=((x1*y0+x0*y0/4294967296)%4294967296+x0*y1)/4294967296) hi
 generalize x1*y0+x0*y0/4294967296=t at*
 generalize t%4294967296+x0*y1=w at*
 exact goG 90 [] trivial (.bin (show binA .and (.int .u64 ↑x) (.int .u64 4294967295)=some (.int .u64 ↑x0)from c1)<|.bin (show binA .shr (.int .u64 ↑x) (.int .u64 32)=some (.int .u64 ↑x1)from c3)<|.bin (show binA .and (.int .u64 ↑y) (.int .u64 4294967295)=some (.int .u64 ↑y0)from c2)<|.bin (show binA .shr (.int .u64 ↑y) (.int .u64 32)=some (.int .u64 ↑y1)from c4)<|.bin (show binA .mul (.int .u64 ↑x0) (.int .u64 ↑y0)=some (.int .u64 (↑(x0*y0):Int))from m1)<|.bin (show binA .mul (.int .u64 ↑x1) (.int .u64 ↑y0)=some (.int .u64 (↑(x1*y0):Int))from m2)<|.bin (show binA .shr (.int .u64 (↑(x0*y0):Int)) (.int .u64 32)=some (.int .u64 (↑(x0*y0/(4294967296:Nat)):Int))from s1)<|.bin (show binA .add (.int .u64 (↑(x1*y0):Int)) (.int .u64 (↑(x0*y0/(4294967296:Nat)):Int))=some (.int .u64 ↑t)from d1)<|.bin (show binA .and (.int .u64 ↑t) (.int .u64 4294967295)=some (.int .u64 (↑(t%(4294967296:Nat)):Int))from n1)<|.bin (show binA .shr (.int .u64 ↑t) (.int .u64 32)=some (.int .u64 (↑(t/(4294967296:Nat)):Int))from s2)<|.bin (show binA .mul (.int .u64 ↑x0) (.int .u64 ↑y1)=some (.int .u64 (↑(x0*y1):Int))from m3)<|.bin (show binA .add (.int .u64 (↑(t%(4294967296:Nat)):Int)) (.int .u64 (↑(x0*y1):Int))=some (.int .u64 ↑w)from d2)<|.bin (show binA .mul (.int .u64 ↑x1) (.int .u64 ↑y1)=some (.int .u64 (↑(x1*y1):Int))from m4)<|.bin (show binA .add (.int .u64 (↑(x1*y1):Int)) (.int .u64 (↑(t/(4294967296:Nat)):Int))=some (.int .u64 (↑(x1*y1+t/(4294967296:Nat)):Int))from d3)<|.bin (show binA .shr (.int .u64 ↑w) (.int .u64 32)=some (.int .u64 (↑(w/(4294967296:Nat)):Int))from s3)<|.bin (show binA .add (.int .u64 (↑(x1*y1+t/(4294967296:Nat)):Int)) (.int .u64 (↑(w/(4294967296:Nat)):Int))=some (.int .u64 (↑(x1*y1+t/(4294967296:Nat)+w/(4294967296:Nat)):Int))from d4)<|.bin (show binA .mul (.int .u64 ↑x) (.int .u64 ↑y)=some (.int .u64 ↑low)from lo)<|.fin ((.ret (.tuple [.int .u64 (↑(x1*y1+t/(4294967296:Nat)+w/(4294967296:Nat)):Int),.int .u64 ↑low]),{boxes:=[],toks:=[],loops:=[]:Heap})) rfl) (by kernel_rfl)
end Go.Aa.T
set_option linter.unusedVariables false
set_option linter.unusedSimpArgs false
set_option maxRecDepth 100000
namespace Go.Aa.T
open Go.Aa Go.Proofs
theorem div1000(hi lo un32 un1 q1 r1 q0:Nat)(h:hi<1000)(hl:lo<18446744073709551616)(e1:un32=hi*18014398509481984+lo/1024)(e2:un1=lo%1024*4194304)(e3:q1=un32/4194304000)(e4:r1=un32%4194304000)(e5:q0=(r1*4294967296+un1)/4194304000):
 (hi*18446744073709551616+lo)/1000=q1*4294967296+q0∧q1<4294967296∧q0<4294967296∧r1*4294967296+un1<18014398509481984000∧un32<18446744073709551616:=by
 omega
theorem uShl54{a:Nat}:binA .shl (.int .u64 (a:Int)) (.int .u64 54)=some (.int .u64 ((a*18014398509481984%18446744073709551616:Nat):Int)):=by
 have e:IntKind.u64.wrap ((a:Int)*2^(min (54:Int).toNat IntKind.u64.bits))=((a*18014398509481984%18446744073709551616:Nat):Int):=by
  show((a:Int)*18014398509481984)%18446744073709551616=_
  omega
 simp only[binA,intShift,e]
 rfl
theorem uShr10{a:Nat}:binA .shr (.int .u64 (a:Int)) (.int .u64 10)=some (.int .u64 ((a/1024:Nat):Int)):=by
 have e:(a:Int).fdiv (2^(min (10:Int).toNat IntKind.u64.bits))=((a/1024:Nat):Int):=by
  show(a:Int).fdiv 1024=_
  rw[Int.fdiv_eq_ediv_of_nonneg _ (by omega)];omega
 simp only[binA,intShift,e]
 rfl
theorem uShr54{a:Nat}:binA .shr (.int .u64 (a:Int)) (.int .u64 54)=some (.int .u64 ((a/18014398509481984:Nat):Int)):=by
 have e:(a:Int).fdiv (2^(min (54:Int).toNat IntKind.u64.bits))=((a/18014398509481984:Nat):Int):=by
  show(a:Int).fdiv 18014398509481984=_
  rw[Int.fdiv_eq_ediv_of_nonneg _ (by omega)];omega
 simp only[binA,intShift,e]
 rfl
theorem uOr54{a b:Nat}(ha:a<1024)(hb:b<18014398509481984):binA .or (.int .u64 ((a*18014398509481984:Nat):Int)) (.int .u64 (b:Int))=some (.int .u64 ((a*18014398509481984+b:Nat):Int)):=by
 have e:(BitVec.ofInt IntKind.u64.bits ((a*18014398509481984:Nat):Int)|||BitVec.ofInt IntKind.u64.bits (b:Int)).toNat=a*18014398509481984+b:=by
  rw[BitVec.toNat_or,bvU _ (by omega),bvU _ (by omega)]
  have h:=Nat.shiftLeft_add_eq_or_of_lt (i:=54) (b:=b) (by omega) a
  rw[Nat.shiftLeft_eq]at h
  exact h.symm
 simp only[binA,if_true,intBin,e]
 rw[wrapU (by omega)]
theorem uQuo{a m:Nat}(ha:a<18446744073709551616)(hm:m≠0):binA .quo (.int .u64 (a:Int)) (.int .u64 (m:Int))=some (.int .u64 ((a/m:Nat):Int)):=by
 have h3:(m:Int)≠0:=by omega
 simp only[binA,if_true,intBin,if_neg h3]
 have e:(a:Int).tdiv (m:Int)=((a/m:Nat):Int):=by rw[Int.natCast_ediv];exact Int.tdiv_eq_ediv_of_nonneg (by omega)
 have h4:a/m≤a:=Nat.div_le_self _ _
 rw[e,wrapU (by omega)]
theorem uSubW{a b c:Nat}(hc:c<18446744073709551616)(h:((a:Int)-(b:Int))%18446744073709551616=(c:Int)):binA .sub (.int .u64 (a:Int)) (.int .u64 (b:Int))=some (.int .u64 (c:Int)):=by
 have e:IntKind.u64.wrap ((a:Int)-(b:Int))=(c:Int):=h
 simp only[binA,if_true,intBin,e]
theorem uAddW{a b:Nat}:binA .add (.int .u64 (a:Int)) (.int .u64 (b:Int))=some (.int .u64 (((a+b)%18446744073709551616:Nat):Int)):=by
 have e:IntKind.u64.wrap ((a:Int)+(b:Int))=(((a+b)%18446744073709551616:Nat):Int):=by
  show((a:Int)+(b:Int))%18446744073709551616=_
  omega
 simp only[binA,if_true,intBin,e]
theorem modsub{A b C D:Nat}(h:A+b=C+D)(hD:D<18446744073709551616):((((A%18446744073709551616+b)%18446744073709551616:Nat):Int)-((C%18446744073709551616:Nat):Int))%18446744073709551616=(D:Int):=by omega
theorem a_s9{lo un1 L:Nat}(e2:un1=lo%1024*4194304)(eL:L=lo*18014398509481984%18446744073709551616):L/4294967296=un1:=by omega
theorem a_q{u q r:Nat}(e3:q=u/4194304000)(e4:r=u%4194304000):u=q*4194304000+r∧r<4194304000:=by omega
theorem a_t3{u q r:Nat}(hu:u=q*4194304000+r)(hr:r<4194304000):((u:Int)-((q*4194304000:Nat):Int))%18446744073709551616=(r:Int):=by omega
theorem a_v4{u q r v w:Nat}(hu:u=q*4194304000+r)(hw:w=r*4294967296+v):u*4294967296+v=q*18014398509481984000+w:=by omega
theorem u_and(L:Nat):L%4294967296<4294967296:=by omega
theorem hi54{hi:Nat}(h:hi<1000):hi*18014398509481984%18446744073709551616=hi*18014398509481984:=by omega
theorem a_lo{lo:Nat}(hl:lo<18446744073709551616):lo/1024<18014398509481984:=by omega
theorem a_lt{hi:Nat}(h:hi<1000):hi<1024:=by omega
theorem a_Lt{lo L:Nat}(eL:L=lo*18014398509481984%18446744073709551616):L<18446744073709551616:=by omega
theorem a_mul{q:Nat}(h:q<4294967296):q*4194304000<18446744073709551616:=by omega
theorem a_rr{r:Nat}(h:r<4194304000):4294967296*r<18446744073709551616:=by omega
theorem a_rl{r:Nat}(h:r<4194304000):r<18446744073709551616:=by omega
theorem a_rv{r v:Nat}(h:r<4194304000)(hv:v<4294967296):4294967296*r+v<18446744073709551616:=by omega
theorem a_un1{lo v:Nat}(e:v=lo%1024*4194304):v<4294967296:=by omega
theorem a_u21{w:Nat}(h:w<18014398509481984000):w<18446744073709551616:=by omega
theorem a_x2{q1 q0:Nat}(h1:q1<4294967296)(h0:q0<4294967296):q1*4294967296+q0<18446744073709551616:=by omega
theorem a_x1{q1:Nat}(h1:q1<4294967296):q1*4294967296<18446744073709551616:=by omega
theorem a_D(a b:Nat):∃D:Nat,(D:Int)=((a:Int)-(b:Int))%18446744073709551616∧D<18446744073709551616:=⟨(((a:Int)-(b:Int))%18446744073709551616).toNat,by omega,by omega⟩
theorem div64_arith(P:Nat→Nat→Prop)(hi lo:Nat)(h0:0<hi)(h:hi<1000)(hl:lo<18446744073709551616)
 (walk:∀{un32 un1 q1 r1 q0 u21 L u0 r0 Q RR lo10 hi54 qy rr1 z1 A1 A2 A3 B1 B2 B3 B4 B5 B6 B7:Nat}(k2:q1<4294967296)(k3:q0<4294967296)
   (s4:binA .shl (.int .u64 (hi:Int)) (.int .u64 54)=some (.int .u64 (hi54:Int)))
   (s6:binA .shr (.int .u64 (lo:Int)) (.int .u64 10)=some (.int .u64 (lo10:Int)))
   (s7:binA .or (.int .u64 (hi54:Int)) (.int .u64 (lo10:Int))=some (.int .u64 (un32:Int)))
   (s8:binA .shl (.int .u64 (lo:Int)) (.int .u64 54)=some (.int .u64 (L:Int)))
   (s9:binA .shr (.int .u64 (L:Int)) (.int .u64 32)=some (.int .u64 (un1:Int)))
   (t0:binA .and (.int .u64 (L:Int)) (.int .u64 4294967295)=some (.int .u64 (u0:Int)))
   (t1:binA .quo (.int .u64 (un32:Int)) (.int .u64 4194304000)=some (.int .u64 (q1:Int)))
   (t2:binA .mul (.int .u64 (q1:Int)) (.int .u64 4194304000)=some (.int .u64 (qy:Int)))
   (t3:binA .sub (.int .u64 (un32:Int)) (.int .u64 (qy:Int))=some (.int .u64 (r1:Int)))
   (t4:binA .mul (.int .u64 (q1:Int)) (.int .u64 0)=some (.int .u64 0))
   (t5:binA .mul (.int .u64 4294967296) (.int .u64 (r1:Int))=some (.int .u64 (rr1:Int)))
   (t6:binA .add (.int .u64 (rr1:Int)) (.int .u64 (un1:Int))=some (.int .u64 (z1:Int)))
   (v1:binA .mul (.int .u64 (un32:Int)) (.int .u64 4294967296)=some (.int .u64 (A1:Int)))
   (v2:binA .add (.int .u64 (A1:Int)) (.int .u64 (un1:Int))=some (.int .u64 (A2:Int)))
   (v3:binA .mul (.int .u64 (q1:Int)) (.int .u64 18014398509481984000)=some (.int .u64 (A3:Int)))
   (v4:binA .sub (.int .u64 (A2:Int)) (.int .u64 (A3:Int))=some (.int .u64 (u21:Int)))
   (w1:binA .quo (.int .u64 (u21:Int)) (.int .u64 4194304000)=some (.int .u64 (q0:Int)))
   (w2:binA .mul (.int .u64 (q0:Int)) (.int .u64 4194304000)=some (.int .u64 (B1:Int)))
   (w3:binA .sub (.int .u64 (u21:Int)) (.int .u64 (B1:Int))=some (.int .u64 (r0:Int)))
   (w4:binA .mul (.int .u64 (q0:Int)) (.int .u64 0)=some (.int .u64 0))
   (w5:binA .mul (.int .u64 4294967296) (.int .u64 (r0:Int))=some (.int .u64 (B2:Int)))
   (w6:binA .add (.int .u64 (B2:Int)) (.int .u64 (u0:Int))=some (.int .u64 (B3:Int)))
   (x1:binA .mul (.int .u64 (q1:Int)) (.int .u64 4294967296)=some (.int .u64 (B4:Int)))
   (x2:binA .add (.int .u64 (B4:Int)) (.int .u64 (q0:Int))=some (.int .u64 (Q:Int)))
   (x3:binA .mul (.int .u64 (u21:Int)) (.int .u64 4294967296)=some (.int .u64 (B5:Int)))
   (x4:binA .add (.int .u64 (B5:Int)) (.int .u64 (u0:Int))=some (.int .u64 (B6:Int)))
   (x5:binA .mul (.int .u64 (q0:Int)) (.int .u64 18014398509481984000)=some (.int .u64 (B7:Int)))
   {D:Nat}(x6:binA .sub (.int .u64 (B6:Int)) (.int .u64 (B7:Int))=some (.int .u64 (D:Int)))
   (x7:binA .shr (.int .u64 (D:Int)) (.int .u64 54)=some (.int .u64 (RR:Int))),P Q RR):∃rem:Nat,P ((hi*18446744073709551616+lo)/1000) rem:=by
 obtain⟨un32,e1⟩:∃n,n=hi*18014398509481984+lo/1024:=⟨_,rfl⟩
 obtain⟨un1,e2⟩:∃n,n=lo%1024*4194304:=⟨_,rfl⟩
 obtain⟨q1,e3⟩:∃n,n=un32/4194304000:=⟨_,rfl⟩
 obtain⟨r1,e4⟩:∃n,n=un32%4194304000:=⟨_,rfl⟩
 obtain⟨u21,e6⟩:∃n,n=r1*4294967296+un1:=⟨_,rfl⟩
 obtain⟨q0,e5⟩:∃n,n=u21/4194304000:=⟨_,rfl⟩
 obtain⟨k1,k2,k3,k4,k5⟩:=div1000 hi lo un32 un1 q1 r1 q0 h hl e1 e2 e3 e4 (by rw[e5,e6])
 rw[←e6]at k4
 obtain⟨f1,f2⟩:=a_q e3 e4
 obtain⟨L,eL⟩:∃n,n=lo*18014398509481984%18446744073709551616:=⟨_,rfl⟩
 have fv:=a_v4 (v:=un1) f1 e6
 have hun:=a_un1 e2
 have hu21:=a_u21 k4
 obtain⟨r0,er⟩:∃n,n=u21%4194304000:=⟨_,rfl⟩
 obtain⟨g1,g2⟩:=a_q e5 er
 obtain⟨D,eD,hD⟩:=a_D ((u21*4294967296%18446744073709551616+L%4294967296)%18446744073709551616) (q0*18014398509481984000%18446744073709551616)
 refine⟨D/18014398509481984,walk (un32:=un32) (un1:=un1) (q1:=q1) (r1:=r1) (q0:=q0) (u21:=u21) (L:=L) (u0:=L%4294967296) (r0:=r0) (D:=D)
  (lo10:=lo/1024) (hi54:=hi*18014398509481984) (qy:=q1*4194304000) (rr1:=4294967296*r1) (z1:=4294967296*r1+un1)
  (A1:=un32*4294967296%18446744073709551616) (A2:=(un32*4294967296%18446744073709551616+un1)%18446744073709551616) (A3:=q1*18014398509481984000%18446744073709551616)
  (B1:=q0*4194304000) (B2:=4294967296*r0) (B3:=4294967296*r0+L%4294967296) (B4:=q1*4294967296) (B5:=u21*4294967296%18446744073709551616) (B6:=(u21*4294967296%18446744073709551616+L%4294967296)%18446744073709551616) (B7:=q0*18014398509481984000%18446744073709551616)
  k2 k3 ?_ uShr10 ?_ ?_ ?_ ?_ ?_ ?_ ?_ ?_ ?_ ?_ ?_ uAddW ?_ ?_ ?_ ?_ ?_ ?_ ?_ ?_ ?_ ?_ ?_ uAddW ?_ ?_ uShr54⟩
 ·rw[uShl54,hi54 h]
 ·rw[uOr54 (a_lt h) (a_lo hl),e1]
 ·rw[uShl54,eL]
 ·rw[uShr32,a_s9 e2 eL]
 ·exact uAnd32 (a_Lt eL)
 ·rw[e3];exact uQuo (m:=4194304000) k5 (by decide)
 ·exact uMul (b:=4194304000) (a_mul k2)
 ·exact uSubW (a_rl f2) (a_t3 f1 f2)
 ·exact uMul (a:=q1) (b:=0) (by rw[Nat.mul_zero];decide)
 ·exact uMul (a:=4294967296) (a_rr f2)
 ·exact uAdd (a_rv f2 hun)
 ·exact uMulW (b:=4294967296)
 ·exact uMulW (b:=18014398509481984000)
 ·exact uSubW hu21 (modsub fv hu21)
 ·rw[e5];exact uQuo (m:=4194304000) hu21 (by decide)
 ·exact uMul (b:=4194304000) (a_mul k3)
 ·exact uSubW (a_rl g2) (a_t3 g1 g2)
 ·exact uMul (a:=q0) (b:=0) (by rw[Nat.mul_zero];decide)
 ·exact uMul (a:=4294967296) (a_rr g2)
 ·exact uAdd (a_rv g2 (u_and L))
 ·exact uMul (b:=4294967296) (a_x1 k2)
 ·rw[uAdd (a_x2 k2 k3),k1]
 ·exact uMulW (b:=4294967296)
 ·exact uMulW (b:=18014398509481984000)
 ·exact uSubW hD eD.symm
end Go.Aa.T
set_option linter.unusedVariables false
set_option linter.unusedSimpArgs false
set_option maxRecDepth 100000
namespace Go.Aa.T
open Go.Aa Go.Proofs
theorem lz1000:Gives cfg 148 [.int .u64 1000] (.int .i64 54):=by
 have h10:Gives cfg 140 [.int .u64 1000] (.int .i64 10):=by
  refine Gives.run (l140 _ _) ?_
  exact goG 120 [] trivial (.ff<|.ff<|.tt<|.bin (show binA .shr (.int .u64 1000) (.int .u64 8)=some (.int .u64 (Int.fdiv (1000:Int) ((2:Int)^min (Int.toNat (8:Int)) IntKind.u64.bits)))from rfl)<|.bin (show binA .add (.int .i64 0) (.int .i64 8)=some (.int .i64 (↑((7:Nat)+(1:Nat)):Int))from inc_i (by decide))<|.conv (show convA (CV.int IntKind.u8) (.int .u64 (Int.fdiv (1000:Int) ((2:Int)^min (Int.toNat (8:Int)) IntKind.u64.bits)))=some (.int .u8 (IntKind.u8.wrap (Int.fdiv (1000:Int) ((2:Int)^min (Int.toNat (8:Int)) IntKind.u64.bits))))from rfl)<|.idxs (show idxsA
 (AV.str
   ((0:UInt8)::
     (1:UInt8)::
       (2:UInt8)::
         (2:UInt8)::
           (3:UInt8)::
             (3:UInt8)::
               (3:UInt8)::
                 (3:UInt8)::
                   (4:UInt8)::
                     (4:UInt8)::
                       (4:UInt8)::
                         (4:UInt8)::
                           (4:UInt8)::
                             (4:UInt8)::
                               (4:UInt8)::
                                 (4:UInt8)::
                                   (5:UInt8)::
                                     (5:UInt8)::
                                       (5:UInt8)::
                                         (5:UInt8)::
                                           (5:UInt8)::
                                             (5:UInt8)::
                                               (5:UInt8)::
                                                 (5:UInt8)::
                                                   (5:UInt8)::
                                                     (5:UInt8)::
                                                       (5:UInt8)::
                                                         (5:UInt8)::
                                                           (5:UInt8)::
                                                             (5:UInt8)::
                                                               (5:UInt8)::
                                                                 (5:UInt8)::
                                                                   (6:UInt8)::
                                                                     (6:UInt8)::
                                                                       (6:UInt8)::
                                                                         (6:UInt8)::
                                                                           (6:UInt8)::
                                                                             (6:UInt8)::
                                                                               (6:UInt8)::
                                                                                 (6:UInt8)::
                                                                                   (6:UInt8)::
                                                                                     (6:UInt8)::
                                                                                       (6:UInt8)::
                                                                                         (6:UInt8)::
                                                                                           (6:UInt8)::
                                                                                             (6:UInt8)::
                                                                                               (6:UInt8)::
                                                                                                 (6:UInt8)::
                                                                                                   (6:UInt8)::
                                                                                                     (6:UInt8)::
                                                                                                       (6:UInt8)::
                                                                                                         (6:UInt8)::
                                                                                                           (6:UInt8)::
                                                                                                             (6:UInt8)::
                                                                                                               (6:UInt8)::
                                                                                                                 (6:UInt8)::
                                                                                                                   (6:UInt8)::
                                                                                                                     (6:UInt8)::
                                                                                                                       (6:UInt8)::
                                                                                                                         (6:UInt8)::
                                                                                                                           (6:UInt8)::
                                                                                                                             (6:UInt8)::
                                                                                                                               (6:UInt8)::
                                                                                                                                 (6:UInt8)::
                                                                                                                                   have y:=
                                                                                                                                    have y:=
                                                                                                                                     have y:=
                                                                                                                                      have y:=
                                                                                                                                       (7:UInt8)::
                                                                                                                                         (7:UInt8)::
                                                                                                                                           (7:UInt8)::
                                                                                                                                             (7:UInt8)::
                                                                                                                                               have y:=
                                                                                                                                                have y:=
                                                                                                                                                 have y:=
                                                                                                                                                  have y:=
                                                                                                                                                   have y:=[(8:UInt8),(8:UInt8),(8:UInt8),(8:UInt8)];
                                                                                                                                                   (8:UInt8)::(8:UInt8)::(8:UInt8)::(8:UInt8)::y;
                                                                                                                                                  have y:=(8:UInt8)::(8:UInt8)::(8:UInt8)::(8:UInt8)::y;
                                                                                                                                                  (8:UInt8)::(8:UInt8)::(8:UInt8)::(8:UInt8)::y;
                                                                                                                                                 have y:=
                                                                                                                                                  have y:=(8:UInt8)::(8:UInt8)::(8:UInt8)::(8:UInt8)::y;
                                                                                                                                                  (8:UInt8)::(8:UInt8)::(8:UInt8)::(8:UInt8)::y;
                                                                                                                                                 have y:=(8:UInt8)::(8:UInt8)::(8:UInt8)::(8:UInt8)::y;
                                                                                                                                                 (8:UInt8)::(8:UInt8)::(8:UInt8)::(8:UInt8)::y;
                                                                                                                                                have y:=
                                                                                                                                                 have y:=
                                                                                                                                                  have y:=(8:UInt8)::(8:UInt8)::(8:UInt8)::(8:UInt8)::y;
                                                                                                                                                  (8:UInt8)::(8:UInt8)::(8:UInt8)::(8:UInt8)::y;
                                                                                                                                                 have y:=(8:UInt8)::(8:UInt8)::(8:UInt8)::(8:UInt8)::y;
                                                                                                                                                 (8:UInt8)::(8:UInt8)::(8:UInt8)::(8:UInt8)::y;
                                                                                                                                                have y:=
                                                                                                                                                 have y:=(8:UInt8)::(8:UInt8)::(8:UInt8)::(8:UInt8)::y;
                                                                                                                                                 (8:UInt8)::(8:UInt8)::(8:UInt8)::(8:UInt8)::y;
                                                                                                                                                have y:=(8:UInt8)::(8:UInt8)::(8:UInt8)::(8:UInt8)::y;
                                                                                                                                                (8:UInt8)::(8:UInt8)::(8:UInt8)::(8:UInt8)::y;
                                                                                                                                               have y:=
                                                                                                                                                have y:=
                                                                                                                                                 have y:=
                                                                                                                                                  have y:=(8:UInt8)::(8:UInt8)::(8:UInt8)::(8:UInt8)::y;
                                                                                                                                                  (8:UInt8)::(8:UInt8)::(8:UInt8)::(8:UInt8)::y;
                                                                                                                                                 have y:=(8:UInt8)::(8:UInt8)::(8:UInt8)::(8:UInt8)::y;
                                                                                                                                                 (8:UInt8)::(8:UInt8)::(8:UInt8)::(8:UInt8)::y;
                                                                                                                                                have y:=
                                                                                                                                                 have y:=(8:UInt8)::(8:UInt8)::(8:UInt8)::(8:UInt8)::y;
                                                                                                                                                 (8:UInt8)::(8:UInt8)::(8:UInt8)::(8:UInt8)::y;
                                                                                                                                                have y:=(8:UInt8)::(8:UInt8)::(8:UInt8)::(8:UInt8)::y;
                                                                                                                                                (8:UInt8)::(8:UInt8)::(8:UInt8)::(8:UInt8)::y;
                                                                                                                                               have y:=
                                                                                                                                                have y:=
                                                                                                                                                 have y:=(8:UInt8)::(8:UInt8)::(8:UInt8)::(8:UInt8)::y;
                                                                                                                                                 (8:UInt8)::(8:UInt8)::(8:UInt8)::(8:UInt8)::y;
                                                                                                                                                have y:=(8:UInt8)::(8:UInt8)::(8:UInt8)::(8:UInt8)::y;
                                                                                                                                                (8:UInt8)::(8:UInt8)::(8:UInt8)::(8:UInt8)::y;
                                                                                                                                               have y:=
                                                                                                                                                have y:=(8:UInt8)::(8:UInt8)::(8:UInt8)::(8:UInt8)::y;
                                                                                                                                                (8:UInt8)::(8:UInt8)::(8:UInt8)::(8:UInt8)::y;
                                                                                                                                               have y:=(8:UInt8)::(8:UInt8)::(8:UInt8)::(8:UInt8)::y;
                                                                                                                                               (8:UInt8)::(8:UInt8)::(8:UInt8)::(8:UInt8)::y;
                                                                                                                                      (7:UInt8)::(7:UInt8)::(7:UInt8)::(7:UInt8)::y;
                                                                                                                                     have y:=(7:UInt8)::(7:UInt8)::(7:UInt8)::(7:UInt8)::y;
                                                                                                                                     (7:UInt8)::(7:UInt8)::(7:UInt8)::(7:UInt8)::y;
                                                                                                                                    have y:=
                                                                                                                                     have y:=(7:UInt8)::(7:UInt8)::(7:UInt8)::(7:UInt8)::y;
                                                                                                                                     (7:UInt8)::(7:UInt8)::(7:UInt8)::(7:UInt8)::y;
                                                                                                                                    have y:=(7:UInt8)::(7:UInt8)::(7:UInt8)::(7:UInt8)::y;
                                                                                                                                    (7:UInt8)::(7:UInt8)::(7:UInt8)::(7:UInt8)::y;
                                                                                                                                   have y:=
                                                                                                                                    have y:=
                                                                                                                                     have y:=(7:UInt8)::(7:UInt8)::(7:UInt8)::(7:UInt8)::y;
                                                                                                                                     (7:UInt8)::(7:UInt8)::(7:UInt8)::(7:UInt8)::y;
                                                                                                                                    have y:=(7:UInt8)::(7:UInt8)::(7:UInt8)::(7:UInt8)::y;
                                                                                                                                    (7:UInt8)::(7:UInt8)::(7:UInt8)::(7:UInt8)::y;
                                                                                                                                   have y:=
                                                                                                                                    have y:=(7:UInt8)::(7:UInt8)::(7:UInt8)::(7:UInt8)::y;
                                                                                                                                    (7:UInt8)::(7:UInt8)::(7:UInt8)::(7:UInt8)::y;
                                                                                                                                   have y:=(7:UInt8)::(7:UInt8)::(7:UInt8)::(7:UInt8)::y;
                                                                                                                                   (7:UInt8)::(7:UInt8)::(7:UInt8)::(7:UInt8)::y))
 (AV.int .u8 (IntKind.u8.wrap (Int.fdiv (1000:Int) ((2:Int)^min (Int.toNat (8:Int)) IntKind.u64.bits))))=some (AV.int .u8 (↑(UInt8.toNat (2:UInt8)):Int))from rfl)<|.conv (show convA (CV.int IntKind.i64) (AV.int .u8 (↑(UInt8.toNat (2:UInt8)):Int))=some (AV.int .i64 (IntKind.i64.wrap (↑(UInt8.toNat (2:UInt8)):Int)))from rfl)<|.bin (show binA .add (AV.int .i64 (↑((7:Nat)+(1:Nat)):Int)) (AV.int .i64 (IntKind.i64.wrap (↑(UInt8.toNat (2:UInt8)):Int)))=some (AV.int .i64 (↑((7:Nat)+(2:Nat)+(1:Nat)):Int))from inc_i (by decide))<|.fin ((ARes.ret (AV.int .i64 (↑((7:Nat)+(2:Nat)+(1:Nat)):Int)),{boxes:=[],toks:=[],loops:=[]:Heap})) rfl) (by kernel_rfl)
 refine Gives.run (l148 _ _) ?_
 exact goG 60 [] trivial (.callI h10<|.bin (show binA .sub (.int .i64 64) (.int .i64 10)=some (.int .i64 (↑((53:Nat)+(1:Nat)):Int))from inc_i (by omega))<|.fin ((.ret (.int .i64 (↑((53:Nat)+(1:Nat)):Int)),{boxes:=[],toks:=[],loops:=[]:Heap})) rfl) (by kernel_rfl)
theorem div64_one(lo:Nat)(hl:lo<18446744073709551616):∃rem:Int,Gives cfg 127 [.int .u64 (0:Nat),.int .u64 (lo:Int),.int .u64 1000] (.tuple [.int .u64 ((lo/1000:Nat):Int),.int .u64 rem]):=by
 have q:=uQuo (a:=lo) (m:=1000) hl (by decide)
 have r:binA .rem (.int .u64 (lo:Int)) (.int .u64 1000)=some (.int .u64 ((lo%1000:Nat):Int)):=rem_nat (m:=1000) (by decide)
 have q:binA .quo (.int .u64 (lo:Int)) (.int .u64 1000)=some (.int .u64 ((lo/1000:Nat):Int)):=q
 refine⟨((lo%1000:Nat):Int),Gives.run (l127 _ _) ?_⟩
 generalize lo/1000=d at*
 generalize lo%1000=e at*
 exact goG 120 [] trivial (.ff<|.ff<|.tt<|.bin (show binA .quo (.int .u64 ↑lo) (.int .u64 1000)=some (.int .u64 ↑d)from q)<|.bin (show binA .rem (.int .u64 ↑lo) (.int .u64 1000)=some (.int .u64 ↑e)from r)<|.fin ((.ret (.tuple [.int .u64 ↑d,.int .u64 ↑e]),{boxes:=[],toks:=[],loops:=[]:Heap})) rfl) (by kernel_rfl)
end Go.Aa.T
set_option linter.unusedVariables false
set_option linter.unusedSimpArgs false
set_option maxRecDepth 100000
namespace Go.Aa.T
open Go.Aa Go.Proofs
theorem div_loop2{Y s:Int}{q1 q0 u21 u0 r0 Q RR B2 B3 B4 B5 B6 B7 D:Nat}(k2:q1<4294967296)(k3:q0<4294967296)
 (w4:binA .mul (.int .u64 (q0:Int)) (.int .u64 0)=some (.int .u64 0))
 (w5:binA .mul (.int .u64 4294967296) (.int .u64 (r0:Int))=some (.int .u64 (B2:Int)))
 (w6:binA .add (.int .u64 (B2:Int)) (.int .u64 (u0:Int))=some (.int .u64 (B3:Int)))
 (x1:binA .mul (.int .u64 (q1:Int)) (.int .u64 4294967296)=some (.int .u64 (B4:Int)))
 (x2:binA .add (.int .u64 (B4:Int)) (.int .u64 (q0:Int))=some (.int .u64 (Q:Int)))
 (x3:binA .mul (.int .u64 (u21:Int)) (.int .u64 4294967296)=some (.int .u64 (B5:Int)))
 (x4:binA .add (.int .u64 (B5:Int)) (.int .u64 (u0:Int))=some (.int .u64 (B6:Int)))
 (x5:binA .mul (.int .u64 (q0:Int)) (.int .u64 Y)=some (.int .u64 (B7:Int)))
 (x6:binA .sub (.int .u64 (B6:Int)) (.int .u64 (B7:Int))=some (.int .u64 (D:Int)))
 (x7:binA .shr (.int .u64 (D:Int)) (.int .u64 s)=some (.int .u64 (RR:Int)))
 (T:Env)(hT:Has T [(2,.int .u64 Y),(8,.int .u64 s),(10,.int .u64 0),(14,.int .u64 (u0:Int)),(15,.int .u64 (q1:Int)),(16,.int .u64 (r0:Int)),(17,.int .u64 (u21:Int)),(18,.int .u64 (q0:Int))]):
 Goes cfg a127 k127_1 T Heap.nil (IsRet (.tuple [.int .u64 (Q:Int),.int .u64 (RR:Int)])):=by
 exact goG 120 [(2,.int .u64 Y),(8,.int .u64 s),(10,.int .u64 0),(14,.int .u64 (u0:Int)),(15,.int .u64 (q1:Int)),(16,.int .u64 (r0:Int)),(17,.int .u64 (u21:Int)),(18,.int .u64 (q0:Int))] hT (.no (show(decide ((4294967296:Int)≤(↑q0:Int)))=false from decide_eq_false (by omega))<|.bin (show binA .mul (.int .u64 ↑q0) (.int .u64 0)=some (.int .u64 0)from w4)<|.bin (show binA .mul (.int .u64 4294967296) (.int .u64 ↑r0)=some (.int .u64 ↑B2)from w5)<|.bin (show binA .add (.int .u64 ↑B2) (.int .u64 ↑u0)=some (.int .u64 ↑B3)from w6)<|.ff<|.bin (show binA .mul (.int .u64 ↑q1) (.int .u64 4294967296)=some (.int .u64 ↑B4)from x1)<|.bin (show binA .add (.int .u64 ↑B4) (.int .u64 ↑q0)=some (.int .u64 ↑Q)from x2)<|.bin (show binA .mul (.int .u64 ↑u21) (.int .u64 4294967296)=some (.int .u64 ↑B5)from x3)<|.bin (show binA .add (.int .u64 ↑B5) (.int .u64 ↑u0)=some (.int .u64 ↑B6)from x4)<|.bin (show binA .mul (.int .u64 ↑q0) (.int .u64 Y)=some (.int .u64 ↑B7)from x5)<|.bin (show binA .sub (.int .u64 ↑B6) (.int .u64 ↑B7)=some (.int .u64 ↑D)from x6)<|.bin (show binA .shr (.int .u64 ↑D) (.int .u64 s)=some (.int .u64 ↑RR)from x7)<|.fin ((.ret (.tuple [.int .u64 ↑Q,.int .u64 ↑RR]),{boxes:=[],toks:=[],loops:=[]:Heap})) rfl) (by kernel_rfl)
theorem div_loop1{Y yn1 s:Int}{un32 un1 q1 q0 r1 u21 u0 r0 Q RR rr1 z1 A1 A2 A3 B1 B2 B3 B4 B5 B6 B7 D:Nat}(k2:q1<4294967296)(k3:q0<4294967296)
 (t4:binA .mul (.int .u64 (q1:Int)) (.int .u64 0)=some (.int .u64 0))
 (t5:binA .mul (.int .u64 4294967296) (.int .u64 (r1:Int))=some (.int .u64 (rr1:Int)))
 (t6:binA .add (.int .u64 (rr1:Int)) (.int .u64 (un1:Int))=some (.int .u64 (z1:Int)))
 (v1:binA .mul (.int .u64 (un32:Int)) (.int .u64 4294967296)=some (.int .u64 (A1:Int)))
 (v2:binA .add (.int .u64 (A1:Int)) (.int .u64 (un1:Int))=some (.int .u64 (A2:Int)))
 (v3:binA .mul (.int .u64 (q1:Int)) (.int .u64 Y)=some (.int .u64 (A3:Int)))
 (v4:binA .sub (.int .u64 (A2:Int)) (.int .u64 (A3:Int))=some (.int .u64 (u21:Int)))
 (w1:binA .quo (.int .u64 (u21:Int)) (.int .u64 yn1)=some (.int .u64 (q0:Int)))
 (w2:binA .mul (.int .u64 (q0:Int)) (.int .u64 yn1)=some (.int .u64 (B1:Int)))
 (w3:binA .sub (.int .u64 (u21:Int)) (.int .u64 (B1:Int))=some (.int .u64 (r0:Int)))
 (w4:binA .mul (.int .u64 (q0:Int)) (.int .u64 0)=some (.int .u64 0))
 (w5:binA .mul (.int .u64 4294967296) (.int .u64 (r0:Int))=some (.int .u64 (B2:Int)))
 (w6:binA .add (.int .u64 (B2:Int)) (.int .u64 (u0:Int))=some (.int .u64 (B3:Int)))
 (x1:binA .mul (.int .u64 (q1:Int)) (.int .u64 4294967296)=some (.int .u64 (B4:Int)))
 (x2:binA .add (.int .u64 (B4:Int)) (.int .u64 (q0:Int))=some (.int .u64 (Q:Int)))
 (x3:binA .mul (.int .u64 (u21:Int)) (.int .u64 4294967296)=some (.int .u64 (B5:Int)))
 (x4:binA .add (.int .u64 (B5:Int)) (.int .u64 (u0:Int))=some (.int .u64 (B6:Int)))
 (x5:binA .mul (.int .u64 (q0:Int)) (.int .u64 Y)=some (.int .u64 (B7:Int)))
 (x6:binA .sub (.int .u64 (B6:Int)) (.int .u64 (B7:Int))=some (.int .u64 (D:Int)))
 (x7:binA .shr (.int .u64 (D:Int)) (.int .u64 s)=some (.int .u64 (RR:Int)))
 (T:Env)(hT:Has T [(2,.int .u64 Y),(8,.int .u64 s),(9,.int .u64 yn1),(10,.int .u64 0),(11,.int .u64 (un32:Int)),(13,.int .u64 (un1:Int)),(14,.int .u64 (u0:Int)),(15,.int .u64 (q1:Int)),(16,.int .u64 (r1:Int))]):
 Goes cfg a127 k127_0 T Heap.nil (IsRet (.tuple [.int .u64 (Q:Int),.int .u64 (RR:Int)])):=by
 have ih:=div_loop2 (Y:=Y) (s:=s) k2 k3 w4 w5 w6 x1 x2 x3 x4 x5 x6 x7
 exact goG 120 [(2,.int .u64 Y),(8,.int .u64 s),(9,.int .u64 yn1),(10,.int .u64 0),(11,.int .u64 (un32:Int)),(13,.int .u64 (un1:Int)),(14,.int .u64 (u0:Int)),(15,.int .u64 (q1:Int)),(16,.int .u64 (r1:Int))] hT (.no (show(decide ((4294967296:Int)≤(↑q1:Int)))=false from decide_eq_false (by omega))<|.bin (show binA .mul (.int .u64 ↑q1) (.int .u64 0)=some (.int .u64 0)from t4)<|.bin (show binA .mul (.int .u64 4294967296) (.int .u64 ↑r1)=some (.int .u64 ↑rr1)from t5)<|.bin (show binA .add (.int .u64 ↑rr1) (.int .u64 ↑un1)=some (.int .u64 ↑z1)from t6)<|.ff<|.bin (show binA .mul (.int .u64 ↑un32) (.int .u64 4294967296)=some (.int .u64 ↑A1)from v1)<|.bin (show binA .add (.int .u64 ↑A1) (.int .u64 ↑un1)=some (.int .u64 ↑A2)from v2)<|.bin (show binA .mul (.int .u64 ↑q1) (.int .u64 Y)=some (.int .u64 ↑A3)from v3)<|.bin (show binA .sub (.int .u64 ↑A2) (.int .u64 ↑A3)=some (.int .u64 ↑u21)from v4)<|.bin (show binA .quo (.int .u64 ↑u21) (.int .u64 yn1)=some (.int .u64 ↑q0)from w1)<|.bin (show binA .mul (.int .u64 ↑q0) (.int .u64 yn1)=some (.int .u64 ↑B1)from w2)<|.bin (show binA .sub (.int .u64 ↑u21) (.int .u64 ↑B1)=some (.int .u64 ↑r0)from w3)<|.cutQ k127_1 [(2,.int .u64 Y),(8,.int .u64 s),(10,.int .u64 0),(14,.int .u64 ↑u0),(15,.int .u64 ↑q1),(16,.int .u64 ↑r0),(17,.int .u64 ↑u21),(18,.int .u64 ↑q0)] ({boxes:=[],toks:=[],loops:=[]:Heap}) (fun T hT=>(ih T hT))) (by kernel_rfl)
theorem div64_walk{y Y yn1 s sh:Int}{hi lo un32 un1 q1 r1 q0 u21 L u0 r0 Q RR lo10 hi54 qy rr1 z1 A1 A2 A3 B1 B2 B3 B4 B5 B6 B7:Nat}(lz:Gives cfg 148 [.int .u64 y] (.int .i64 s))(cv:convA (.int .u64) (.int .i64 s)=some (.int .u64 s))(e0:(y==0)=false)(e1:(decide (y≤(hi:Int)))=false)(e2:((hi:Int)==0)=false)(s1:binA .shl (.int .u64 y) (.int .u64 s)=some (.int .u64 Y))(s2:binA .shr (.int .u64 Y) (.int .u64 32)=some (.int .u64 yn1))(s3:binA .and (.int .u64 Y) (.int .u64 4294967295)=some (.int .u64 0))(s5:binA .sub (.int .u64 64) (.int .u64 s)=some (.int .u64 sh))(k2:q1<4294967296)(k3:q0<4294967296)
 (s4:binA .shl (.int .u64 (hi:Int)) (.int .u64 s)=some (.int .u64 (hi54:Int)))
 (s6:binA .shr (.int .u64 (lo:Int)) (.int .u64 sh)=some (.int .u64 (lo10:Int)))
 (s7:binA .or (.int .u64 (hi54:Int)) (.int .u64 (lo10:Int))=some (.int .u64 (un32:Int)))
 (s8:binA .shl (.int .u64 (lo:Int)) (.int .u64 s)=some (.int .u64 (L:Int)))
 (s9:binA .shr (.int .u64 (L:Int)) (.int .u64 32)=some (.int .u64 (un1:Int)))
 (t0:binA .and (.int .u64 (L:Int)) (.int .u64 4294967295)=some (.int .u64 (u0:Int)))
 (t1:binA .quo (.int .u64 (un32:Int)) (.int .u64 yn1)=some (.int .u64 (q1:Int)))
 (t2:binA .mul (.int .u64 (q1:Int)) (.int .u64 yn1)=some (.int .u64 (qy:Int)))
 (t3:binA .sub (.int .u64 (un32:Int)) (.int .u64 (qy:Int))=some (.int .u64 (r1:Int)))
 (t4:binA .mul (.int .u64 (q1:Int)) (.int .u64 0)=some (.int .u64 0))
 (t5:binA .mul (.int .u64 4294967296) (.int .u64 (r1:Int))=some (.int .u64 (rr1:Int)))
 (t6:binA .add (.int .u64 (rr1:Int)) (.int .u64 (un1:Int))=some (.int .u64 (z1:Int)))
 (v1:binA .mul (.int .u64 (un32:Int)) (.int .u64 4294967296)=some (.int .u64 (A1:Int)))
 (v2:binA .add (.int .u64 (A1:Int)) (.int .u64 (un1:Int))=some (.int .u64 (A2:Int)))
 (v3:binA .mul (.int .u64 (q1:Int)) (.int .u64 Y)=some (.int .u64 (A3:Int)))
 (v4:binA .sub (.int .u64 (A2:Int)) (.int .u64 (A3:Int))=some (.int .u64 (u21:Int)))
 (w1:binA .quo (.int .u64 (u21:Int)) (.int .u64 yn1)=some (.int .u64 (q0:Int)))
 (w2:binA .mul (.int .u64 (q0:Int)) (.int .u64 yn1)=some (.int .u64 (B1:Int)))
 (w3:binA .sub (.int .u64 (u21:Int)) (.int .u64 (B1:Int))=some (.int .u64 (r0:Int)))
 (w4:binA .mul (.int .u64 (q0:Int)) (.int .u64 0)=some (.int .u64 0))
 (w5:binA .mul (.int .u64 4294967296) (.int .u64 (r0:Int))=some (.int .u64 (B2:Int)))
 (w6:binA .add (.int .u64 (B2:Int)) (.int .u64 (u0:Int))=some (.int .u64 (B3:Int)))
 (x1:binA .mul (.int .u64 (q1:Int)) (.int .u64 4294967296)=some (.int .u64 (B4:Int)))
 (x2:binA .add (.int .u64 (B4:Int)) (.int .u64 (q0:Int))=some (.int .u64 (Q:Int)))
 (x3:binA .mul (.int .u64 (u21:Int)) (.int .u64 4294967296)=some (.int .u64 (B5:Int)))
 (x4:binA .add (.int .u64 (B5:Int)) (.int .u64 (u0:Int))=some (.int .u64 (B6:Int)))
 (x5:binA .mul (.int .u64 (q0:Int)) (.int .u64 Y)=some (.int .u64 (B7:Int)))
 {D:Nat}(x6:binA .sub (.int .u64 (B6:Int)) (.int .u64 (B7:Int))=some (.int .u64 (D:Int)))
 (x7:binA .shr (.int .u64 (D:Int)) (.int .u64 s)=some (.int .u64 (RR:Int))):
 Gives cfg 127 [.int .u64 (hi:Int),.int .u64 (lo:Int),.int .u64 y] (.tuple [.int .u64 (Q:Int),.int .u64 (RR:Int)]):=by
 have ih:=div_loop1 k2 k3 t4 t5 t6 v1 v2 v3 v4 w1 w2 w3 w4 w5 w6 x1 x2 x3 x4 x5 x6 x7
 refine Gives.run (l127 _ _) ?_
 exact goG 240 [] trivial (.no (show(y==(0:Int))=false from Bool.eq_false_iff.2 (by simpa using e0))<|.no (show(decide (y≤(↑hi:Int)))=false from decide_eq_false (by simpa using e1))<|.no (show((↑hi:Int)==(0:Int))=false from Bool.eq_false_iff.2 (by simpa using e2))<|.callI lz<|.conv (show convA (CV.int IntKind.u64) (.int .i64 s)=some (.int .u64 s)from cv)<|.bin (show binA .shl (.int .u64 y) (.int .u64 s)=some (.int .u64 Y)from s1)<|.bin (show binA .shr (.int .u64 Y) (.int .u64 32)=some (.int .u64 yn1)from s2)<|.bin (show binA .and (.int .u64 Y) (.int .u64 4294967295)=some (.int .u64 0)from s3)<|.bin (show binA .shl (.int .u64 ↑hi) (.int .u64 s)=some (.int .u64 ↑hi54)from s4)<|.bin (show binA .sub (.int .u64 64) (.int .u64 s)=some (.int .u64 sh)from s5)<|.bin (show binA .shr (.int .u64 ↑lo) (.int .u64 sh)=some (.int .u64 ↑lo10)from s6)<|.bin (show binA .or (.int .u64 ↑hi54) (.int .u64 ↑lo10)=some (.int .u64 ↑un32)from s7)<|.bin (show binA .shl (.int .u64 ↑lo) (.int .u64 s)=some (.int .u64 ↑L)from s8)<|.bin (show binA .shr (.int .u64 ↑L) (.int .u64 32)=some (.int .u64 ↑un1)from s9)<|.bin (show binA .and (.int .u64 ↑L) (.int .u64 4294967295)=some (.int .u64 ↑u0)from t0)<|.bin (show binA .quo (.int .u64 ↑un32) (.int .u64 yn1)=some (.int .u64 ↑q1)from t1)<|.bin (show binA .mul (.int .u64 ↑q1) (.int .u64 yn1)=some (.int .u64 ↑qy)from t2)<|.bin (show binA .sub (.int .u64 ↑un32) (.int .u64 ↑qy)=some (.int .u64 ↑r1)from t3)<|.cutQ k127_0 [(2,.int .u64 Y),(8,.int .u64 s),(9,.int .u64 yn1),(10,.int .u64 0),(11,.int .u64 ↑un32),(13,.int .u64 ↑un1),(14,.int .u64 ↑u0),(15,.int .u64 ↑q1),(16,.int .u64 ↑r1)] ({boxes:=[],toks:=[],loops:=[]:Heap}) (fun T hT=>(ih T hT))) (by kernel_rfl)
theorem div64_two(hi lo:Nat)(h0:0<hi)(h:hi<1000)(hl:lo<18446744073709551616):∃rem:Nat,Gives cfg 127 [.int .u64 (hi:Int),.int .u64 (lo:Int),.int .u64 1000] (.tuple [.int .u64 (((hi*18446744073709551616+lo)/1000:Nat):Int),.int .u64 (rem:Int)]):=
 div64_arith (fun Q R=>Gives cfg 127 [.int .u64 (hi:Int),.int .u64 (lo:Int),.int .u64 1000] (.tuple [.int .u64 (Q:Int),.int .u64 (R:Int)])) hi lo h0 h hl
  fun k2 k3 s4 s6 s7 s8 s9 t0 t1 t2 t3 t4 t5 t6 v1 v2 v3 v4 w1 w2 w3 w4 w5 w6 x1 x2 x3 x4 x5 _ x6 x7=>div64_walk lz1000 (by kernel_rfl) (by decide) (by simp;omega) (by simp;omega) (by kernel_rfl) (by kernel_rfl) (by kernel_rfl) (by kernel_rfl) k2 k3 s4 s6 s7 s8 s9 t0 t1 t2 t3 t4 t5 t6 v1 v2 v3 v4 w1 w2 w3 w4 w5 w6 x1 x2 x3 x4 x5 x6 x7
end Go.Aa.T
set_option linter.unusedVariables false
set_option linter.unusedSimpArgs false
set_option maxRecDepth 100000
namespace Go.Aa.T
open Go.Aa Go.Proofs
def uqG(x:List UInt8):List (List UInt8)→List (List UInt8)
 |[]=>[]
 |y::l=>if y=x then uqG x l else y::uqG y l
def uq:List (List UInt8)→List (List UInt8)
 |[]=>[]
 |x::l=>x::uqG x l
def namesOf(l:List (List UInt8)):List (List UInt8):=uq (isort l)
theorem uqG_len(x:List UInt8):∀l:List (List UInt8),(uqG x l).length≤l.length
 |[]=>Nat.le_refl _
 |y::l=>by
  unfold uqG
  split
  ·have:=uqG_len x l;simp;omega
  ·have:=uqG_len y l;simp;omega
theorem uq_len(l:List (List UInt8)):(uq l).length≤l.length:=by
 cases l with
 |nil=>exact Nat.le_refl _
 |cons x l=>have:=uqG_len x l;simp[uq];omega
theorem trunc_len{bs:List (List AV)}{ls:List LRec}{v:AV}{nb nt:Nat}(h:bs.length=nb):trunc nb nt v ⟨bs,[],ls⟩=⟨bs,[],ls⟩:=by
 unfold trunc
 have e:∀(b:Bool),(if b=true then bs.take nb else bs)=bs:=fun b=>by
  split
  ·exact List.take_of_length_le (by omega)
  ·rfl
 simp only[e,List.take_nil,ite_self]
theorem unrow_one:∀(n:Nat)(cs:List AV),n≤cs.length→unrow 1 n cs=cs.take n
 |0,cs,_=>by simp[unrow]
 |n+1,[],h=>by simp at h
 |n+1,c::cs,h=>by
  simp only[unrow,if_true,List.headD_cons,List.drop_succ_cons,List.drop_zero,List.take_succ_cons]
  rw[unrow_one n cs (by simpa using h)]
theorem strs_data(l:List (List UInt8)):(l.map AV.str).all data0=true:=List.all_eq_true.2 fun x hx=>by
 obtain⟨s,-,rfl⟩:=List.mem_map.1 hx
 rfl
theorem out_box1{bs:List (List AV)}{tk:List Nat}{ls:List LRec}{kk n:Nat}{cs:List AV}(hk:bs[kk]?=some cs)(hn:n≤cs.length)(hd:cs.all data0=true):dataOut ⟨bs,tk,ls⟩ (.msl kk 0 n 1)=some (.sl .sh (cs.take n)):=by
 have h1:frzA ⟨bs,tk,ls⟩ (.msl kk 0 n 1)=some (.sl .sh (cs.take n)):=by
  simp only[frzA,frz2,frz1,hk,Nat.zero_add,List.drop_zero,Nat.mul_one]
  rw[if_pos ⟨hn,Nat.zero_le _,Nat.one_pos,hd⟩,unrow_one n cs hn]
 unfold dataOut
 rw[if_neg (by simp[shutA,shut2,shut1,isData,data2,data1,data0]),h1]
 rfl
theorem does_load1{kk m:Nat}{bs:List (List AV)}{tk:List Nat}{ls:List LRec}{C:List (List UInt8)}{y:List UInt8}(hk:bs[kk]?=some (C.map .str))(hy:C[m]?=some y):Does cfg (.load false 1 (.c (.ptr kk m))) ⟨bs,tk,ls⟩ (.str y) ⟨bs,tk,ls⟩:=fun T=>by
 have hm:=(List.getElem?_eq_some_iff.1 hy).1
 have:loadA false 1 ⟨bs,tk,ls⟩ (.ptr kk m)=some (.str y):=by
  simp only[loadA,hk,List.length_map]
  rw[if_pos (by omega)]
  simp[hy]
 simp only[opStep,ev,this]
theorem does_store1{kk m:Nat}{bs:List (List AV)}{tk:List Nat}{ls:List LRec}{C:List (List UInt8)}(y:List UInt8)(hk:bs[kk]?=some (C.map .str))(hm:m<C.length):Does cfg (.store 1 (.c (.ptr kk m)) (.c (.str y))) ⟨bs,tk,ls⟩ .undef ⟨bs.set kk ((C.set m y).map .str),tk,ls⟩:=fun T=>by
 have:storeA 1 ⟨bs,tk,ls⟩ (.ptr kk m) (.str y)=some ⟨bs.set kk ((C.set m y).map .str),tk,ls⟩:=by
  simp only[storeA,hk,List.length_map]
  rw[if_pos ⟨by omega,rfl,rfl,by omega⟩]
  simp[AV.cells,paste,List.map_set]
 simp only[opStep,ev,this]
theorem does_growB{es b kk n:Nat}{B:List (List AV)}{tk:List Nat}{ls:List LRec}{cs:List AV}{v:AV}{sk:SK}(hk:B[kk]?=some cs)(hn:cs.length=n*es)(h0:0<n)(hd:cs.all data0=true)(hv:cellsN es v=true)(hvd:dataOk [v]=true)(hb:(n+1)*b≤140737488355328):
 Does cfg (.appendM es b (.c (.msl kk 0 n es)) (.c (.sl sk [v]))) ⟨B,tk,ls⟩ (.msl B.length 0 (n+1) es) ⟨B.set kk []++[cs++v.cells],tk,ls⟩:=fun T=>by
 have:appendMA es b ⟨B,tk,ls⟩ (.msl kk 0 n es) (.sl sk [v])=some (.msl B.length 0 (n+1) es,⟨B.set kk []++[cs++v.cells],tk,ls⟩):=by
  simp only[appendMA,hk]
  rw[if_pos ⟨trivial,trivial,h0,hn,hd,hb,by simp only[lenOk,List.all_cons,List.all_nil,Bool.and_true];exact hv,hvd⟩]
  simp[rowCells]
 simp only[opStep,ev,this]
theorem does_newB{es b:Nat}{B:List (List AV)}{tk:List Nat}{ls:List LRec}{v:AV}{sk:SK}(hv:cellsN es v=true)(hvd:dataOk [v]=true)(hb:b≤140737488355328):
 Does cfg (.appendM es b (.c (.sl .full [])) (.c (.sl sk [v]))) ⟨B,tk,ls⟩ (.msl B.length 0 1 es) ⟨B++[v.cells],tk,ls⟩:=fun T=>by
 have:appendMA es b ⟨B,tk,ls⟩ (.sl .full []) (.sl sk [v])=some (.msl B.length 0 1 es,⟨B++[v.cells],tk,ls⟩):=by
  simp only[appendMA]
  rw[if_pos ⟨by trivial,by trivial,by simpa using hb,by simp only[lenOk,List.all_cons,List.all_nil,Bool.and_true];exact hv,hvd⟩]
  simp[rowCells]
 simp only[opStep,ev,this]
section
variable(kk n:Nat)(B0:List (List AV))
def RetC(res:List (List UInt8))(r:ARes×Heap):Prop:=∃(m:Nat)(C:List (List UInt8)),r=(.ret (.msl kk 0 m 1),⟨B0.set kk (C.map .str),[],[]⟩)∧C.take m=res∧m≤C.length∧C.length=n
theorem compact_loop2(hn:n<9223372036854775807)(hk0:kk<B0.length)(k0:Nat)(h1:1≤k0):∀(post:List (List UInt8))(q m:Nat)(prev:List UInt8)(U C:List (List UInt8))(hm:m=k0+q)(hq:1≤q)(hC:C.length=n)(hU:C.take U.length=U)(hd:C.drop (m-1)=prev::post)(hl:U.length+1≤m)(T:Env)
 (hT:Has T [(0,.msl kk 0 n 1),(3,.int .i64 U.length),(4,.msl kk k0 (n-k0) 1),(5,.int .i64 q)]),
 Goes cfg a125 k125_1 T ⟨B0.set kk (C.map .str),[],[]⟩ (RetC kk n B0 (U++uqG prev post)):=by
 intro post
 induction post with
 |nil=>
  intro q m prev U C hm hq hC hU hd hl T hT
  have hlen:n-(m-1)=1:=by
   have:=congrArg List.length hd
   simpa[hC]using this
  have hk:(B0.set kk (C.map AV.str))[kk]?=some (C.map .str):=by rw[List.getElem?_set_self hk0]
  have c1:binA .lss (.int .i64 (q:Nat)) (.int .i64 ((n-k0:Nat):Int))=some (.bool false):=lssF (by omega)
  have s1:sliceA 1 (.msl kk 0 n 1) (some (.int .i64 (U.length:Nat))) none none=some (.msl kk U.length (n-U.length) 1):=by
   simp only[sliceA,sliceM,boundA]
   rw[if_neg (by omega)]
   rw[if_pos ⟨by omega,by omega⟩]
   simp only[Int.toNat_natCast]
   rw[if_pos (by omega)]
   simp
  have s2:sliceA 1 (.msl kk 0 n 1) none (some (.int .i64 (U.length:Nat))) none=some (.msl kk 0 U.length 1):=by
   simp only[sliceA,sliceM,boundA]
   rw[if_neg (by omega)]
   rw[if_pos ⟨by omega,by omega⟩]
   simp only[Int.toNat_natCast]
   rw[if_pos (by omega)]
   simp
  have cl:Does cfg (.clearM [.str []] (.c (.msl kk U.length (n-U.length) 1))) ⟨B0.set kk (C.map .str),[],[]⟩ (.tuple []) ⟨B0.set kk ((U++List.replicate (n-U.length) []).map .str),[],[]⟩:=fun T=>by
   have e0:(List.replicate (n-U.length) [AV.str []]).flatten=List.replicate (n-U.length) (.str []):=by
    generalize n-U.length=j
    induction j with
    |zero=>rfl
    |succ j ih=>rw[List.replicate_succ,List.flatten_cons,ih];rfl
   have:clearA [.str []] ⟨B0.set kk (C.map .str),[],[]⟩ (.msl kk U.length (n-U.length) 1)=some ⟨B0.set kk ((U++List.replicate (n-U.length) []).map .str),[],[]⟩:=by
    simp only[clearA,hk]
    rw[if_pos ⟨by simp[hC];omega,rfl,by omega,by omega,rfl⟩,e0,paste_spec _ _ _ (by simp[hC];omega)]
    simp only[List.set_set]
    congr 3
    rw[←List.map_take,hU,List.drop_eq_nil_of_le (by simp[hC];omega)]
    simp
   simp only[opStep,ev,this]
  exact let ζ1:Heap:={boxes:=B0.set kk (List.map .str (U++List.replicate (n-U.length) [])),toks:=[],loops:=[]:Heap};goG 60 _ hT (.len (show lenA false (.msl kk k0 (n-k0) (1:Nat))=some (.int .i64 (↑(n-k0):Int))from rfl)<|.no (show(decide ((↑q:Int)<(↑(n-k0):Int)))=false from decide_eq_false (by omega))<|.slice (show sliceA (1:Nat) (.msl kk (0:Nat) n (1:Nat)) (some (.int .i64 (↑U.length))) none none=some (.msl kk U.length (n-U.length) (1:Nat))from s1)<|.effY (show Does cfg (.clearM [.str []] (.c (.msl kk U.length (n-U.length) (1:Nat)))) {boxes:=B0.set kk (List.map .str C),toks:=[],loops:=[]:Heap} (.tuple []) ζ1 from cl)<|.slice (show sliceA (1:Nat) (.msl kk (0:Nat) n (1:Nat)) none (some (.int .i64 (↑U.length))) none=some (.msl kk (0:Nat) U.length (1:Nat))from s2)<|.fin ((.ret (.msl kk (0:Nat) U.length (1:Nat)),ζ1)) (by exact⟨U.length,U++List.replicate (n-U.length) [],rfl,by simp[uqG],by simp,by simp;omega⟩)) (by kernel_rfl)
 |cons y post ih=>
  intro q m prev U C hm hq hC hU hd hl T hT
  have hlen:n-(m-1)=post.length+2:=by
   have:=congrArg List.length hd
   simpa[hC]using this
  have hk:(B0.set kk (C.map AV.str))[kk]?=some (C.map .str):=by rw[List.getElem?_set_self hk0]
  have c1:binA .lss (.int .i64 (q:Nat)) (.int .i64 ((n-k0:Nat):Int))=some (.bool true):=lssT (by omega)
  have hprev:C[k0+(q-1)]?=some prev:=by
   have:=drop_at hd
   rwa [show m-1=k0+(q-1)by omega]at this
  have hd1:C.drop m=y::post:=by
   have:=drop_next hd
   rwa [show m-1+1=m by omega]at this
  have hy:C[k0+q]?=some y:=by rw[←hm];exact drop_at hd1
  obtain⟨q,rfl⟩:∃p,q=p+1:=⟨q-1,by omega⟩
  have i1:idxA 1 (.msl kk k0 (n-k0) 1) (.int .i64 ((q+1:Nat):Int))=some (.ptr kk (k0+(q+1))):=by
   have:=idx_msl (k:=kk) (off:=k0) (n:=n-k0) (es:=1) (q:=.i64) (i:=q+1) (by omega)
   rwa [Nat.mul_one]at this
  have i2:idxA 1 (.msl kk k0 (n-k0) 1) (.int .i64 (q:Nat))=some (.ptr kk (k0+q)):=by
   have:=idx_msl (k:=kk) (off:=k0) (n:=n-k0) (es:=1) (q:=.i64) (i:=q) (by omega)
   rwa [Nat.mul_one]at this
  have l1:=does_load1 (tk:=[]) (ls:=[]) hk hy
  rw[Nat.add_sub_cancel]at hprev
  have l2:=does_load1 (tk:=[]) (ls:=[]) hk hprev
  have d1:=dec_i (i:=q) (by omega)
  by_cases e:y=prev
  ·have hg:uqG prev (y::post)=uqG prev post:=by simp[uqG,e]
   rw[hg]
   have n1:binA .neq (.str y) (.str prev)=some (.bool false):=strNeF e
   have ih':=ih (q+1+1) (m+1) prev U C (by omega) (by omega) hC hU (by rw[Nat.add_sub_cancel,hd1,e]) (by omega)
   exact let ζ1:Heap:={boxes:=B0.set kk (List.map .str C),toks:=[],loops:=[]:Heap};goG 90 _ hT (.len (show lenA false (.msl kk k0 (n-k0) (1:Nat))=some (.int .i64 (↑(n-k0):Int))from rfl)<|.yes (show(decide ((↑(q+(1:Nat)):Int)<(↑(n-k0):Int)))=true from decide_eq_true (by omega))<|.idx (show idxA 1 (.msl kk k0 (n-k0) (1:Nat)) (.int .i64 (↑(q+(1:Nat)):Int))=some (.ptr kk (k0+(q+(1:Nat))))from i1)<|.effY (show Does cfg (.load false (1:Nat) (.c (.ptr kk (k0+(q+(1:Nat)))))) ζ1 (.str y) ζ1 from l1)<|.bin (show binA .sub (.int .i64 (↑(q+(1:Nat)):Int)) (.int .i64 1)=some (.int .i64 ↑q)from d1)<|.idx (show idxA 1 (.msl kk k0 (n-k0) (1:Nat)) (.int .i64 ↑q)=some (.ptr kk (k0+q))from i2)<|.effY (show Does cfg (.load false (1:Nat) (.c (.ptr kk (k0+q)))) ζ1 (.str prev) ζ1 from l2)<|.no (show(!y==prev)=false from by have hh:(y==prev)=true:=(by simpa using e);simp[hh])<|.bin (show binA .add (.int .i64 (↑(q+(1:Nat)):Int)) (.int .i64 1)=some (.int .i64 (↑(q+(1:Nat)+(1:Nat)):Int))from inc_i (by omega))<|.cutQ k125_1 [(0,.msl kk (0:Nat) n (1:Nat)),(3,.int .i64 (↑U.length)),(4,.msl kk k0 (n-k0) (1:Nat)),(5,.int .i64 (↑(q+(1:Nat)+(1:Nat)):Int))] (ζ1) (fun T hT=>(ih' T hT))) (by kernel_rfl)
  ·have hg:uqG prev (y::post)=y::uqG y post:=by simp[uqG,e]
   rw[hg]
   have n1:binA .neq (.str y) (.str prev)=some (.bool true):=strNeT e
   have i3:idxA 1 (.msl kk 0 n 1) (.int .i64 (U.length:Nat))=some (.ptr kk U.length):=by
    have:=idx_msl (k:=kk) (off:=0) (n:=n) (es:=1) (q:=.i64) (i:=U.length) (by omega)
    rwa [Nat.mul_one,Nat.zero_add]at this
   have st:=does_store1 (tk:=[]) (ls:=[]) y hk (m:=U.length) (by omega)
   rw[List.set_set]at st
   have ih':=ih (q+1+1) (m+1) y (U++[y]) (C.set U.length y) (by omega) (by omega) (by simp[hC]) (by
    rw[List.length_append,List.length_singleton,List.take_add_one,List.getElem?_set_self (by omega),List.take_set_of_le (Nat.le_refl _),hU]
    rfl) (by
    rw[Nat.add_sub_cancel,List.drop_set_of_lt (by omega),hd1]) (by simp;omega)
   rw[List.append_assoc]at ih'
   have el:((U++[y]).length:Int)=((U.length+1:Nat):Int):=by simp
   rw[el]at ih'
   have inc:=inc_i (i:=U.length) (by omega)
   exact let ζ1:Heap:={boxes:=B0.set kk (List.map .str C),toks:=[],loops:=[]:Heap};let ζ2:Heap:={boxes:=B0.set kk (List.map .str (C.set U.length y)),toks:=[],loops:=[]:Heap};goG 90 _ hT (.len (show lenA false (.msl kk k0 (n-k0) (1:Nat))=some (.int .i64 (↑(n-k0):Int))from rfl)<|.yes (show(decide ((↑(q+(1:Nat)):Int)<(↑(n-k0):Int)))=true from decide_eq_true (by omega))<|.idx (show idxA 1 (.msl kk k0 (n-k0) (1:Nat)) (.int .i64 (↑(q+(1:Nat)):Int))=some (.ptr kk (k0+(q+(1:Nat))))from i1)<|.effY (show Does cfg (.load false (1:Nat) (.c (.ptr kk (k0+(q+(1:Nat)))))) ζ1 (.str y) ζ1 from l1)<|.bin (show binA .sub (.int .i64 (↑(q+(1:Nat)):Int)) (.int .i64 1)=some (.int .i64 ↑q)from d1)<|.idx (show idxA 1 (.msl kk k0 (n-k0) (1:Nat)) (.int .i64 ↑q)=some (.ptr kk (k0+q))from i2)<|.effY (show Does cfg (.load false (1:Nat) (.c (.ptr kk (k0+q)))) ζ1 (.str prev) ζ1 from l2)<|.yes (show(!y==prev)=true from by have hh:¬((y==prev)=true):=(by simpa using e);simp[hh])<|.idx (show idxA 1 (.msl kk k0 (n-k0) (1:Nat)) (.int .i64 (↑(q+(1:Nat)):Int))=some (.ptr kk (k0+(q+(1:Nat))))from i1)<|.effY (show Does cfg (.load false (1:Nat) (.c (.ptr kk (k0+(q+(1:Nat)))))) ζ1 (.str y) ζ1 from l1)<|.idx (show idxA 1 (.msl kk (0:Nat) n (1:Nat)) (.int .i64 (↑U.length))=some (.ptr kk U.length)from i3)<|.effY (show Does cfg (.store (1:Nat) (.c (.ptr kk U.length)) (.c (.str y))) ζ1 .undef ζ2 from st)<|.bin (show binA .add (.int .i64 (↑U.length)) (.int .i64 1)=some (.int .i64 (↑(U.length+(1:Nat)):Int))from inc)<|.bin (show binA .add (.int .i64 (↑(q+(1:Nat)):Int)) (.int .i64 1)=some (.int .i64 (↑(q+(1:Nat)+(1:Nat)):Int))from inc_i (by omega))<|.cutQ k125_1 [(0,.msl kk (0:Nat) n (1:Nat)),(3,.int .i64 (↑(U.length+(1:Nat)):Int)),(4,.msl kk k0 (n-k0) (1:Nat)),(5,.int .i64 (↑(q+(1:Nat)+(1:Nat)):Int))] (ζ2) (fun T hT=>(ih' T hT))) (by kernel_rfl)
theorem compact_loop1(hn:n<9223372036854775807)(hk0:kk<B0.length):∀(post:List (List UInt8))(m:Nat)(prev:List UInt8)(C:List (List UInt8))(hm:1≤m)(hC:C.length=n)(hd:C.drop (m-1)=prev::post)(hu:uq C=C.take m++uqG prev post)(T:Env)
 (hT:Has T [(0,.msl kk 0 n 1),(3,.int .i64 m)]),
 Goes cfg a125 k125_0 T ⟨B0.set kk (C.map .str),[],[]⟩ (RetC kk n B0 (uq C)):=by
 intro post
 induction post with
 |nil=>
  intro m prev C hm hC hd hu T hT
  have hlen:n-(m-1)=1:=by
   have:=congrArg List.length hd
   simpa[hC]using this
  have c1:binA .lss (.int .i64 (m:Nat)) (.int .i64 (n:Nat))=some (.bool false):=lssF (by omega)
  have e:uq C=C:=by
   rw[hu,List.take_of_length_le (by omega)];simp[uqG]
  rw[e]
  exact goG 60 _ hT (.len (show lenA false (.msl kk (0:Nat) n (1:Nat))=some (.int .i64 ↑n)from rfl)<|.no (show(decide ((↑m:Int)<(↑n:Int)))=false from decide_eq_false (by omega))<|.fin ((.ret (.msl kk (0:Nat) n (1:Nat)),{boxes:=B0.set kk (List.map .str C),toks:=[],loops:=[]:Heap})) (by exact⟨n,C,rfl,List.take_of_length_le (by omega),by omega,hC⟩)) (by kernel_rfl)
 |cons y post ih=>
  intro m prev C hm hC hd hu T hT
  have hlen:n-(m-1)=post.length+2:=by
   have:=congrArg List.length hd
   simpa[hC]using this
  have hk:(B0.set kk (C.map AV.str))[kk]?=some (C.map .str):=by rw[List.getElem?_set_self hk0]
  have c1:binA .lss (.int .i64 (m:Nat)) (.int .i64 (n:Nat))=some (.bool true):=lssT (by omega)
  have hprev:C[m-1]?=some prev:=drop_at hd
  have hd1:C.drop m=y::post:=by
   have:=drop_next hd
   rwa [show m-1+1=m by omega]at this
  have hy:C[m]?=some y:=drop_at hd1
  obtain⟨q,rfl⟩:∃p,m=p+1:=⟨m-1,by omega⟩
  have i1:idxA 1 (.msl kk 0 n 1) (.int .i64 ((q+1:Nat):Int))=some (.ptr kk (q+1)):=by
   have:=idx_msl (k:=kk) (off:=0) (n:=n) (es:=1) (q:=.i64) (i:=q+1) (by omega)
   rwa [Nat.mul_one,Nat.zero_add]at this
  have i2:idxA 1 (.msl kk 0 n 1) (.int .i64 (q:Nat))=some (.ptr kk q):=by
   have:=idx_msl (k:=kk) (off:=0) (n:=n) (es:=1) (q:=.i64) (i:=q) (by omega)
   rwa [Nat.mul_one,Nat.zero_add]at this
  have l1:=does_load1 (tk:=[]) (ls:=[]) hk hy
  rw[Nat.add_sub_cancel]at hprev
  have l2:=does_load1 (tk:=[]) (ls:=[]) hk hprev
  have d1:=dec_i (i:=q) (by omega)
  by_cases e:y=prev
  ·have n1:binA .eql (.str y) (.str prev)=some (.bool true):=strEqT e
   have hg:uqG prev (y::post)=uqG prev post:=by simp[uqG,e]
   have s1:sliceA 1 (.msl kk 0 n 1) (some (.int .i64 ((q+1:Nat):Int))) none none=some (.msl kk (q+1) (n-(q+1)) 1):=by
    simp only[sliceA,sliceM,boundA]
    rw[if_neg (by omega)]
    rw[if_pos ⟨by omega,by omega⟩]
    simp only[Int.toNat_natCast]
    rw[if_pos (by omega)]
    simp
   have h2:=compact_loop2 kk n B0 hn hk0 (q+1) (by omega) post 1 (q+1+1) prev (C.take (q+1)) C rfl (by omega) hC (by simp[List.take_take]) (by rw[Nat.add_sub_cancel,hd1,e]) (by simp;omega)
   have el:((C.take (q+1)).length:Int)=((q+1:Nat):Int):=by
    rw[List.length_take,Nat.min_eq_left (by omega)]
   rw[el,←hg,←hu]at h2
   exact let ζ1:Heap:={boxes:=B0.set kk (List.map .str C),toks:=[],loops:=[]:Heap};goG 90 _ hT (.len (show lenA false (.msl kk (0:Nat) n (1:Nat))=some (.int .i64 ↑n)from rfl)<|.yes (show(decide ((↑(q+(1:Nat)):Int)<(↑n:Int)))=true from decide_eq_true (by omega))<|.idx (show idxA 1 (.msl kk (0:Nat) n (1:Nat)) (.int .i64 (↑(q+(1:Nat)):Int))=some (.ptr kk (q+(1:Nat)))from i1)<|.effY (show Does cfg (.load false (1:Nat) (.c (.ptr kk (q+(1:Nat))))) ζ1 (.str y) ζ1 from l1)<|.bin (show binA .sub (.int .i64 (↑(q+(1:Nat)):Int)) (.int .i64 1)=some (.int .i64 ↑q)from d1)<|.idx (show idxA 1 (.msl kk (0:Nat) n (1:Nat)) (.int .i64 ↑q)=some (.ptr kk q)from i2)<|.effY (show Does cfg (.load false (1:Nat) (.c (.ptr kk q))) ζ1 (.str prev) ζ1 from l2)<|.yes (show(y==prev)=true from(by simpa using e))<|.slice (show sliceA (1:Nat) (.msl kk (0:Nat) n (1:Nat)) (some (.int .i64 (↑(q+(1:Nat)):Int))) none none=some (.msl kk (q+(1:Nat)) (n-(q+(1:Nat))) (1:Nat))from s1)<|.cutQ k125_1 [(0,.msl kk (0:Nat) n (1:Nat)),(3,.int .i64 (↑(q+(1:Nat)):Int)),(4,.msl kk (q+(1:Nat)) (n-(q+(1:Nat))) (1:Nat)),(5,.int .i64 1)] (ζ1) (fun T hT=>(h2 T hT))) (by kernel_rfl)
  ·have n1:binA .eql (.str y) (.str prev)=some (.bool false):=strEqF e
   have hg:uqG prev (y::post)=y::uqG y post:=by simp[uqG,e]
   have ih':=ih (q+1+1) y C (by omega) hC (by rw[Nat.add_sub_cancel,hd1]) (by
    rw[hu,hg,List.take_add_one (i:=q+1),hy];simp)
   exact let ζ1:Heap:={boxes:=B0.set kk (List.map .str C),toks:=[],loops:=[]:Heap};goG 90 _ hT (.len (show lenA false (.msl kk (0:Nat) n (1:Nat))=some (.int .i64 ↑n)from rfl)<|.yes (show(decide ((↑(q+(1:Nat)):Int)<(↑n:Int)))=true from decide_eq_true (by omega))<|.idx (show idxA 1 (.msl kk (0:Nat) n (1:Nat)) (.int .i64 (↑(q+(1:Nat)):Int))=some (.ptr kk (q+(1:Nat)))from i1)<|.effY (show Does cfg (.load false (1:Nat) (.c (.ptr kk (q+(1:Nat))))) ζ1 (.str y) ζ1 from l1)<|.bin (show binA .sub (.int .i64 (↑(q+(1:Nat)):Int)) (.int .i64 1)=some (.int .i64 ↑q)from d1)<|.idx (show idxA 1 (.msl kk (0:Nat) n (1:Nat)) (.int .i64 ↑q)=some (.ptr kk q)from i2)<|.effY (show Does cfg (.load false (1:Nat) (.c (.ptr kk q))) ζ1 (.str prev) ζ1 from l2)<|.no (show(y==prev)=false from Bool.eq_false_iff.2 (by simpa using e))<|.bin (show binA .add (.int .i64 (↑(q+(1:Nat)):Int)) (.int .i64 1)=some (.int .i64 (↑(q+(1:Nat)+(1:Nat)):Int))from inc_i (by omega))<|.cutQ k125_0 [(0,.msl kk (0:Nat) n (1:Nat)),(3,.int .i64 (↑(q+(1:Nat)+(1:Nat)):Int))] (ζ1) (fun T hT=>(ih' T hT))) (by kernel_rfl)
theorem compact_any(hn:n<9223372036854775807)(hk0:kk<B0.length)(C:List (List UInt8))(hC:C.length=n)(h0:0<n):
 ∃(m:Nat)(C':List (List UInt8)),Does cfg (.callM (.c (.func 125 [])) [.c (.msl kk 0 n 1)]) ⟨B0.set kk (C.map .str),[],[]⟩ (.msl kk 0 m 1) ⟨B0.set kk (C'.map .str),[],[]⟩∧C'.take m=uq C∧m≤C'.length∧C'.length=n:=by
 have key:Goes cfg a125 [.c c125] (initEnv [.msl kk 0 n 1]) ⟨B0.set kk (C.map .str),[],[]⟩ (RetC kk n B0 (uq C)):=by
  by_cases h2:n<2
  ·obtain⟨x,rfl⟩:∃x,C=[x]:=by
    match C,hC with
    |[x],_=>exact⟨x,rfl⟩
    |[],h=>simp at h;omega
    |_::_::_,h=>simp at h;omega
   exact goG 60 [] trivial (.len (show lenA false (.msl kk (0:Nat) n (1:Nat))=some (.int .i64 ↑n)from rfl)<|.yes (show(decide ((↑n:Int)<(2:Int)))=true from decide_eq_true (by omega))<|.fin ((.ret (.msl kk (0:Nat) n (1:Nat)),{boxes:=B0.set kk (List.map .str [x]),toks:=[],loops:=[]:Heap})) (by exact⟨n,[x],rfl,by simp at hC;subst hC;rfl,by simpa using Nat.le_of_eq hC.symm,hC⟩)) (by kernel_rfl)
  ·obtain⟨x,l,rfl⟩:∃x l,C=x::l:=by
    cases C with
    |nil=>simp at hC;omega
    |cons x l=>exact⟨x,l,rfl⟩
   have h1:=compact_loop1 kk n B0 hn hk0 l 1 x (x::l) (by omega) hC rfl rfl
   exact goG 60 [] trivial (.len (show lenA false (.msl kk (0:Nat) n (1:Nat))=some (.int .i64 ↑n)from rfl)<|.no (show(decide ((↑n:Int)<(2:Int)))=false from decide_eq_false (by omega))<|.cutQ k125_0 [(0,.msl kk (0:Nat) n (1:Nat)),(3,.int .i64 1)] ({boxes:=B0.set kk (List.map .str (x::l)),toks:=[],loops:=[]:Heap}) (fun T hT=>(h1 T hT))) (by kernel_rfl)
 obtain⟨r,h,m,C',rfl,h1,h2,h3⟩:=key
 refine⟨m,C',?_,h1,h2,h3⟩
 have h':lim cfg (.fn 125) [.msl kk 0 n 1] ⟨B0.set kk (C.map .str),[],[]⟩=some (.ret (.msl kk 0 m 1),⟨B0.set kk (C'.map .str),[],[]⟩):=by rw[l125];exact h
 have hd:=does_callM (xs:=[.msl kk 0 n 1]) h' rfl rfl
 rwa [show shutA (.msl kk 0 m 1)=.msl kk 0 m 1 from rfl,trunc_len (by simp)]at hd
end
end Go.Aa.T
set_option linter.unusedVariables false
set_option linter.unusedSimpArgs false
set_option maxRecDepth 100000
namespace Go.Aa.T
open Go.Aa Go.Proofs
def encV(v:List Amount):AV:=.sl .sh (v.map encA)
def allNames(vs:List (List Amount)):List (List UInt8):=vs.flatMap fun v=>v.map Amount.name
theorem allNames_cons(v:List Amount)(vs:List (List Amount)):allNames (v::vs)=v.map Amount.name++allNames vs:=rfl
def rM(kk:Nat):List (List UInt8)→AV
 |[]=>.sl .full []
 |_::l=>.msl kk 0 (l.length+1) 1
theorem strsA_map:∀l:List (List UInt8),strsA (l.map .str)=some l
 |[]=>rfl
 |s::l=>by simp[strsA,strsA_map l]
theorem sort_does{kk:Nat}{B:List (List AV)}{l:List (List UInt8)}(hk:B[kk]?=some (l.map .str))(h0:0<l.length)(hb:l.length≤140737488355328):
 Does cfg (.callM (.c (.func 124 [])) [.c (.msl kk 0 l.length 1)]) ⟨B,[],[]⟩ (.tuple []) ⟨B.set kk ((isort l).map .str),[],[]⟩:=by
 have h:lim cfg (.fn 124) [.msl kk 0 l.length 1] ⟨B,[],[]⟩=some (.ret (.tuple []),⟨B.set kk ((isort l).map .str),[],[]⟩):=by
  rw[lim_ext (g:=sortE) rfl rfl]
  have e:sortE [.msl kk 0 l.length 1] ⟨B,[],[]⟩=some (.tuple [],⟨B.set kk ((isort l).map .str),[],[]⟩):=by
   simp only[sortE,hk]
   rw[if_pos ⟨trivial,trivial,h0,by simp,hb⟩,List.take_of_length_le (by simp),strsA_map,List.drop_eq_nil_of_le (by simp)]
   simp
  rw[e];rfl
 have hd:=does_callM (xs:=[.msl kk 0 l.length 1]) h rfl rfl
 rwa [show shutA (.tuple [])=.tuple []from rfl,trunc_len (by simp)]at hd
theorem does_data{g:FuncId}{xs:List AV}{v:AV}(h:Gives cfg g xs v)(zs:List AV)(hx:zs.map shutA=xs)(hd:xs.all isData=true)(h1:shutA v=v)(h2:isData v=true)(H:Heap):
 Does cfg (.call (.c (.func g [])) (zs.map .c)) H v H∧Does cfg (.callM (.c (.func g [])) (zs.map .c)) H v H:=by
 obtain⟨H',h⟩:=h.ret
 constructor<;>intro T
 ·have e:(zs.map Opd.c).map (fun x=>shutA (ev T x))=xs:=by rw[List.map_map];exact hx
  simp only[opStep,e]
  rw[show ev T (.c (.func g []))=.func g []from rfl]
  simp only[callV,hd,List.all_nil,Bool.and_self,if_true,List.append_nil,h,dataOut,h1,h2]
 ·have e:(zs.map Opd.c).map (fun x=>shutA (ev T x))=xs:=by rw[List.map_map];exact hx
  simp only[opStep,e]
  rw[show ev T (.c (.func g []))=.func g []from rfl]
  simp only[callW,hd,List.all_nil,Bool.and_self,if_true,List.append_nil,h,h1,h2]
theorem sort_none:Gives cfg 124 [.sl .sh []] (.tuple []):=by
 have h:lim cfg (.fn 124) [.sl .sh []] Heap.nil=some (.ret (.tuple []),Heap.nil):=by rw[lim_ext (g:=sortE) rfl rfl];rfl
 exact Gives.of h
theorem compact_none:Gives cfg 125 [.sl .sh []] (.sl .sh []):=by
 refine Gives.run (l125 _ _) ?_
 exact goG 60 [] trivial (.len (show lenA false (.sl .sh [])=some (.int .i64 (↑[].length:Int))from len_sl _ _)<|.tt<|.fin ((.ret (.sl .sh []),{boxes:=[],toks:=[],loops:=[]:Heap})) rfl) (by kernel_rfl)
def FinN(acc:List (List UInt8)):ARes×Heap→Prop:=IsOut (.sl .sh ((namesOf acc).map .str))
theorem names_end(vs:List (List Amount))(acc:List (List UInt8))(B:List (List AV))(kk:Nat)(hB:acc=[]∨B[kk]?=some (acc.map .str))(hl:acc.length≤100000)(T:Env)(i:Nat)(hi:vs.length≤i)
 (hT:Has T [(3,rM kk acc),(8,.sl .sh (vs.map encV)),(9,.int .i64 vs.length),(10,.int .i64 i)]):Goes cfg a99 k99_0 T ⟨B,[],[]⟩ (FinN acc):=by
 cases acc with
 |nil=>
  have h1:=(does_data sort_none [.sl .full []] rfl rfl rfl rfl ⟨B,[],[]⟩).2
  have h2:=(does_data compact_none [.sl .full []] rfl rfl rfl rfl ⟨B,[],[]⟩).2
  exact let ζ1:Heap:={boxes:=B,toks:=[],loops:=[]:Heap};goG 60 _ hT (.no (show(decide ((↑i:Int)<(↑vs.length:Int)))=false from decide_eq_false (by omega))<|.effY (show Does cfg (.callM (.c (.func (124:FuncId) [])) (List.map .c [.sl .full []])) ζ1 (.tuple []) ζ1 from h1)<|.effY (show Does cfg (.callM (.c (.func (125:FuncId) [])) (List.map .c [.sl .full []])) ζ1 (.sl .sh []) ζ1 from h2)<|.fin ((.ret (.sl .sh []),ζ1)) (by exact⟨_,rfl,rfl⟩)) (by kernel_rfl)
 |cons x l=>
  have hk:B[kk]?=some ((x::l).map .str):=by simpa using hB
  have h1:=sort_does hk (by simp) (by omega)
  have hkl:kk<B.length:=(List.getElem?_eq_some_iff.1 hk).1
  obtain⟨m,C,h2,h3,h4,h5⟩:=compact_any kk (x::l).length B (by omega) hkl (isort (x::l)) (isort_length _) (by simp)
  rw[List.length_cons]at h1 h2 h5
  have hout:dataOut ⟨B.set kk (C.map .str),[],[]⟩ (.msl kk 0 m 1)=some (.sl .sh ((namesOf (x::l)).map .str)):=by
   have:=out_box1 (bs:=B.set kk (C.map .str)) (tk:=[]) (ls:=[]) (kk:=kk) (n:=m) (List.getElem?_set_self hkl) (by simpa using h4) (strs_data C)
   rw[this,←List.map_take,h3];rfl
  exact let ζ1:Heap:={boxes:=B.set kk (List.map .str (isort (x::l))),toks:=[],loops:=[]:Heap};let ζ2:Heap:={boxes:=B.set kk (List.map .str C),toks:=[],loops:=[]:Heap};goG 60 _ hT (.no (show(decide ((↑i:Int)<(↑vs.length:Int)))=false from decide_eq_false (by omega))<|.effY (show Does cfg (.callM (.c (.func (124:FuncId) [])) [.c (.msl kk (0:Nat) (l.length+(1:Nat)) (1:Nat))]) {boxes:=B,toks:=[],loops:=[]:Heap} (.tuple []) ζ1 from h1)<|.effY (show Does cfg (.callM (.c (.func (125:FuncId) [])) [.c (.msl kk (0:Nat) (l.length+(1:Nat)) (1:Nat))]) ζ1 (.msl kk (0:Nat) m (1:Nat)) ζ2 from h2)<|.fin ((.ret (.msl kk (0:Nat) m (1:Nat)),ζ2)) (by exact⟨_,rfl,hout⟩)) (by kernel_rfl)
theorem names_outer(vs:List (List Amount))(hv:vs.length≤100)(hs:∀v∈vs,v.length≤100):∀(post:List (List Amount))(i:Nat)(hd:vs.drop i=post)(hi:i≤vs.length)(acc:List (List UInt8))(B:List (List AV))(kk:Nat)(hB:acc=[]∨B[kk]?=some (acc.map .str))(hl:acc.length≤100*i)(T:Env)
 (hT:Has T [(3,rM kk acc),(8,.sl .sh (vs.map encV)),(9,.int .i64 vs.length),(10,.int .i64 i)]),Goes cfg a99 k99_0 T ⟨B,[],[]⟩ (FinN (acc++allNames post)):=by
 intro post
 induction post with
 |nil=>
  intro i hd hi acc B kk hB hl T hT
  have hge:=drop_ge hd
  rw[show acc++allNames []=acc by simp[allNames]]
  exact names_end vs acc B kk hB (by omega) T i hge hT
 |cons v post ih=>
  intro i hd hi acc B kk hB hl T hT
  have hlt:=drop_lt hd
  have hnx:=drop_next hd
  have hvl:=hs v (drop_mem hd)
  have hix:idxA 1 (.sl .sh (vs.map encV)) (.int .i64 (i:Nat))=some (.ref [encV v]):=idx_row (f:=encV) hd rfl
  have inner:∀(ip:List Amount)(j:Nat)(hj:v.drop j=ip)(hj0:j≤v.length)(acc:List (List UInt8))(B:List (List AV))(kk:Nat)(hB:acc=[]∨B[kk]?=some (acc.map .str))(hl:acc.length≤100*i+j)(T:Env)
   (hT:Has T [(3,rM kk acc),(8,.sl .sh (vs.map encV)),(9,.int .i64 vs.length),(10,.int .i64 i),(14,encV v),(15,.int .i64 v.length),(16,.int .i64 j)]),Goes cfg a99 k99_1 T ⟨B,[],[]⟩ (FinN (acc++(ip.map Amount.name++allNames post))):=by
   intro ip
   induction ip with
   |nil=>
    intro j hj hj0 acc B kk hB hl T hT
    have hge:=drop_ge hj
    have ih':=ih (i+1) hnx hlt acc B kk hB (by omega)
    rw[List.map_nil,List.nil_append]
    exact goG 60 _ hT (.no (show(decide ((↑j:Int)<(↑v.length:Int)))=false from decide_eq_false (by omega))<|.bin (show binA .add (.int .i64 ↑i) (.int .i64 1)=some (.int .i64 (↑(i+1)))from inc_i (by omega))<|.cutQ k99_0 [(3,rM kk acc),(8,.sl .sh (vs.map encV)),(9,.int .i64 (↑vs.length)),(10,.int .i64 (↑(i+1)))] ({boxes:=B,toks:=[],loops:=[]:Heap}) (fun T hT=>(ih' T hT))) (by kernel_rfl)
   |cons x ip ihj=>
    intro j hj hj0 acc B kk hB hl T hT
    have hltj:=drop_lt hj
    have hnxj:=drop_next hj
    have hxi:idxA 2 (encV v) (.int .i64 (j:Nat))=some (.ref [.str x.name,.int .i64 x.n]):=idx_row (f:=encA) hj rfl
    have e:acc++((x::ip).map Amount.name++allNames post)=(acc++[x.name])++(ip.map Amount.name++allNames post):=by simp
    rw[e]
    cases acc with
    |nil=>
     have ap:=does_newB (es:=1) (b:=16) (B:=B++[(encA x).cells]) (tk:=[]) (ls:=[]) (v:=.str x.name) (sk:=.full) rfl rfl (by omega)
     have ih':=ihj (j+1) hnxj hltj [x.name] (B++[(encA x).cells]++[[AV.str x.name]]) (B++[(encA x).cells]).length (.inr (by simp)) (by simp;omega)
     exact let ζ1:Heap:={boxes:=B++[[AV.str x.name,.int .i64 x.n]],toks:=[],loops:=[]:Heap};goG 90 _ hT (.yes (show(decide ((↑j:Int)<(↑v.length:Int)))=true from decide_eq_true (by omega))<|.idx (show idxA 2 (.sl .sh (v.map encA)) (.int .i64 ↑j)=some (.ref [.str x.name,.int .i64 x.n])from hxi)<|.load (show loadA true 2 {boxes:=B,toks:=[],loops:=[]:Heap} (.ref [.str x.name,.int .i64 x.n])=some (.agg [.str x.name,.int .i64 x.n])from rfl)<|.store (show storeA 2 {boxes:=B++[[AV.str [],.int .i64 0]],toks:=[],loops:=[]:Heap} (.ptr B.length (0:Nat)) (.agg [.str x.name,.int .i64 x.n])=some (ζ1)from store_box2 (cs:=[.str [],.int .i64 0]) (cs':=[.str x.name,.int .i64 x.n]) (by simp+zetaDelta) rfl (by simp+zetaDelta [List.set_append]))<|.load (show loadA false 1 ζ1 (.ptr B.length (0:Nat))=some (.str x.name)from load_box (cs:=[.str x.name,.int .i64 x.n]) (by simp+zetaDelta) rfl)<|.effY (show Does cfg (.appendM (1:Nat) (16:Nat) (.c (.sl .full [])) (.c (.sl .full [.str x.name]))) {boxes:=B++[(encA x).cells],toks:=[],loops:=[]:Heap} (.msl (B++[(encA x).cells]).length (0:Nat) (1:Nat) (1:Nat)) {boxes:=B++[(encA x).cells]++[(AV.str x.name).cells],toks:=[],loops:=[]:Heap}from ap)<|.bin (show binA .add (.int .i64 ↑j) (.int .i64 1)=some (.int .i64 (↑(j+(1:Nat)):Int))from inc_i (by omega))<|.cutQ k99_1 [(3,.msl (B++[[AV.str x.name,.int .i64 x.n]]).length (0:Nat) (1:Nat) (1:Nat)),(8,.sl .sh (vs.map encV)),(9,.int .i64 (↑vs.length)),(10,.int .i64 ↑i),(14,.sl .sh (v.map encA)),(15,.int .i64 (↑v.length)),(16,.int .i64 (↑(j+(1:Nat)):Int))] ({boxes:=B++[[AV.str x.name,.int .i64 x.n]]++[[AV.str x.name]],toks:=[],loops:=[]:Heap}) (fun T hT=>(ih' T hT))) (by kernel_rfl)
    |cons y l=>
     have hk:B[kk]?=some ((y::l).map .str):=by simpa using hB
     have hk2:(B++[(encA x).cells])[kk]?=some ((y::l).map .str):=by rw[List.getElem?_append_left (List.getElem?_eq_some_iff.1 hk).1,hk]
     have ap:=does_growB (es:=1) (b:=16) (n:=l.length+1) (tk:=[]) (ls:=[]) (v:=.str x.name) (sk:=.full) hk2 (by simp) (by omega) (strs_data _) rfl rfl (by simp at hl;omega)
     obtain⟨D,hD⟩:∃D,D=(y::l).map AV.str++(AV.str x.name).cells:=⟨_,rfl⟩
     rw[←hD]at ap
     have ih':=ihj (j+1) hnxj hltj ((y::l)++[x.name]) ((B++[(encA x).cells]).set kk []++[D]) (B++[(encA x).cells]).length (.inr (by
      rw[List.getElem?_append_right (by simp),hD];simp[AV.cells])) (by simp at hl⊢;omega)
     have er:rM (B++[(encA x).cells]).length ((y::l)++[x.name])=.msl (B++[(encA x).cells]).length 0 (l.length+1+1) 1:=by simp[rM]
     rw[er]at ih'
     exact let ζ1:Heap:={boxes:=(B++[(encA x).cells]).set kk []++[D],toks:=[],loops:=[]:Heap};let ζ2:Heap:={boxes:=B++[[AV.str x.name,.int .i64 x.n]],toks:=[],loops:=[]:Heap};goG 90 _ hT (.yes (show(decide ((↑j:Int)<(↑v.length:Int)))=true from decide_eq_true (by omega))<|.idx (show idxA 2 (.sl .sh (v.map encA)) (.int .i64 ↑j)=some (.ref [.str x.name,.int .i64 x.n])from hxi)<|.load (show loadA true 2 {boxes:=B,toks:=[],loops:=[]:Heap} (.ref [.str x.name,.int .i64 x.n])=some (.agg [.str x.name,.int .i64 x.n])from rfl)<|.store (show storeA 2 {boxes:=B++[[AV.str [],.int .i64 0]],toks:=[],loops:=[]:Heap} (.ptr B.length (0:Nat)) (.agg [.str x.name,.int .i64 x.n])=some (ζ2)from store_box2 (cs:=[.str [],.int .i64 0]) (cs':=[.str x.name,.int .i64 x.n]) (by simp+zetaDelta) rfl (by simp+zetaDelta [List.set_append]))<|.load (show loadA false 1 ζ2 (.ptr B.length (0:Nat))=some (.str x.name)from load_box (cs:=[.str x.name,.int .i64 x.n]) (by simp+zetaDelta) rfl)<|.effY (show Does cfg (.appendM (1:Nat) (16:Nat) (.c (.msl kk (0:Nat) (l.length+(1:Nat)) (1:Nat))) (.c (.sl .full [.str x.name]))) {boxes:=B++[(encA x).cells],toks:=[],loops:=[]:Heap} (.msl (B++[(encA x).cells]).length (0:Nat) (l.length+(1:Nat)+(1:Nat)) (1:Nat)) ζ1 from ap)<|.bin (show binA .add (.int .i64 ↑j) (.int .i64 1)=some (.int .i64 (↑(j+(1:Nat)):Int))from inc_i (by omega))<|.cutQ k99_1 [(3,.msl (B++[[AV.str x.name,.int .i64 x.n]]).length (0:Nat) (l.length+(1:Nat)+(1:Nat)) (1:Nat)),(8,.sl .sh (vs.map encV)),(9,.int .i64 (↑vs.length)),(10,.int .i64 ↑i),(14,.sl .sh (v.map encA)),(15,.int .i64 (↑v.length)),(16,.int .i64 (↑(j+(1:Nat)):Int))] (ζ1) (fun T hT=>(ih' T hT))) (by kernel_rfl)
  have h2:=inner v 0 rfl (Nat.zero_le _) acc B kk hB (by omega)
  rw[allNames_cons]
  exact let ζ1:Heap:={boxes:=B,toks:=[],loops:=[]:Heap};goG 60 _ hT (.yes (show(decide ((↑i:Int)<(↑vs.length:Int)))=true from decide_eq_true (by omega))<|.idx (show idxA 1 (.sl .sh (vs.map encV)) (.int .i64 ↑i)=some (.ref [encV v])from hix)<|.load (show loadA false 1 ζ1 (.ref [.sl .sh (v.map encA)])=some (.sl .sh (v.map encA))from rfl)<|.len (show lenA false (.sl .sh (v.map encA))=some (.int .i64 (↑v.length))from len_map _)<|.cutQ k99_1 [(3,rM kk acc),(8,.sl .sh (vs.map encV)),(9,.int .i64 (↑vs.length)),(10,.int .i64 ↑i),(14,.sl .sh (v.map encA)),(15,.int .i64 (↑v.length)),(16,.int .i64 0)] (ζ1) (fun T hT=>(h2 T hT))) (by kernel_rfl)
theorem names_any(vs:List (List Amount))(hv:vs.length≤100)(hs:∀v∈vs,v.length≤100):GivesF cfg 99 [.sl .sh (vs.map encV)] (.sl .sh ((namesOf (allNames vs)).map .str)):=by
 refine GivesF.run (l99 _ _) ?_
 have h:=names_outer vs hv hs vs 0 rfl (Nat.zero_le _) [] [] 0 (.inl rfl) (by simp)
 exact goG 60 [] trivial (.len (show lenA false (.sl .sh (vs.map encV))=some (.int .i64 (↑vs.length))from len_map _)<|.cutQ k99_0 [(3,.sl .full []),(8,.sl .sh (vs.map encV)),(9,.int .i64 (↑vs.length)),(10,.int .i64 0)] ({boxes:=[],toks:=[],loops:=[]:Heap}) (fun T hT=>(h T hT))) (by kernel_rfl)
end Go.Aa.T


